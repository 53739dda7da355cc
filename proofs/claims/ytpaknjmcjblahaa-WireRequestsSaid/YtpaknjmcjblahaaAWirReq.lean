/- The law WireRequests: walked. -/
import Derived.Test.YtpaknjmcjblahaaAWirN
import Derived.Test.YtpaknjmcjblahaaAReg
import Derived.Deep.RegionHeld3
namespace Go.Proofs.Ytpaknjmcjblahaa.H
open Go.RowKit Go.Proofs.Ytpaknjmcjblahaa.P Go.Proofs.YtpaknjmcjblahaaW.PrintWords Go.Proofs.YtpaknjmcjblahaaW.PrintLast Go.Proofs.YtpaknjmcjblahaaW.PrintMore
attribute [local go_sem high] eqA36
set_option linter.unusedVariables false
set_option linter.unusedSimpArgs false
set_option maxRecDepth 20000
set_option maxHeartbeats 16000000 in
theorem wireRequests_any (r : Rq) (hu : okRq r) (A : Option Addr) (c : Nat) (l : List Int) (w : World) (hC : Kd.C (Kd.int .u8) w A l.length l) (hc : l.length ≤ c) (hby : bytes l) :
    Calls Try.prog 3 #[.agg #[.int .i64 r.k, .int .i64 r.s, .string r.nm, .int .i64 r.ek, .int .i64 r.ru.f0, .int .i64 r.ru.f1, .int .i64 r.ru.f2, .int .i64 r.ru.f3, .int .u32 r.ru.f4.f0, .int .u32 r.ru.f4.f1, .int .i64 r.ru.f5, .int .i64 r.qk, .int .i64 r.qa, .int .i64 r.qb, .int .i64 r.qw, .int .u32 r.qf, .int .u32 r.qt, .string r.qo], .slice A l.length c] w fun e w' => e = .returned (.bool true) ∧ Below w.heap.size w w' := by
  have HC := Aside0.mk hC
  have HBY := Aside0.mk hby
  have HCC := Aside0.mk hc
  have CF := Aside0.mk (show ∀ W : World, Calls Try.prog 8 #[.agg #[.int .i64 r.k, .int .i64 r.s, .string r.nm, .int .i64 r.ek, .int .i64 r.ru.f0, .int .i64 r.ru.f1, .int .i64 r.ru.f2, .int .i64 r.ru.f3, .int .u32 r.ru.f4.f0, .int .u32 r.ru.f4.f1, .int .i64 r.ru.f5, .int .i64 r.qk, .int .i64 r.qa, .int .i64 r.qb, .int .i64 r.qw, .int .u32 r.qf, .int .u32 r.qt, .string r.qo], .agg #[.int .i64 0, .int .i64 0, .slice none 0 0, .slice none 0 0, .bool false, .int .i64 0, .int .u32 0, .slice none 0 0, .int .i64 0, .int .i64 0, .int .i64 0]] W (fun e w' => e = .returned (.bool (fitsB r zRs)) ∧ Below W.heap.size W w') from fun W => fits_any r zRs none 0 none 0 none 0 W (nilI W) (Nat.le_refl _) (nilR W) (Nat.le_refl _) (nilI W) (Nat.le_refl _))
  generalize fitsB r zRs = fb at *
  have CE := Aside0.mk (show ∀ W : World, Calls Try.prog 10 #[.agg #[.int .i64 r.k, .int .i64 r.s, .string r.nm, .int .i64 r.ek, .int .i64 r.ru.f0, .int .i64 r.ru.f1, .int .i64 r.ru.f2, .int .i64 r.ru.f3, .int .u32 r.ru.f4.f0, .int .u32 r.ru.f4.f1, .int .i64 r.ru.f5, .int .i64 r.qk, .int .i64 r.qa, .int .i64 r.qb, .int .i64 r.qw, .int .u32 r.qf, .int .u32 r.qt, .string r.qo]] W (fun e w' => (∃ v, e = .returned (.tuple #[v, .int .i64 (encOut r).2]) ∧ Kd.R (Kd.int .u8) 5 w' W.heap.size (fun _ => True) v (encOut r).1) ∧ Below W.heap.size W w') from fun W => enc_any r hu W)
  have CG := Aside0.mk (show ∀ W : World, Calls Try.prog 11 #[.agg #[.int .i64 r.k, .int .i64 r.s, .string r.nm, .int .i64 r.ek, .int .i64 r.ru.f0, .int .i64 r.ru.f1, .int .i64 r.ru.f2, .int .i64 r.ru.f3, .int .u32 r.ru.f4.f0, .int .u32 r.ru.f4.f1, .int .i64 r.ru.f5, .int .i64 r.qk, .int .i64 r.qa, .int .i64 r.qb, .int .i64 r.qw, .int .u32 r.qf, .int .u32 r.qt, .string r.qo]] W (fun e w' => (∃ v, e = .returned (.tuple #[v, .int .i64 (encOut r).2]) ∧ Kd.R (Kd.int .u8) 5 w' W.heap.size (fun _ => True) v (encOut r).1) ∧ Below W.heap.size W w') from fun W => refenc_any r hu W)
  rcases hE : encOut r with ⟨L, ec⟩
  rw [hE] at CE CG
  simp only [] at CE CG
  have CR := Aside0.mk (fun W => right_any r hu W)
  have CQ := Aside0.mk (fun W => refright_any r hu W)
  generalize rightQ r = rb at *
  have CA := Aside0.mk alive_any
  have HB := Aside0.mk ((Below.refl w.heap.size w).alloc (Nat.le_refl _) (.cells #[.int .i64 r.k, .int .i64 r.s, .string r.nm, .int .i64 r.ek, .int .i64 r.ru.f0, .int .i64 r.ru.f1, .int .i64 r.ru.f2, .int .i64 r.ru.f3, .int .u32 r.ru.f4.f0, .int .u32 r.ru.f4.f1, .int .i64 r.ru.f5, .int .i64 r.qk, .int .i64 r.qa, .int .i64 r.qb, .int .i64 r.qw, .int .u32 r.qf, .int .u32 r.qt, .string r.qo] 36))
  have KX := Aside0.mk (blk_new w (.cells #[.int .i64 r.k, .int .i64 r.s, .string r.nm, .int .i64 r.ek, .int .i64 r.ru.f0, .int .i64 r.ru.f1, .int .i64 r.ru.f2, .int .i64 r.ru.f3, .int .u32 r.ru.f4.f0, .int .u32 r.ru.f4.f1, .int .i64 r.ru.f5, .int .i64 r.qk, .int .i64 r.qa, .int .i64 r.qb, .int .i64 r.qw, .int .u32 r.qf, .int .u32 r.qt, .string r.qo] 36))
  clear hC hc hby hE hu
  go_enter Try.func3, Try.ntmps3
  try dsimp only
  repeat ((fail_if_success (show Code.wp _ (Code.seq (Code.region 1 _ _) _) _ _ _)); (first | go_values | go_skip | go_guarded | go_step | go_upon | go_back))
  generalize (w.alloc (.cells #[.int .i64 r.k, .int .i64 r.s, .string r.nm, .int .i64 r.ek, .int .i64 r.ru.f0, .int .i64 r.ru.f1, .int .i64 r.ru.f2, .int .i64 r.ru.f3, .int .u32 r.ru.f4.f0, .int .u32 r.ru.f4.f1, .int .i64 r.ru.f5, .int .i64 r.qk, .int .i64 r.qa, .int .i64 r.qb, .int .i64 r.qw, .int .u32 r.qf, .int .u32 r.qt, .string r.qo] 36)) = W0 at *
  try dsimp only
  repeat ((fail_if_success (show Oper.wp _ (Oper.mk _ (Op.load 36 _) _ _ _ _) _ _ _ _)); (first | go_values | go_skip | go_guarded | go_step | go_upon | go_back))
  refine wp_load_row KX.out rfl rfl Try.underlying36 rfl (by kernel_rfl) ?_
  try go_simp
  go_wp2_with fail
  refine (CF.out W0).mono ?_
  rintro e W1 ⟨rfl, hb⟩
  replace KX := Aside0.mk (blk_below KX.out hb)
  replace HB := Aside0.mk (HB.out.trans (hb.mono HB.out.size))
  clear hb CF
  cases fb with
  | false =>
    go_wp2_with fail
    refine (CA.out W1).mono ?_
    rintro e W2 ⟨rfl, hb⟩
    replace HB := Aside0.mk (HB.out.trans (hb.mono HB.out.size))
    clear hb
    go_wp2_with fail
    go_ret
    exact ⟨rfl, HB.out⟩
  | true =>
    by_cases hl : 2000 < (l.length : Int)
    · go_wp2_with fail
      refine (CA.out W1).mono ?_
      rintro e W2 ⟨rfl, hb⟩
      replace HB := Aside0.mk (HB.out.trans (hb.mono HB.out.size))
      clear hb
      go_wp2_with fail
      go_ret
      exact ⟨rfl, HB.out⟩
    · have hl2 := Aside0.mk (show l.length < 140737488355328 from by omega)
      try dsimp only
      repeat ((fail_if_success (show Oper.wp _ (Oper.mk _ (Op.load 36 _) _ _ _ _) _ _ _ _)); (first | go_values | go_skip | go_guarded | go_step | go_upon | go_back))
      refine wp_load_row KX.out rfl rfl Try.underlying36 rfl (by kernel_rfl) ?_
      try go_simp
      clear hl
      go_wp2_with fail
      refine (CE.out W1).mono ?_
      rintro e W2 ⟨⟨vx, rfl, hR⟩, hb⟩
      obtain ⟨Ax, cx, rfl⟩ := Kd.R_slice hR
      have RX := Aside0.mk hR
      replace KX := Aside0.mk (blk_below KX.out hb)
      replace HB := Aside0.mk (HB.out.trans (hb.mono HB.out.size))
      clear hb hR CE
      try dsimp only
      repeat ((fail_if_success (show Oper.wp _ (Oper.mk _ (Op.load 36 _) _ _ _ _) _ _ _ _)); (first | go_values | go_skip | go_guarded | go_step | go_upon | go_back))
      refine wp_load_row KX.out rfl rfl Try.underlying36 rfl (by kernel_rfl) ?_
      try go_simp
      go_wp2_with fail
      refine (CG.out W2).mono ?_
      rintro e W3 ⟨⟨vy, rfl, hR⟩, hb⟩
      obtain ⟨Ay, cy, rfl⟩ := Kd.R_slice hR
      have RY := Aside0.mk hR
      replace KX := Aside0.mk (blk_below KX.out hb)
      replace RX := Aside0.mk (Kd.R_below RX.out hb)
      replace HB := Aside0.mk (HB.out.trans (hb.mono HB.out.size))
      clear hb hR CG
      have CD := Aside0.mk (fun (W : World) (hb : Below w.heap.size w W) => dec_any A c l W (Kd.C_below HC.out hb) HCC.out hl2.out HBY.out)
      have CH := Aside0.mk (fun (W : World) (hb : Below w.heap.size w W) => refdec_any A c l W (Kd.C_below HC.out hb) HCC.out hl2.out HBY.out)
      rcases hD : decOut l with ⟨d, dc⟩
      rw [hD] at CD CH
      unfold rqVals at CD CH
      simp only [] at CD CH
      clear hD
      go_wp2_with fail
      refine (CD.out W3 HB.out).mono ?_
      rintro e W4 ⟨rfl, hb⟩
      replace KX := Aside0.mk (blk_below KX.out hb)
      replace RX := Aside0.mk (Kd.R_below RX.out hb)
      replace RY := Aside0.mk (Kd.R_below RY.out hb)
      replace HB := Aside0.mk (HB.out.trans (hb.mono HB.out.size))
      clear hb CD
      have hlo := HB.out.size
      have hbn := (Below.refl W4.heap.size W4).alloc (Nat.le_refl _) (.cells #[.int .i64 0, .int .i64 0, .string ⟨#[]⟩, .int .i64 0, .int .i64 0, .int .i64 0, .int .i64 0, .int .i64 0, .int .u32 0, .int .u32 0, .int .i64 0, .int .i64 0, .int .i64 0, .int .i64 0, .int .i64 0, .int .u32 0, .int .u32 0, .string ⟨#[]⟩] 36)
      have KP := Aside0.mk (blk_new W4 (.cells #[.int .i64 0, .int .i64 0, .string ⟨#[]⟩, .int .i64 0, .int .i64 0, .int .i64 0, .int .i64 0, .int .i64 0, .int .u32 0, .int .u32 0, .int .i64 0, .int .i64 0, .int .i64 0, .int .i64 0, .int .i64 0, .int .u32 0, .int .u32 0, .string ⟨#[]⟩] 36))
      have hbr := below_row (B := W4.heap.size) hbn (Nat.le_refl _) (C := #[.int .i64 d.k, .int .i64 d.s, .string d.nm, .int .i64 d.ek, .int .i64 d.ru.f0, .int .i64 d.ru.f1, .int .i64 d.ru.f2, .int .i64 d.ru.f3, .int .u32 d.ru.f4.f0, .int .u32 d.ru.f4.f1, .int .i64 d.ru.f5, .int .i64 d.qk, .int .i64 d.qa, .int .i64 d.qb, .int .i64 d.qw, .int .u32 d.qf, .int .u32 d.qt, .string d.qo])
      replace KX := Aside0.mk (blk_below KX.out hbr)
      replace RX := Aside0.mk (Kd.R_below RX.out hbr)
      replace RY := Aside0.mk (Kd.R_below RY.out hbr)
      replace HB := Aside0.mk (HB.out.trans (hbr.mono HB.out.size))
      clear hbn hbr hlo
      try dsimp only
      repeat ((fail_if_success (show Oper.wp _ (Oper.mk none (Op.store _ _ _) _ _ _ _) _ _ _ _)); (first | go_values | go_skip | go_guarded | go_step | go_upon | go_back))
      refine wp_store_row (c' := #[.int .i64 d.k, .int .i64 d.s, .string d.nm, .int .i64 d.ek, .int .i64 d.ru.f0, .int .i64 d.ru.f1, .int .i64 d.ru.f2, .int .i64 d.ru.f3, .int .u32 d.ru.f4.f0, .int .u32 d.ru.f4.f1, .int .i64 d.ru.f5, .int .i64 d.qk, .int .i64 d.qa, .int .i64 d.qb, .int .i64 d.qw, .int .u32 d.qf, .int .u32 d.qt, .string d.qo]) KP.out rfl rfl rfl rfl (by kernel_rfl) rfl (by simp [Value.oneCell']) ?_
      replace KP := Aside0.mk (heap_setRow_self (cs := #[.int .i64 d.k, .int .i64 d.s, .string d.nm, .int .i64 d.ek, .int .i64 d.ru.f0, .int .i64 d.ru.f1, .int .i64 d.ru.f2, .int .i64 d.ru.f3, .int .u32 d.ru.f4.f0, .int .u32 d.ru.f4.f1, .int .i64 d.ru.f5, .int .i64 d.qk, .int .i64 d.qa, .int .i64 d.qb, .int .i64 d.qw, .int .u32 d.qf, .int .u32 d.qt, .string d.qo]) KP.out)
      generalize ((W4.alloc (.cells #[.int .i64 0, .int .i64 0, .string ⟨#[]⟩, .int .i64 0, .int .i64 0, .int .i64 0, .int .i64 0, .int .i64 0, .int .u32 0, .int .u32 0, .int .i64 0, .int .i64 0, .int .i64 0, .int .i64 0, .int .i64 0, .int .u32 0, .int .u32 0, .string ⟨#[]⟩] 36)).setRow W4.heap.size #[.int .i64 d.k, .int .i64 d.s, .string d.nm, .int .i64 d.ek, .int .i64 d.ru.f0, .int .i64 d.ru.f1, .int .i64 d.ru.f2, .int .i64 d.ru.f3, .int .u32 d.ru.f4.f0, .int .u32 d.ru.f4.f1, .int .i64 d.ru.f5, .int .i64 d.qk, .int .i64 d.qa, .int .i64 d.qb, .int .i64 d.qw, .int .u32 d.qf, .int .u32 d.qt, .string d.qo]) = W5 at *
      obtain ⟨gKP, hgKP⟩ : ∃ g, W4.heap.size = g := ⟨_, rfl⟩
      rw [hgKP] at KP ⊢
      clear hgKP
      go_wp2_with fail
      refine (CH.out W5 HB.out).mono ?_
      rintro e W6 ⟨rfl, hb⟩
      replace KX := Aside0.mk (blk_below KX.out hb)
      replace KP := Aside0.mk (blk_below KP.out hb)
      replace RX := Aside0.mk (Kd.R_below RX.out hb)
      replace RY := Aside0.mk (Kd.R_below RY.out hb)
      replace HB := Aside0.mk (HB.out.trans (hb.mono HB.out.size))
      clear hb CH
      have hlo := HB.out.size
      have hbn := (Below.refl W6.heap.size W6).alloc (Nat.le_refl _) (.cells #[.int .i64 0, .int .i64 0, .string ⟨#[]⟩, .int .i64 0, .int .i64 0, .int .i64 0, .int .i64 0, .int .i64 0, .int .u32 0, .int .u32 0, .int .i64 0, .int .i64 0, .int .i64 0, .int .i64 0, .int .i64 0, .int .u32 0, .int .u32 0, .string ⟨#[]⟩] 36)
      have KQ := Aside0.mk (blk_new W6 (.cells #[.int .i64 0, .int .i64 0, .string ⟨#[]⟩, .int .i64 0, .int .i64 0, .int .i64 0, .int .i64 0, .int .i64 0, .int .u32 0, .int .u32 0, .int .i64 0, .int .i64 0, .int .i64 0, .int .i64 0, .int .i64 0, .int .u32 0, .int .u32 0, .string ⟨#[]⟩] 36))
      have hbr := below_row (B := W6.heap.size) hbn (Nat.le_refl _) (C := #[.int .i64 d.k, .int .i64 d.s, .string d.nm, .int .i64 d.ek, .int .i64 d.ru.f0, .int .i64 d.ru.f1, .int .i64 d.ru.f2, .int .i64 d.ru.f3, .int .u32 d.ru.f4.f0, .int .u32 d.ru.f4.f1, .int .i64 d.ru.f5, .int .i64 d.qk, .int .i64 d.qa, .int .i64 d.qb, .int .i64 d.qw, .int .u32 d.qf, .int .u32 d.qt, .string d.qo])
      replace KX := Aside0.mk (blk_below KX.out hbr)
      replace KP := Aside0.mk (blk_below KP.out hbr)
      replace RX := Aside0.mk (Kd.R_below RX.out hbr)
      replace RY := Aside0.mk (Kd.R_below RY.out hbr)
      replace HB := Aside0.mk (HB.out.trans (hbr.mono HB.out.size))
      clear hbn hbr hlo
      try dsimp only
      repeat ((fail_if_success (show Oper.wp _ (Oper.mk none (Op.store _ _ _) _ _ _ _) _ _ _ _)); (first | go_values | go_skip | go_guarded | go_step | go_upon | go_back))
      refine wp_store_row (c' := #[.int .i64 d.k, .int .i64 d.s, .string d.nm, .int .i64 d.ek, .int .i64 d.ru.f0, .int .i64 d.ru.f1, .int .i64 d.ru.f2, .int .i64 d.ru.f3, .int .u32 d.ru.f4.f0, .int .u32 d.ru.f4.f1, .int .i64 d.ru.f5, .int .i64 d.qk, .int .i64 d.qa, .int .i64 d.qb, .int .i64 d.qw, .int .u32 d.qf, .int .u32 d.qt, .string d.qo]) KQ.out rfl rfl rfl rfl (by kernel_rfl) rfl (by simp [Value.oneCell']) ?_
      replace KQ := Aside0.mk (heap_setRow_self (cs := #[.int .i64 d.k, .int .i64 d.s, .string d.nm, .int .i64 d.ek, .int .i64 d.ru.f0, .int .i64 d.ru.f1, .int .i64 d.ru.f2, .int .i64 d.ru.f3, .int .u32 d.ru.f4.f0, .int .u32 d.ru.f4.f1, .int .i64 d.ru.f5, .int .i64 d.qk, .int .i64 d.qa, .int .i64 d.qb, .int .i64 d.qw, .int .u32 d.qf, .int .u32 d.qt, .string d.qo]) KQ.out)
      generalize ((W6.alloc (.cells #[.int .i64 0, .int .i64 0, .string ⟨#[]⟩, .int .i64 0, .int .i64 0, .int .i64 0, .int .i64 0, .int .i64 0, .int .u32 0, .int .u32 0, .int .i64 0, .int .i64 0, .int .i64 0, .int .i64 0, .int .i64 0, .int .u32 0, .int .u32 0, .string ⟨#[]⟩] 36)).setRow W6.heap.size #[.int .i64 d.k, .int .i64 d.s, .string d.nm, .int .i64 d.ek, .int .i64 d.ru.f0, .int .i64 d.ru.f1, .int .i64 d.ru.f2, .int .i64 d.ru.f3, .int .u32 d.ru.f4.f0, .int .u32 d.ru.f4.f1, .int .i64 d.ru.f5, .int .i64 d.qk, .int .i64 d.qa, .int .i64 d.qb, .int .i64 d.qw, .int .u32 d.qf, .int .u32 d.qt, .string d.qo]) = W7 at *
      obtain ⟨gKQ, hgKQ⟩ : ∃ g, W6.heap.size = g := ⟨_, rfl⟩
      rw [hgKQ] at KQ ⊢
      clear hgKQ
      have hbd := below_drew (Below.refl W7.heap.size W7)
      replace KX := Aside0.mk (blk_below KX.out hbd)
      replace KP := Aside0.mk (blk_below KP.out hbd)
      replace KQ := Aside0.mk (blk_below KQ.out hbd)
      replace RX := Aside0.mk (Kd.R_below RX.out hbd)
      replace RY := Aside0.mk (Kd.R_below RY.out hbd)
      replace HB := Aside0.mk (HB.out.trans (hbd.mono HB.out.size))
      clear hbd
      have CS := Aside0.mk (fun W A c h => conv_S L W A c h)
      generalize strOfNums L = sL at *
      have SW7 : (fun w' => w'.heap[w.heap.size]? = some (.cells #[.int .i64 r.k, .int .i64 r.s, .string r.nm, .int .i64 r.ek, .int .i64 r.ru.f0, .int .i64 r.ru.f1, .int .i64 r.ru.f2, .int .i64 r.ru.f3, .int .u32 r.ru.f4.f0, .int .u32 r.ru.f4.f1, .int .i64 r.ru.f5, .int .i64 r.qk, .int .i64 r.qa, .int .i64 r.qb, .int .i64 r.qw, .int .u32 r.qf, .int .u32 r.qt, .string r.qo] 36 (0, 0)) ∧ w'.heap[gKP]? = some (.cells #[.int .i64 d.k, .int .i64 d.s, .string d.nm, .int .i64 d.ek, .int .i64 d.ru.f0, .int .i64 d.ru.f1, .int .i64 d.ru.f2, .int .i64 d.ru.f3, .int .u32 d.ru.f4.f0, .int .u32 d.ru.f4.f1, .int .i64 d.ru.f5, .int .i64 d.qk, .int .i64 d.qa, .int .i64 d.qb, .int .i64 d.qw, .int .u32 d.qf, .int .u32 d.qt, .string d.qo] 36 (0, 0)) ∧ w'.heap[gKQ]? = some (.cells #[.int .i64 d.k, .int .i64 d.s, .string d.nm, .int .i64 d.ek, .int .i64 d.ru.f0, .int .i64 d.ru.f1, .int .i64 d.ru.f2, .int .i64 d.ru.f3, .int .u32 d.ru.f4.f0, .int .u32 d.ru.f4.f1, .int .i64 d.ru.f5, .int .i64 d.qk, .int .i64 d.qa, .int .i64 d.qb, .int .i64 d.qw, .int .u32 d.qf, .int .u32 d.qt, .string d.qo] 36 (0, 0)) ∧ (convert 37 9 (.slice Ax L.length cx)).run Try.prog w' = .ok (.string sL) w' ∧ (convert 37 9 (.slice Ay L.length cy)).run Try.prog w' = .ok (.string sL) w') W7.drew := ⟨KX.out, KP.out, KQ.out, CS.out W7.drew Ax cx (Kd.R_reads' RX.out).2.2, CS.out W7.drew Ay cy (Kd.R_reads' RY.out).2.2⟩
      dsimp only at SW7
      go_wp2_with fail
      refine wp_region_held_drew (S := (fun w' => w'.heap[w.heap.size]? = some (.cells #[.int .i64 r.k, .int .i64 r.s, .string r.nm, .int .i64 r.ek, .int .i64 r.ru.f0, .int .i64 r.ru.f1, .int .i64 r.ru.f2, .int .i64 r.ru.f3, .int .u32 r.ru.f4.f0, .int .u32 r.ru.f4.f1, .int .i64 r.ru.f5, .int .i64 r.qk, .int .i64 r.qa, .int .i64 r.qb, .int .i64 r.qw, .int .u32 r.qf, .int .u32 r.qt, .string r.qo] 36 (0, 0)) ∧ w'.heap[gKP]? = some (.cells #[.int .i64 d.k, .int .i64 d.s, .string d.nm, .int .i64 d.ek, .int .i64 d.ru.f0, .int .i64 d.ru.f1, .int .i64 d.ru.f2, .int .i64 d.ru.f3, .int .u32 d.ru.f4.f0, .int .u32 d.ru.f4.f1, .int .i64 d.ru.f5, .int .i64 d.qk, .int .i64 d.qa, .int .i64 d.qb, .int .i64 d.qw, .int .u32 d.qf, .int .u32 d.qt, .string d.qo] 36 (0, 0)) ∧ w'.heap[gKQ]? = some (.cells #[.int .i64 d.k, .int .i64 d.s, .string d.nm, .int .i64 d.ek, .int .i64 d.ru.f0, .int .i64 d.ru.f1, .int .i64 d.ru.f2, .int .i64 d.ru.f3, .int .u32 d.ru.f4.f0, .int .u32 d.ru.f4.f1, .int .i64 d.ru.f5, .int .i64 d.qk, .int .i64 d.qa, .int .i64 d.qb, .int .i64 d.qw, .int .u32 d.qf, .int .u32 d.qt, .string d.qo] 36 (0, 0)) ∧ (convert 37 9 (.slice Ax L.length cx)).run Try.prog w' = .ok (.string sL) w' ∧ (convert 37 9 (.slice Ay L.length cy)).run Try.prog w' = .ok (.string sL) w')) (by kernel_rfl) ?hS0 (fun hHeld => ?_)
      case hS0 => first | assumption
      refine wpAnyH_ready (rs := [0]) (by kernel_rfl) (by simp) ?_
      refine AllReadyH.cons rfl (fun K hK => ?_) AllReadyH.nil
      go_simp
      go_at_call 9; (with_reducible refine (CA.out _).mono ?_); rintro e W8 ⟨rfl, hb⟩; replace KX := Aside0.mk (blk_below KX.out hb); replace KP := Aside0.mk (blk_below KP.out hb); replace KQ := Aside0.mk (blk_below KQ.out hb); replace RX := Aside0.mk (Kd.R_below RX.out hb); replace RY := Aside0.mk (Kd.R_below RY.out hb); replace HB := Aside0.mk (HB.out.trans (hb.mono HB.out.size)); clear hb; have SW8 : (fun w' => w'.heap[w.heap.size]? = some (.cells #[.int .i64 r.k, .int .i64 r.s, .string r.nm, .int .i64 r.ek, .int .i64 r.ru.f0, .int .i64 r.ru.f1, .int .i64 r.ru.f2, .int .i64 r.ru.f3, .int .u32 r.ru.f4.f0, .int .u32 r.ru.f4.f1, .int .i64 r.ru.f5, .int .i64 r.qk, .int .i64 r.qa, .int .i64 r.qb, .int .i64 r.qw, .int .u32 r.qf, .int .u32 r.qt, .string r.qo] 36 (0, 0)) ∧ w'.heap[gKP]? = some (.cells #[.int .i64 d.k, .int .i64 d.s, .string d.nm, .int .i64 d.ek, .int .i64 d.ru.f0, .int .i64 d.ru.f1, .int .i64 d.ru.f2, .int .i64 d.ru.f3, .int .u32 d.ru.f4.f0, .int .u32 d.ru.f4.f1, .int .i64 d.ru.f5, .int .i64 d.qk, .int .i64 d.qa, .int .i64 d.qb, .int .i64 d.qw, .int .u32 d.qf, .int .u32 d.qt, .string d.qo] 36 (0, 0)) ∧ w'.heap[gKQ]? = some (.cells #[.int .i64 d.k, .int .i64 d.s, .string d.nm, .int .i64 d.ek, .int .i64 d.ru.f0, .int .i64 d.ru.f1, .int .i64 d.ru.f2, .int .i64 d.ru.f3, .int .u32 d.ru.f4.f0, .int .u32 d.ru.f4.f1, .int .i64 d.ru.f5, .int .i64 d.qk, .int .i64 d.qa, .int .i64 d.qb, .int .i64 d.qw, .int .u32 d.qf, .int .u32 d.qt, .string d.qo] 36 (0, 0)) ∧ (convert 37 9 (.slice Ax L.length cx)).run Try.prog w' = .ok (.string sL) w' ∧ (convert 37 9 (.slice Ay L.length cy)).run Try.prog w' = .ok (.string sL) w') W8 := ⟨KX.out, KP.out, KQ.out, CS.out W8 Ax cx (Kd.R_reads' RX.out).2.2, CS.out W8 Ay cy (Kd.R_reads' RY.out).2.2⟩; dsimp only at SW8
      refine hK.out _ _ ?hS1 (fun hHeld => ?_)
      case hS1 => first | assumption
      clear hK K
      try simp only [Act.put, List.setIfInBounds_toArray, List.set_cons_zero, List.set_cons_succ]
      refine held_take 1 (some 46) (v := ?v1) rfl rfl (by kernel_rfl) (by kernel_rfl) (by kernel_rfl) (fun _ _ _ h => h) (by rfl) ?y1 (by assumption) ?_
      case y1 => ((intro w hSw); (try dsimp only at hSw); go_simp <;> (with_reducible rfl))
      try simp only [Act.put, List.setIfInBounds_toArray, List.set_cons_zero, List.set_cons_succ]
      refine held_take 2 (some 47) (v := (.agg #[.int .i64 r.k, .int .i64 r.s, .string r.nm, .int .i64 r.ek, .int .i64 r.ru.f0, .int .i64 r.ru.f1, .int .i64 r.ru.f2, .int .i64 r.ru.f3, .int .u32 r.ru.f4.f0, .int .u32 r.ru.f4.f1, .int .i64 r.ru.f5, .int .i64 r.qk, .int .i64 r.qa, .int .i64 r.qb, .int .i64 r.qw, .int .u32 r.qf, .int .u32 r.qt, .string r.qo])) rfl rfl (by kernel_rfl) (by kernel_rfl) (by kernel_rfl) (fun _ _ _ h => h) (by rfl) ?y2 (by assumption) ?_
      case y2 => ((intro w hSw); exact exec_load_row hSw.1 rfl rfl Try.underlying36 rfl (by kernel_rfl))
      try simp only [Act.put, List.setIfInBounds_toArray, List.set_cons_zero, List.set_cons_succ]
      refine held_take 4 (some 49) (v := (.agg #[.int .i64 r.k, .int .i64 r.s, .string r.nm, .int .i64 r.ek, .int .i64 r.ru.f0, .int .i64 r.ru.f1, .int .i64 r.ru.f2, .int .i64 r.ru.f3, .int .u32 r.ru.f4.f0, .int .u32 r.ru.f4.f1, .int .i64 r.ru.f5, .int .i64 r.qk, .int .i64 r.qa, .int .i64 r.qb, .int .i64 r.qw, .int .u32 r.qf, .int .u32 r.qt, .string r.qo])) rfl rfl (by kernel_rfl) (by kernel_rfl) (by kernel_rfl) (fun _ _ _ h => h) (by rfl) ?y4 (by assumption) ?_
      case y4 => ((intro w hSw); exact exec_load_row hSw.1 rfl rfl Try.underlying36 rfl (by kernel_rfl))
      try simp only [Act.put, List.setIfInBounds_toArray, List.set_cons_zero, List.set_cons_succ]
      refine wpAnyH_ready (rs := [3]) (by kernel_rfl) (by simp) ?_
      refine AllReadyH.cons rfl (fun K hK => ?_) AllReadyH.nil
      go_simp
      go_at_call 14; (with_reducible refine (CR.out _).mono ?_); rintro e W9 ⟨rfl, hb⟩; replace KX := Aside0.mk (blk_below KX.out hb); replace KP := Aside0.mk (blk_below KP.out hb); replace KQ := Aside0.mk (blk_below KQ.out hb); replace RX := Aside0.mk (Kd.R_below RX.out hb); replace RY := Aside0.mk (Kd.R_below RY.out hb); replace HB := Aside0.mk (HB.out.trans (hb.mono HB.out.size)); clear hb; have SW9 : (fun w' => w'.heap[w.heap.size]? = some (.cells #[.int .i64 r.k, .int .i64 r.s, .string r.nm, .int .i64 r.ek, .int .i64 r.ru.f0, .int .i64 r.ru.f1, .int .i64 r.ru.f2, .int .i64 r.ru.f3, .int .u32 r.ru.f4.f0, .int .u32 r.ru.f4.f1, .int .i64 r.ru.f5, .int .i64 r.qk, .int .i64 r.qa, .int .i64 r.qb, .int .i64 r.qw, .int .u32 r.qf, .int .u32 r.qt, .string r.qo] 36 (0, 0)) ∧ w'.heap[gKP]? = some (.cells #[.int .i64 d.k, .int .i64 d.s, .string d.nm, .int .i64 d.ek, .int .i64 d.ru.f0, .int .i64 d.ru.f1, .int .i64 d.ru.f2, .int .i64 d.ru.f3, .int .u32 d.ru.f4.f0, .int .u32 d.ru.f4.f1, .int .i64 d.ru.f5, .int .i64 d.qk, .int .i64 d.qa, .int .i64 d.qb, .int .i64 d.qw, .int .u32 d.qf, .int .u32 d.qt, .string d.qo] 36 (0, 0)) ∧ w'.heap[gKQ]? = some (.cells #[.int .i64 d.k, .int .i64 d.s, .string d.nm, .int .i64 d.ek, .int .i64 d.ru.f0, .int .i64 d.ru.f1, .int .i64 d.ru.f2, .int .i64 d.ru.f3, .int .u32 d.ru.f4.f0, .int .u32 d.ru.f4.f1, .int .i64 d.ru.f5, .int .i64 d.qk, .int .i64 d.qa, .int .i64 d.qb, .int .i64 d.qw, .int .u32 d.qf, .int .u32 d.qt, .string d.qo] 36 (0, 0)) ∧ (convert 37 9 (.slice Ax L.length cx)).run Try.prog w' = .ok (.string sL) w' ∧ (convert 37 9 (.slice Ay L.length cy)).run Try.prog w' = .ok (.string sL) w') W9 := ⟨KX.out, KP.out, KQ.out, CS.out W9 Ax cx (Kd.R_reads' RX.out).2.2, CS.out W9 Ay cy (Kd.R_reads' RY.out).2.2⟩; dsimp only at SW9
      refine hK.out _ _ ?hS4 (fun hHeld => ?_)
      case hS4 => first | assumption
      clear hK K
      try simp only [Act.put, List.setIfInBounds_toArray, List.set_cons_zero, List.set_cons_succ]
      refine wpAnyH_ready (rs := [5]) (by kernel_rfl) (by simp) ?_
      refine AllReadyH.cons rfl (fun K hK => ?_) AllReadyH.nil
      go_simp
      go_at_call 15; (with_reducible refine (CQ.out _).mono ?_); rintro e W10 ⟨rfl, hb⟩; replace KX := Aside0.mk (blk_below KX.out hb); replace KP := Aside0.mk (blk_below KP.out hb); replace KQ := Aside0.mk (blk_below KQ.out hb); replace RX := Aside0.mk (Kd.R_below RX.out hb); replace RY := Aside0.mk (Kd.R_below RY.out hb); replace HB := Aside0.mk (HB.out.trans (hb.mono HB.out.size)); clear hb; have SW10 : (fun w' => w'.heap[w.heap.size]? = some (.cells #[.int .i64 r.k, .int .i64 r.s, .string r.nm, .int .i64 r.ek, .int .i64 r.ru.f0, .int .i64 r.ru.f1, .int .i64 r.ru.f2, .int .i64 r.ru.f3, .int .u32 r.ru.f4.f0, .int .u32 r.ru.f4.f1, .int .i64 r.ru.f5, .int .i64 r.qk, .int .i64 r.qa, .int .i64 r.qb, .int .i64 r.qw, .int .u32 r.qf, .int .u32 r.qt, .string r.qo] 36 (0, 0)) ∧ w'.heap[gKP]? = some (.cells #[.int .i64 d.k, .int .i64 d.s, .string d.nm, .int .i64 d.ek, .int .i64 d.ru.f0, .int .i64 d.ru.f1, .int .i64 d.ru.f2, .int .i64 d.ru.f3, .int .u32 d.ru.f4.f0, .int .u32 d.ru.f4.f1, .int .i64 d.ru.f5, .int .i64 d.qk, .int .i64 d.qa, .int .i64 d.qb, .int .i64 d.qw, .int .u32 d.qf, .int .u32 d.qt, .string d.qo] 36 (0, 0)) ∧ w'.heap[gKQ]? = some (.cells #[.int .i64 d.k, .int .i64 d.s, .string d.nm, .int .i64 d.ek, .int .i64 d.ru.f0, .int .i64 d.ru.f1, .int .i64 d.ru.f2, .int .i64 d.ru.f3, .int .u32 d.ru.f4.f0, .int .u32 d.ru.f4.f1, .int .i64 d.ru.f5, .int .i64 d.qk, .int .i64 d.qa, .int .i64 d.qb, .int .i64 d.qw, .int .u32 d.qf, .int .u32 d.qt, .string d.qo] 36 (0, 0)) ∧ (convert 37 9 (.slice Ax L.length cx)).run Try.prog w' = .ok (.string sL) w' ∧ (convert 37 9 (.slice Ay L.length cy)).run Try.prog w' = .ok (.string sL) w') W10 := ⟨KX.out, KP.out, KQ.out, CS.out W10 Ax cx (Kd.R_reads' RX.out).2.2, CS.out W10 Ay cy (Kd.R_reads' RY.out).2.2⟩; dsimp only at SW10
      refine hK.out _ _ ?hS6 (fun hHeld => ?_)
      case hS6 => first | assumption
      clear hK K
      try simp only [Act.put, List.setIfInBounds_toArray, List.set_cons_zero, List.set_cons_succ]
      refine held_take 6 (some 51) (v := ?v6) rfl rfl (by kernel_rfl) (by kernel_rfl) (by kernel_rfl) (fun _ _ _ h => h) (by rfl) ?y6 (by assumption) ?_
      case y6 => ((intro w hSw); (try dsimp only at hSw); go_simp <;> (with_reducible rfl))
      try simp only [Act.put, List.setIfInBounds_toArray, List.set_cons_zero, List.set_cons_succ]
      refine held_take 7 (some 52) (v := ?v7) rfl rfl (by kernel_rfl) (by kernel_rfl) (by kernel_rfl) (fun _ _ _ h => h) (by rfl) ?y7 (by assumption) ?_
      case y7 => ((intro w hSw); (try dsimp only at hSw); go_simp <;> (with_reducible rfl))
      try simp only [Act.put, List.setIfInBounds_toArray, List.set_cons_zero, List.set_cons_succ]
      refine held_take 8 (some 53) (v := ?v8) rfl rfl (by kernel_rfl) (by kernel_rfl) (by kernel_rfl) (fun _ _ _ h => h) (by rfl) ?y8 (by assumption) ?_
      case y8 => ((intro w hSw); (try dsimp only at hSw); go_simp <;> (with_reducible rfl))
      try simp only [Act.put, List.setIfInBounds_toArray, List.set_cons_zero, List.set_cons_succ]
      refine held_take 9 (some 54) (v := ?v9) rfl rfl (by kernel_rfl) (by kernel_rfl) (by kernel_rfl) (fun _ _ _ h => h) (by rfl) ?y9 (by assumption) ?_
      case y9 => ((intro w hSw); (try dsimp only at hSw); go_simp <;> (with_reducible rfl))
      try simp only [Act.put, List.setIfInBounds_toArray, List.set_cons_zero, List.set_cons_succ]
      refine held_take 10 (some 55) (v := ?v10) rfl rfl (by kernel_rfl) (by kernel_rfl) (by kernel_rfl) (fun _ _ _ h => h) (by rfl) ?y10 (by assumption) ?_
      case y10 => ((intro w hSw); (try dsimp only at hSw); go_simp <;> (with_reducible rfl))
      try simp only [Act.put, List.setIfInBounds_toArray, List.set_cons_zero, List.set_cons_succ]
      refine held_take 11 (some 56) (v := ?v11) rfl rfl (by kernel_rfl) (by kernel_rfl) (by kernel_rfl) (fun _ _ _ h => h) (by rfl) ?y11 (by assumption) ?_
      case y11 => ((intro w hSw); (try dsimp only at hSw); go_simp <;> (with_reducible rfl))
      try simp only [Act.put, List.setIfInBounds_toArray, List.set_cons_zero, List.set_cons_succ]
      refine held_take 12 (some 57) (v := ?v12) rfl rfl (by kernel_rfl) (by kernel_rfl) (by kernel_rfl) (fun _ _ _ h => h) (by rfl) ?y12 (by assumption) ?_
      case y12 => ((intro w hSw); (try dsimp only at hSw); go_simp <;> (with_reducible rfl))
      try simp only [Act.put, List.setIfInBounds_toArray, List.set_cons_zero, List.set_cons_succ]
      refine held_take 13 (some 58) (v := ?v13) rfl rfl (by kernel_rfl) (by kernel_rfl) (by kernel_rfl) (fun _ _ _ h => h) (by rfl) ?y13 (by assumption) ?_
      case y13 => ((intro w hSw); (try dsimp only at hSw); go_simp <;> (with_reducible rfl))
      try simp only [Act.put, List.setIfInBounds_toArray, List.set_cons_zero, List.set_cons_succ]
      refine held_take 14 (some 59) (v := ?v14) rfl rfl (by kernel_rfl) (by kernel_rfl) (by kernel_rfl) (fun _ _ _ h => h) (by rfl) ?y14 (by assumption) ?_
      case y14 => ((intro w hSw); (try dsimp only at hSw); go_simp <;> (with_reducible rfl))
      try simp only [Act.put, List.setIfInBounds_toArray, List.set_cons_zero, List.set_cons_succ]
      refine held_take 15 (some 60) (v := ?v15) rfl rfl (by kernel_rfl) (by kernel_rfl) (by kernel_rfl) (fun _ _ _ h => h) (by rfl) ?y15 (by assumption) ?_
      case y15 => ((intro w hSw); (try dsimp only at hSw); go_simp <;> (with_reducible rfl))
      try simp only [Act.put, List.setIfInBounds_toArray, List.set_cons_zero, List.set_cons_succ]
      refine held_take 16 (some 61) (v := ?v16) rfl rfl (by kernel_rfl) (by kernel_rfl) (by kernel_rfl) (fun _ _ _ h => h) (by rfl) ?y16 (by assumption) ?_
      case y16 => ((intro w hSw); (try dsimp only at hSw); go_simp <;> (with_reducible rfl))
      try simp only [Act.put, List.setIfInBounds_toArray, List.set_cons_zero, List.set_cons_succ]
      refine held_take 17 (some 62) (v := ?v17) rfl rfl (by kernel_rfl) (by kernel_rfl) (by kernel_rfl) (fun _ _ _ h => h) (by rfl) ?y17 (by assumption) ?_
      case y17 => ((intro w hSw); (try dsimp only at hSw); go_simp <;> (with_reducible rfl))
      try simp only [Act.put, List.setIfInBounds_toArray, List.set_cons_zero, List.set_cons_succ]
      refine held_take 18 (some 63) (v := ?v18) rfl rfl (by kernel_rfl) (by kernel_rfl) (by kernel_rfl) (fun _ _ _ h => h) (by rfl) ?y18 (by assumption) ?_
      case y18 => ((intro w hSw); (try dsimp only at hSw); go_simp <;> (with_reducible rfl))
      try simp only [Act.put, List.setIfInBounds_toArray, List.set_cons_zero, List.set_cons_succ]
      refine held_take 19 (some 64) (v := ?v19) rfl rfl (by kernel_rfl) (by kernel_rfl) (by kernel_rfl) (fun _ _ _ h => h) (by rfl) ?y19 (by assumption) ?_
      case y19 => ((intro w hSw); (try dsimp only at hSw); go_simp <;> (with_reducible rfl))
      try simp only [Act.put, List.setIfInBounds_toArray, List.set_cons_zero, List.set_cons_succ]
      refine held_take 20 (some 65) (v := ?v20) rfl rfl (by kernel_rfl) (by kernel_rfl) (by kernel_rfl) (fun _ _ _ h => h) (by rfl) ?y20 (by assumption) ?_
      case y20 => ((intro w hSw); (try dsimp only at hSw); go_simp <;> (with_reducible rfl))
      try simp only [Act.put, List.setIfInBounds_toArray, List.set_cons_zero, List.set_cons_succ]
      refine held_take 21 (some 66) (v := (.agg #[.int .i64 d.k, .int .i64 d.s, .string d.nm, .int .i64 d.ek, .int .i64 d.ru.f0, .int .i64 d.ru.f1, .int .i64 d.ru.f2, .int .i64 d.ru.f3, .int .u32 d.ru.f4.f0, .int .u32 d.ru.f4.f1, .int .i64 d.ru.f5, .int .i64 d.qk, .int .i64 d.qa, .int .i64 d.qb, .int .i64 d.qw, .int .u32 d.qf, .int .u32 d.qt, .string d.qo])) rfl rfl (by kernel_rfl) (by kernel_rfl) (by kernel_rfl) (fun _ _ _ h => h) (by rfl) ?y21 (by assumption) ?_
      case y21 => ((intro w hSw); exact exec_load_row hSw.2.1 rfl rfl Try.underlying36 rfl (by kernel_rfl))
      try simp only [Act.put, List.setIfInBounds_toArray, List.set_cons_zero, List.set_cons_succ]
      refine held_take 22 (some 67) (v := (.agg #[.int .i64 d.k, .int .i64 d.s, .string d.nm, .int .i64 d.ek, .int .i64 d.ru.f0, .int .i64 d.ru.f1, .int .i64 d.ru.f2, .int .i64 d.ru.f3, .int .u32 d.ru.f4.f0, .int .u32 d.ru.f4.f1, .int .i64 d.ru.f5, .int .i64 d.qk, .int .i64 d.qa, .int .i64 d.qb, .int .i64 d.qw, .int .u32 d.qf, .int .u32 d.qt, .string d.qo])) rfl rfl (by kernel_rfl) (by kernel_rfl) (by kernel_rfl) (fun _ _ _ h => h) (by rfl) ?y22 (by assumption) ?_
      case y22 => ((intro w hSw); exact exec_load_row hSw.2.2.1 rfl rfl Try.underlying36 rfl (by kernel_rfl))
      try simp only [Act.put, List.setIfInBounds_toArray, List.set_cons_zero, List.set_cons_succ]
      refine held_take 23 (some 68) (v := ?v23) rfl rfl (by kernel_rfl) (by kernel_rfl) (by kernel_rfl) (fun _ _ _ h => h) (by rfl) ?y23 (by assumption) ?_
      case y23 => ((intro w hSw); (try dsimp only at hSw); go_simp <;> (with_reducible rfl))
      try simp only [Act.put, List.setIfInBounds_toArray, List.set_cons_zero, List.set_cons_succ]
      refine held_take 24 (some 69) (v := ?v24) rfl rfl (by kernel_rfl) (by kernel_rfl) (by kernel_rfl) (fun _ _ _ h => h) (by rfl) ?y24 (by assumption) ?_
      case y24 => ((intro w hSw); (try dsimp only at hSw); go_simp <;> (with_reducible rfl))
      try simp only [Act.put, List.setIfInBounds_toArray, List.set_cons_zero, List.set_cons_succ]
      refine held_take 25 (some 70) (v := ?v25) rfl rfl (by kernel_rfl) (by kernel_rfl) (by kernel_rfl) (fun _ _ _ h => h) (by rfl) ?y25 (by assumption) ?_
      case y25 => ((intro w hSw); (try dsimp only at hSw); go_simp <;> (with_reducible rfl))
      try simp only [Act.put, List.setIfInBounds_toArray, List.set_cons_zero, List.set_cons_succ]
      refine held_take 26 (some 71) (v := ?v26) rfl rfl (by kernel_rfl) (by kernel_rfl) (by kernel_rfl) (fun _ _ _ h => h) (by rfl) ?y26 (by assumption) ?_
      case y26 => ((intro w hSw); (try dsimp only at hSw); go_simp <;> (with_reducible rfl))
      try simp only [Act.put, List.setIfInBounds_toArray, List.set_cons_zero, List.set_cons_succ]
      refine held_take 27 (some 72) (v := ?v27) rfl rfl (by kernel_rfl) (by kernel_rfl) (by kernel_rfl) (fun _ _ _ h => h) (by rfl) ?y27 (by assumption) ?_
      case y27 => ((intro w hSw); (try dsimp only at hSw); go_simp <;> (with_reducible rfl))
      try simp only [Act.put, List.setIfInBounds_toArray, List.set_cons_zero, List.set_cons_succ]
      refine held_take 28 (some 73) (v := ?v28) rfl rfl (by kernel_rfl) (by kernel_rfl) (by kernel_rfl) (fun _ _ _ h => h) (by rfl) ?y28 (by assumption) ?_
      case y28 => ((intro w hSw); (try dsimp only at hSw); go_simp <;> (with_reducible rfl))
      try simp only [Act.put, List.setIfInBounds_toArray, List.set_cons_zero, List.set_cons_succ]
      refine held_take 29 (some 74) (v := ?v29) rfl rfl (by kernel_rfl) (by kernel_rfl) (by kernel_rfl) (fun _ _ _ h => h) (by rfl) ?y29 (by assumption) ?_
      case y29 => ((intro w hSw); (try dsimp only at hSw); go_simp <;> (with_reducible rfl))
      try simp only [Act.put, List.setIfInBounds_toArray, List.set_cons_zero, List.set_cons_succ]
      refine held_take 30 (some 4) (v := ?v30) rfl rfl (by kernel_rfl) (by kernel_rfl) (by kernel_rfl) (fun _ _ _ h => h) (by rfl) ?y30 (by assumption) ?_
      case y30 => ((intro w hSw); (try dsimp only at hSw); go_simp <;> (with_reducible rfl))
      try simp only [Act.put, List.setIfInBounds_toArray, List.set_cons_zero, List.set_cons_succ]
      refine wpAnyH_done (by kernel_rfl) ?_ _
      go_wp2_with fail
      go_ret
      exact ⟨by simp, HB.out⟩
theorem wireRequests_row (r : Rq) (A : Option Addr) (c : Nat) (l : List Int) (w : World) (hu : okRq r) (hC : Kd.C (Kd.int .u8) w A l.length l) (hc : l.length ≤ c) (hby : bytes l) :
    Calls Try.prog 3 #[.agg #[.int .i64 r.k, .int .i64 r.s, .string r.nm, .int .i64 r.ek, .int .i64 r.ru.f0, .int .i64 r.ru.f1, .int .i64 r.ru.f2, .int .i64 r.ru.f3, .int .u32 r.ru.f4.f0, .int .u32 r.ru.f4.f1, .int .i64 r.ru.f5, .int .i64 r.qk, .int .i64 r.qa, .int .i64 r.qb, .int .i64 r.qw, .int .u32 r.qf, .int .u32 r.qt, .string r.qo], .slice A l.length c] w fun e w' => e = .returned (.bool true) ∧ Below w.heap.size w w' := wireRequests_any r hu A c l w hC hc hby
end Go.Proofs.Ytpaknjmcjblahaa.H
