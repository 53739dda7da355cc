/- The law WireOne: walked. -/
import Derived.Test.YtpaknjmcjblahaaCWirT
import Derived.Test.YtpaknjmcjblahaaCReg
import Derived.Deep.RegionHeld3
namespace Go.Proofs.Ytpaknjmcjblahaa.H
open Go.RowKit Go.Proofs.Ytpaknjmcjblahaa.P Go.Proofs.YtpaknjmcjblahaaW.PrintWords Go.Proofs.YtpaknjmcjblahaaW.PrintLast Go.Proofs.YtpaknjmcjblahaaW.PrintMore
attribute [local go_sem high] eqA36
set_option linter.unusedVariables false
set_option linter.unusedSimpArgs false
set_option maxRecDepth 20000
set_option maxHeartbeats 16000000 in
theorem wireOne_11 (A : Option Addr) (c : Nat) (l : List Int) (w : World) (hC : Kd.C (Kd.int .u8) w A l.length l) (hc : l.length ≤ c) (hby : bytes l) (hl : ¬ 2000 < (l.length : Int)) (d : Rq) (hD : decOut l = (d, 0)) (hE : encOut d = (l, 0)) (hq : rightQ d = true) (hu : okRq d) (s : Rs) (hR : readOut l = (s, 0)) (hN : ansOut s = (l, 0)) (hr : ∀ x ∈ s.rules, okRu x) (had : 0 ≤ s.ad ∧ s.ad ≤ 4294967295) :
    Calls Try.prog 5 #[.slice A l.length c] w fun e w' => e = .returned (.bool true) ∧ Below w.heap.size w w' := by
  have HC := Aside0.mk hC
  have HB := Aside0.mk (Below.refl w.heap.size w)
  have hl2 : l.length < 140737488355328 := by omega
  have CD := dec_any A c l w hC hc hl2 hby
  rw [hD] at CD
  try unfold rqVals at CD
  have CD := Aside0.mk CD
  have CR := Aside0.mk (fun (W : World) (hb : Below w.heap.size w W) => read_any A c l W (Kd.C_below hC hb) hc hl2 hby)
  rw [hR] at CR
  try unfold rsVals at CR
  have CA := Aside0.mk alive_any
  have CS := Aside0.mk (fun W A c h => conv_S l W A c h)
  generalize strOfNums l = sL at CS
  have CE := Aside0.mk (fun W => enc_any d hu W)
  rw [hE] at CE
  have CT := Aside0.mk (fun W => right_any d hu W)
  rw [hq] at CT
  try unfold rqVals at CE
  try unfold rqVals at CT
  clear hE hq hu
  have CN := Aside0.mk (fun (W : World) A2 c2 A3 c3 A7 c7 h2 h3 h7 => ans_any s A2 c2 A3 c3 A7 c7 W h2 h3 h7 hr had)
  rw [hN] at CN
  try unfold rsVals at CN
  clear hN hr had
  clear hC hby hD hR
  simp only [] at *
  go_enter Try.func5, Try.ntmps5
  go_wp2_with fail
  refine CD.out.mono ?_
  rintro e W1 ⟨rfl, hb⟩
  clear CD
  replace HC := Aside0.mk (Kd.C_below HC.out hb)
  replace HB := Aside0.mk (HB.out.trans (hb.mono HB.out.size))
  clear hb
  have hlo := HB.out.size
  have hbn := (Below.refl W1.heap.size W1).alloc (Nat.le_refl _) (.cells #[.int .i64 0, .int .i64 0, .string ⟨#[]⟩, .int .i64 0, .int .i64 0, .int .i64 0, .int .i64 0, .int .i64 0, .int .u32 0, .int .u32 0, .int .i64 0, .int .i64 0, .int .i64 0, .int .i64 0, .int .i64 0, .int .u32 0, .int .u32 0, .string ⟨#[]⟩] 36)
  have KP := Aside0.mk (blk_new W1 (.cells #[.int .i64 0, .int .i64 0, .string ⟨#[]⟩, .int .i64 0, .int .i64 0, .int .i64 0, .int .i64 0, .int .i64 0, .int .u32 0, .int .u32 0, .int .i64 0, .int .i64 0, .int .i64 0, .int .i64 0, .int .i64 0, .int .u32 0, .int .u32 0, .string ⟨#[]⟩] 36))
  have hbr := below_row (B := W1.heap.size) hbn (Nat.le_refl _) (C := #[.int .i64 d.k, .int .i64 d.s, .string d.nm, .int .i64 d.ek, .int .i64 d.ru.f0, .int .i64 d.ru.f1, .int .i64 d.ru.f2, .int .i64 d.ru.f3, .int .u32 d.ru.f4.f0, .int .u32 d.ru.f4.f1, .int .i64 d.ru.f5, .int .i64 d.qk, .int .i64 d.qa, .int .i64 d.qb, .int .i64 d.qw, .int .u32 d.qf, .int .u32 d.qt, .string d.qo])
  replace HC := Aside0.mk (Kd.C_below HC.out hbr)
  replace HB := Aside0.mk (HB.out.trans (hbr.mono HB.out.size))
  clear hbn hbr hlo
  try dsimp only
  repeat ((fail_if_success (show Oper.wp _ (Oper.mk none (Op.store _ _ _) _ _ _ _) _ _ _ _)); (first | go_values | go_skip | go_guarded | go_step | go_upon | go_back))
  refine wp_store_row (c' := #[.int .i64 d.k, .int .i64 d.s, .string d.nm, .int .i64 d.ek, .int .i64 d.ru.f0, .int .i64 d.ru.f1, .int .i64 d.ru.f2, .int .i64 d.ru.f3, .int .u32 d.ru.f4.f0, .int .u32 d.ru.f4.f1, .int .i64 d.ru.f5, .int .i64 d.qk, .int .i64 d.qa, .int .i64 d.qb, .int .i64 d.qw, .int .u32 d.qf, .int .u32 d.qt, .string d.qo]) KP.out rfl rfl rfl rfl (by kernel_rfl) rfl (by simp [Value.oneCell']) ?_
  replace KP := Aside0.mk (heap_setRow_self (cs := #[.int .i64 d.k, .int .i64 d.s, .string d.nm, .int .i64 d.ek, .int .i64 d.ru.f0, .int .i64 d.ru.f1, .int .i64 d.ru.f2, .int .i64 d.ru.f3, .int .u32 d.ru.f4.f0, .int .u32 d.ru.f4.f1, .int .i64 d.ru.f5, .int .i64 d.qk, .int .i64 d.qa, .int .i64 d.qb, .int .i64 d.qw, .int .u32 d.qf, .int .u32 d.qt, .string d.qo]) KP.out)
  generalize ((W1.alloc (.cells #[.int .i64 0, .int .i64 0, .string ⟨#[]⟩, .int .i64 0, .int .i64 0, .int .i64 0, .int .i64 0, .int .i64 0, .int .u32 0, .int .u32 0, .int .i64 0, .int .i64 0, .int .i64 0, .int .i64 0, .int .i64 0, .int .u32 0, .int .u32 0, .string ⟨#[]⟩] 36)).setRow W1.heap.size #[.int .i64 d.k, .int .i64 d.s, .string d.nm, .int .i64 d.ek, .int .i64 d.ru.f0, .int .i64 d.ru.f1, .int .i64 d.ru.f2, .int .i64 d.ru.f3, .int .u32 d.ru.f4.f0, .int .u32 d.ru.f4.f1, .int .i64 d.ru.f5, .int .i64 d.qk, .int .i64 d.qa, .int .i64 d.qb, .int .i64 d.qw, .int .u32 d.qf, .int .u32 d.qt, .string d.qo]) = W2 at *
  obtain ⟨gKP, hgKP⟩ : ∃ g, W1.heap.size = g := ⟨_, rfl⟩
  rw [hgKP] at KP ⊢
  clear hgKP
  try dsimp only
  repeat ((fail_if_success (show Oper.wp _ (Oper.mk _ (Op.load 36 _) _ _ _ _) _ _ _ _)); (first | go_values | go_skip | go_guarded | go_step | go_upon | go_back))
  refine wp_load_row KP.out rfl rfl Try.underlying36 rfl (by kernel_rfl) ?_
  try go_simp
  go_wp2_with fail
  refine (CE.out W2).mono ?_
  rintro e W3 ⟨⟨vx, rfl, hR⟩, hb⟩
  obtain ⟨Ax, cx, rfl⟩ := Kd.R_slice hR
  have HX := Aside0.mk (Kd.R_reads' hR).2.2
  replace HC := Aside0.mk (Kd.C_below HC.out hb)
  replace HB := Aside0.mk (HB.out.trans (hb.mono HB.out.size))
  replace KP := Aside0.mk (blk_below KP.out hb)
  clear hb hR CE
  have s1 := CS.out W3 Ax cx HX.out
  have s2 := CS.out W3 A c HC.out
  try dsimp only
  repeat ((fail_if_success (show Oper.wp _ (Oper.mk _ (Op.load 36 _) _ _ _ _) _ _ _ _)); (first | go_values | go_skip | go_guarded | go_step | go_upon | go_back))
  refine wp_load_row KP.out rfl rfl Try.underlying36 rfl (by kernel_rfl) ?_
  try go_simp
  go_wp2_with fail
  refine (CT.out W3).mono ?_
  rintro e W4 ⟨rfl, hb⟩
  replace HC := Aside0.mk (Kd.C_below HC.out hb)
  replace HB := Aside0.mk (HB.out.trans (hb.mono HB.out.size))
  replace KP := Aside0.mk (blk_below KP.out hb)
  clear hb CT s1 s2 HX
  go_wp2_with fail
  refine (CR.out W4 HB.out).mono ?_
  rintro e W5 ⟨⟨v2, v3, v7, rfl, hO⟩, hb⟩
  obtain ⟨A2s, c2s, rfl, l2, hO2⟩ := Kd.R_reads hO.1
  obtain ⟨A3s, c3s, rfl, l3, hO3⟩ := Kd.R_reads hO.2.1
  obtain ⟨A7s, c7s, rfl, l7, hO7⟩ := Kd.R_reads hO.2.2
  have H2 := Aside0.mk hO2
  have H3 := Aside0.mk hO3
  have H7 := Aside0.mk hO7
  replace HC := Aside0.mk (Kd.C_below HC.out hb)
  replace HB := Aside0.mk (HB.out.trans (hb.mono HB.out.size))
  replace KP := Aside0.mk (blk_below KP.out hb)
  clear hb hO hO2 hO3 hO7 CR
  have hlo := HB.out.size
  have hbn := (Below.refl W5.heap.size W5).alloc (Nat.le_refl _) (.cells #[.int .i64 0, .int .i64 0, .slice none 0 0, .slice none 0 0, .bool false, .int .i64 0, .int .u32 0, .slice none 0 0, .int .i64 0, .int .i64 0, .int .i64 0] 50)
  have KR := Aside0.mk (blk_new W5 (.cells #[.int .i64 0, .int .i64 0, .slice none 0 0, .slice none 0 0, .bool false, .int .i64 0, .int .u32 0, .slice none 0 0, .int .i64 0, .int .i64 0, .int .i64 0] 50))
  have hbr := below_row (B := W5.heap.size) hbn (Nat.le_refl _) (C := #[.int .i64 s.e, .int .i64 s.n, (.slice A2s s.ids.length c2s), (.slice A3s s.rules.length c3s), .bool s.h, .int .i64 s.fr, .int .u32 s.ad, (.slice A7s s.dv.length c7s), .int .i64 s.ft, .int .i64 s.od, .int .i64 s.op])
  replace HC := Aside0.mk (Kd.C_below HC.out hbr)
  replace HB := Aside0.mk (HB.out.trans (hbr.mono HB.out.size))
  replace KP := Aside0.mk (blk_below KP.out hbr)
  replace H2 := Aside0.mk (Kd.C_below H2.out hbr)
  replace H3 := Aside0.mk (Kd.C_below H3.out hbr)
  replace H7 := Aside0.mk (Kd.C_below H7.out hbr)
  clear hbn hbr hlo
  try dsimp only
  repeat ((fail_if_success (show Oper.wp _ (Oper.mk none (Op.store _ _ _) _ _ _ _) _ _ _ _)); (first | go_values | go_skip | go_guarded | go_step | go_upon | go_back))
  refine wp_store_row (c' := #[.int .i64 s.e, .int .i64 s.n, (.slice A2s s.ids.length c2s), (.slice A3s s.rules.length c3s), .bool s.h, .int .i64 s.fr, .int .u32 s.ad, (.slice A7s s.dv.length c7s), .int .i64 s.ft, .int .i64 s.od, .int .i64 s.op]) KR.out rfl rfl rfl rfl (by kernel_rfl) rfl (by simp [Value.oneCell']) ?_
  replace KR := Aside0.mk (heap_setRow_self (cs := #[.int .i64 s.e, .int .i64 s.n, (.slice A2s s.ids.length c2s), (.slice A3s s.rules.length c3s), .bool s.h, .int .i64 s.fr, .int .u32 s.ad, (.slice A7s s.dv.length c7s), .int .i64 s.ft, .int .i64 s.od, .int .i64 s.op]) KR.out)
  generalize ((W5.alloc (.cells #[.int .i64 0, .int .i64 0, .slice none 0 0, .slice none 0 0, .bool false, .int .i64 0, .int .u32 0, .slice none 0 0, .int .i64 0, .int .i64 0, .int .i64 0] 50)).setRow W5.heap.size #[.int .i64 s.e, .int .i64 s.n, (.slice A2s s.ids.length c2s), (.slice A3s s.rules.length c3s), .bool s.h, .int .i64 s.fr, .int .u32 s.ad, (.slice A7s s.dv.length c7s), .int .i64 s.ft, .int .i64 s.od, .int .i64 s.op]) = W6 at *
  obtain ⟨gKR, hgKR⟩ : ∃ g, W5.heap.size = g := ⟨_, rfl⟩
  rw [hgKR] at KR ⊢
  clear hgKR
  try dsimp only
  repeat ((fail_if_success (show Oper.wp _ (Oper.mk _ (Op.load 50 _) _ _ _ _) _ _ _ _)); (first | go_values | go_skip | go_guarded | go_step | go_upon | go_back))
  refine wp_load_row KR.out rfl rfl Try.underlying50 rfl (by kernel_rfl) ?_
  try go_simp
  go_wp2_with fail
  refine (CN.out W6 A2s c2s A3s c3s A7s c7s H2.out H3.out H7.out).mono ?_
  rintro e W7 ⟨⟨vx, rfl, hR⟩, hb⟩
  obtain ⟨Ay, cy, rfl⟩ := Kd.R_slice hR
  have HY := Aside0.mk (Kd.R_reads' hR).2.2
  replace HC := Aside0.mk (Kd.C_below HC.out hb)
  replace HB := Aside0.mk (HB.out.trans (hb.mono HB.out.size))
  replace KP := Aside0.mk (blk_below KP.out hb)
  replace H2 := Aside0.mk (Kd.C_below H2.out hb)
  replace H3 := Aside0.mk (Kd.C_below H3.out hb)
  replace H7 := Aside0.mk (Kd.C_below H7.out hb)
  replace KR := Aside0.mk (blk_below KR.out hb)
  clear hb hR CN
  have s1 := CS.out W7 Ay cy HY.out
  have s2 := CS.out W7 A c HC.out
  go_wp2_with fail
  refine (CA.out W7).mono ?_
  rintro e W8 ⟨rfl, hb⟩
  replace HB := Aside0.mk (HB.out.trans (hb.mono HB.out.size))
  clear hb
  go_wp2_with fail
  go_ret
  exact ⟨rfl, HB.out⟩
set_option maxHeartbeats 16000000 in
theorem wireOne_10 (A : Option Addr) (c : Nat) (l : List Int) (w : World) (hC : Kd.C (Kd.int .u8) w A l.length l) (hc : l.length ≤ c) (hby : bytes l) (hl : ¬ 2000 < (l.length : Int)) (d : Rq) (hD : decOut l = (d, 0)) (hE : encOut d = (l, 0)) (hq : rightQ d = true) (hu : okRq d) (s : Rs) (hR : readOut l = (s, 171)) :
    Calls Try.prog 5 #[.slice A l.length c] w fun e w' => e = .returned (.bool true) ∧ Below w.heap.size w w' := by
  have HC := Aside0.mk hC
  have HB := Aside0.mk (Below.refl w.heap.size w)
  have hl2 : l.length < 140737488355328 := by omega
  have CD := dec_any A c l w hC hc hl2 hby
  rw [hD] at CD
  try unfold rqVals at CD
  have CD := Aside0.mk CD
  have CR := Aside0.mk (fun (W : World) (hb : Below w.heap.size w W) => read_any A c l W (Kd.C_below hC hb) hc hl2 hby)
  rw [hR] at CR
  try unfold rsVals at CR
  have CA := Aside0.mk alive_any
  have CS := Aside0.mk (fun W A c h => conv_S l W A c h)
  generalize strOfNums l = sL at CS
  have CE := Aside0.mk (fun W => enc_any d hu W)
  rw [hE] at CE
  have CT := Aside0.mk (fun W => right_any d hu W)
  rw [hq] at CT
  try unfold rqVals at CE
  try unfold rqVals at CT
  clear hE hq hu
  clear hC hby hD hR
  simp only [] at *
  go_enter Try.func5, Try.ntmps5
  go_wp2_with fail
  refine CD.out.mono ?_
  rintro e W1 ⟨rfl, hb⟩
  clear CD
  replace HC := Aside0.mk (Kd.C_below HC.out hb)
  replace HB := Aside0.mk (HB.out.trans (hb.mono HB.out.size))
  clear hb
  have hlo := HB.out.size
  have hbn := (Below.refl W1.heap.size W1).alloc (Nat.le_refl _) (.cells #[.int .i64 0, .int .i64 0, .string ⟨#[]⟩, .int .i64 0, .int .i64 0, .int .i64 0, .int .i64 0, .int .i64 0, .int .u32 0, .int .u32 0, .int .i64 0, .int .i64 0, .int .i64 0, .int .i64 0, .int .i64 0, .int .u32 0, .int .u32 0, .string ⟨#[]⟩] 36)
  have KP := Aside0.mk (blk_new W1 (.cells #[.int .i64 0, .int .i64 0, .string ⟨#[]⟩, .int .i64 0, .int .i64 0, .int .i64 0, .int .i64 0, .int .i64 0, .int .u32 0, .int .u32 0, .int .i64 0, .int .i64 0, .int .i64 0, .int .i64 0, .int .i64 0, .int .u32 0, .int .u32 0, .string ⟨#[]⟩] 36))
  have hbr := below_row (B := W1.heap.size) hbn (Nat.le_refl _) (C := #[.int .i64 d.k, .int .i64 d.s, .string d.nm, .int .i64 d.ek, .int .i64 d.ru.f0, .int .i64 d.ru.f1, .int .i64 d.ru.f2, .int .i64 d.ru.f3, .int .u32 d.ru.f4.f0, .int .u32 d.ru.f4.f1, .int .i64 d.ru.f5, .int .i64 d.qk, .int .i64 d.qa, .int .i64 d.qb, .int .i64 d.qw, .int .u32 d.qf, .int .u32 d.qt, .string d.qo])
  replace HC := Aside0.mk (Kd.C_below HC.out hbr)
  replace HB := Aside0.mk (HB.out.trans (hbr.mono HB.out.size))
  clear hbn hbr hlo
  try dsimp only
  repeat ((fail_if_success (show Oper.wp _ (Oper.mk none (Op.store _ _ _) _ _ _ _) _ _ _ _)); (first | go_values | go_skip | go_guarded | go_step | go_upon | go_back))
  refine wp_store_row (c' := #[.int .i64 d.k, .int .i64 d.s, .string d.nm, .int .i64 d.ek, .int .i64 d.ru.f0, .int .i64 d.ru.f1, .int .i64 d.ru.f2, .int .i64 d.ru.f3, .int .u32 d.ru.f4.f0, .int .u32 d.ru.f4.f1, .int .i64 d.ru.f5, .int .i64 d.qk, .int .i64 d.qa, .int .i64 d.qb, .int .i64 d.qw, .int .u32 d.qf, .int .u32 d.qt, .string d.qo]) KP.out rfl rfl rfl rfl (by kernel_rfl) rfl (by simp [Value.oneCell']) ?_
  replace KP := Aside0.mk (heap_setRow_self (cs := #[.int .i64 d.k, .int .i64 d.s, .string d.nm, .int .i64 d.ek, .int .i64 d.ru.f0, .int .i64 d.ru.f1, .int .i64 d.ru.f2, .int .i64 d.ru.f3, .int .u32 d.ru.f4.f0, .int .u32 d.ru.f4.f1, .int .i64 d.ru.f5, .int .i64 d.qk, .int .i64 d.qa, .int .i64 d.qb, .int .i64 d.qw, .int .u32 d.qf, .int .u32 d.qt, .string d.qo]) KP.out)
  generalize ((W1.alloc (.cells #[.int .i64 0, .int .i64 0, .string ⟨#[]⟩, .int .i64 0, .int .i64 0, .int .i64 0, .int .i64 0, .int .i64 0, .int .u32 0, .int .u32 0, .int .i64 0, .int .i64 0, .int .i64 0, .int .i64 0, .int .i64 0, .int .u32 0, .int .u32 0, .string ⟨#[]⟩] 36)).setRow W1.heap.size #[.int .i64 d.k, .int .i64 d.s, .string d.nm, .int .i64 d.ek, .int .i64 d.ru.f0, .int .i64 d.ru.f1, .int .i64 d.ru.f2, .int .i64 d.ru.f3, .int .u32 d.ru.f4.f0, .int .u32 d.ru.f4.f1, .int .i64 d.ru.f5, .int .i64 d.qk, .int .i64 d.qa, .int .i64 d.qb, .int .i64 d.qw, .int .u32 d.qf, .int .u32 d.qt, .string d.qo]) = W2 at *
  obtain ⟨gKP, hgKP⟩ : ∃ g, W1.heap.size = g := ⟨_, rfl⟩
  rw [hgKP] at KP ⊢
  clear hgKP
  try dsimp only
  repeat ((fail_if_success (show Oper.wp _ (Oper.mk _ (Op.load 36 _) _ _ _ _) _ _ _ _)); (first | go_values | go_skip | go_guarded | go_step | go_upon | go_back))
  refine wp_load_row KP.out rfl rfl Try.underlying36 rfl (by kernel_rfl) ?_
  try go_simp
  go_wp2_with fail
  refine (CE.out W2).mono ?_
  rintro e W3 ⟨⟨vx, rfl, hR⟩, hb⟩
  obtain ⟨Ax, cx, rfl⟩ := Kd.R_slice hR
  have HX := Aside0.mk (Kd.R_reads' hR).2.2
  replace HC := Aside0.mk (Kd.C_below HC.out hb)
  replace HB := Aside0.mk (HB.out.trans (hb.mono HB.out.size))
  replace KP := Aside0.mk (blk_below KP.out hb)
  clear hb hR CE
  have s1 := CS.out W3 Ax cx HX.out
  have s2 := CS.out W3 A c HC.out
  try dsimp only
  repeat ((fail_if_success (show Oper.wp _ (Oper.mk _ (Op.load 36 _) _ _ _ _) _ _ _ _)); (first | go_values | go_skip | go_guarded | go_step | go_upon | go_back))
  refine wp_load_row KP.out rfl rfl Try.underlying36 rfl (by kernel_rfl) ?_
  try go_simp
  go_wp2_with fail
  refine (CT.out W3).mono ?_
  rintro e W4 ⟨rfl, hb⟩
  replace HC := Aside0.mk (Kd.C_below HC.out hb)
  replace HB := Aside0.mk (HB.out.trans (hb.mono HB.out.size))
  replace KP := Aside0.mk (blk_below KP.out hb)
  clear hb CT s1 s2 HX
  go_wp2_with fail
  refine (CR.out W4 HB.out).mono ?_
  rintro e W5 ⟨⟨v2, v3, v7, rfl, hO⟩, hb⟩
  obtain ⟨A2s, c2s, rfl, l2, hO2⟩ := Kd.R_reads hO.1
  obtain ⟨A3s, c3s, rfl, l3, hO3⟩ := Kd.R_reads hO.2.1
  obtain ⟨A7s, c7s, rfl, l7, hO7⟩ := Kd.R_reads hO.2.2
  have H2 := Aside0.mk hO2
  have H3 := Aside0.mk hO3
  have H7 := Aside0.mk hO7
  replace HC := Aside0.mk (Kd.C_below HC.out hb)
  replace HB := Aside0.mk (HB.out.trans (hb.mono HB.out.size))
  replace KP := Aside0.mk (blk_below KP.out hb)
  clear hb hO hO2 hO3 hO7 CR
  have hlo := HB.out.size
  have hbn := (Below.refl W5.heap.size W5).alloc (Nat.le_refl _) (.cells #[.int .i64 0, .int .i64 0, .slice none 0 0, .slice none 0 0, .bool false, .int .i64 0, .int .u32 0, .slice none 0 0, .int .i64 0, .int .i64 0, .int .i64 0] 50)
  have KR := Aside0.mk (blk_new W5 (.cells #[.int .i64 0, .int .i64 0, .slice none 0 0, .slice none 0 0, .bool false, .int .i64 0, .int .u32 0, .slice none 0 0, .int .i64 0, .int .i64 0, .int .i64 0] 50))
  have hbr := below_row (B := W5.heap.size) hbn (Nat.le_refl _) (C := #[.int .i64 s.e, .int .i64 s.n, (.slice A2s s.ids.length c2s), (.slice A3s s.rules.length c3s), .bool s.h, .int .i64 s.fr, .int .u32 s.ad, (.slice A7s s.dv.length c7s), .int .i64 s.ft, .int .i64 s.od, .int .i64 s.op])
  replace HC := Aside0.mk (Kd.C_below HC.out hbr)
  replace HB := Aside0.mk (HB.out.trans (hbr.mono HB.out.size))
  replace KP := Aside0.mk (blk_below KP.out hbr)
  replace H2 := Aside0.mk (Kd.C_below H2.out hbr)
  replace H3 := Aside0.mk (Kd.C_below H3.out hbr)
  replace H7 := Aside0.mk (Kd.C_below H7.out hbr)
  clear hbn hbr hlo
  try dsimp only
  repeat ((fail_if_success (show Oper.wp _ (Oper.mk none (Op.store _ _ _) _ _ _ _) _ _ _ _)); (first | go_values | go_skip | go_guarded | go_step | go_upon | go_back))
  refine wp_store_row (c' := #[.int .i64 s.e, .int .i64 s.n, (.slice A2s s.ids.length c2s), (.slice A3s s.rules.length c3s), .bool s.h, .int .i64 s.fr, .int .u32 s.ad, (.slice A7s s.dv.length c7s), .int .i64 s.ft, .int .i64 s.od, .int .i64 s.op]) KR.out rfl rfl rfl rfl (by kernel_rfl) rfl (by simp [Value.oneCell']) ?_
  replace KR := Aside0.mk (heap_setRow_self (cs := #[.int .i64 s.e, .int .i64 s.n, (.slice A2s s.ids.length c2s), (.slice A3s s.rules.length c3s), .bool s.h, .int .i64 s.fr, .int .u32 s.ad, (.slice A7s s.dv.length c7s), .int .i64 s.ft, .int .i64 s.od, .int .i64 s.op]) KR.out)
  generalize ((W5.alloc (.cells #[.int .i64 0, .int .i64 0, .slice none 0 0, .slice none 0 0, .bool false, .int .i64 0, .int .u32 0, .slice none 0 0, .int .i64 0, .int .i64 0, .int .i64 0] 50)).setRow W5.heap.size #[.int .i64 s.e, .int .i64 s.n, (.slice A2s s.ids.length c2s), (.slice A3s s.rules.length c3s), .bool s.h, .int .i64 s.fr, .int .u32 s.ad, (.slice A7s s.dv.length c7s), .int .i64 s.ft, .int .i64 s.od, .int .i64 s.op]) = W6 at *
  obtain ⟨gKR, hgKR⟩ : ∃ g, W5.heap.size = g := ⟨_, rfl⟩
  rw [hgKR] at KR ⊢
  clear hgKR
  go_wp2_with fail
  refine (CA.out W6).mono ?_
  rintro e W8 ⟨rfl, hb⟩
  replace HB := Aside0.mk (HB.out.trans (hb.mono HB.out.size))
  clear hb
  go_wp2_with fail
  go_ret
  exact ⟨rfl, HB.out⟩
set_option maxHeartbeats 16000000 in
theorem wireOne_01 (A : Option Addr) (c : Nat) (l : List Int) (w : World) (hC : Kd.C (Kd.int .u8) w A l.length l) (hc : l.length ≤ c) (hby : bytes l) (hl : ¬ 2000 < (l.length : Int)) (d : Rq) (hD : decOut l = (d, 171)) (s : Rs) (hR : readOut l = (s, 0)) (hN : ansOut s = (l, 0)) (hr : ∀ x ∈ s.rules, okRu x) (had : 0 ≤ s.ad ∧ s.ad ≤ 4294967295) :
    Calls Try.prog 5 #[.slice A l.length c] w fun e w' => e = .returned (.bool true) ∧ Below w.heap.size w w' := by
  have HC := Aside0.mk hC
  have HB := Aside0.mk (Below.refl w.heap.size w)
  have hl2 : l.length < 140737488355328 := by omega
  have CD := dec_any A c l w hC hc hl2 hby
  rw [hD] at CD
  try unfold rqVals at CD
  have CD := Aside0.mk CD
  have CR := Aside0.mk (fun (W : World) (hb : Below w.heap.size w W) => read_any A c l W (Kd.C_below hC hb) hc hl2 hby)
  rw [hR] at CR
  try unfold rsVals at CR
  have CA := Aside0.mk alive_any
  have CS := Aside0.mk (fun W A c h => conv_S l W A c h)
  generalize strOfNums l = sL at CS
  have CN := Aside0.mk (fun (W : World) A2 c2 A3 c3 A7 c7 h2 h3 h7 => ans_any s A2 c2 A3 c3 A7 c7 W h2 h3 h7 hr had)
  rw [hN] at CN
  try unfold rsVals at CN
  clear hN hr had
  clear hC hby hD hR
  simp only [] at *
  go_enter Try.func5, Try.ntmps5
  go_wp2_with fail
  refine CD.out.mono ?_
  rintro e W1 ⟨rfl, hb⟩
  clear CD
  replace HC := Aside0.mk (Kd.C_below HC.out hb)
  replace HB := Aside0.mk (HB.out.trans (hb.mono HB.out.size))
  clear hb
  have hlo := HB.out.size
  have hbn := (Below.refl W1.heap.size W1).alloc (Nat.le_refl _) (.cells #[.int .i64 0, .int .i64 0, .string ⟨#[]⟩, .int .i64 0, .int .i64 0, .int .i64 0, .int .i64 0, .int .i64 0, .int .u32 0, .int .u32 0, .int .i64 0, .int .i64 0, .int .i64 0, .int .i64 0, .int .i64 0, .int .u32 0, .int .u32 0, .string ⟨#[]⟩] 36)
  have KP := Aside0.mk (blk_new W1 (.cells #[.int .i64 0, .int .i64 0, .string ⟨#[]⟩, .int .i64 0, .int .i64 0, .int .i64 0, .int .i64 0, .int .i64 0, .int .u32 0, .int .u32 0, .int .i64 0, .int .i64 0, .int .i64 0, .int .i64 0, .int .i64 0, .int .u32 0, .int .u32 0, .string ⟨#[]⟩] 36))
  have hbr := below_row (B := W1.heap.size) hbn (Nat.le_refl _) (C := #[.int .i64 d.k, .int .i64 d.s, .string d.nm, .int .i64 d.ek, .int .i64 d.ru.f0, .int .i64 d.ru.f1, .int .i64 d.ru.f2, .int .i64 d.ru.f3, .int .u32 d.ru.f4.f0, .int .u32 d.ru.f4.f1, .int .i64 d.ru.f5, .int .i64 d.qk, .int .i64 d.qa, .int .i64 d.qb, .int .i64 d.qw, .int .u32 d.qf, .int .u32 d.qt, .string d.qo])
  replace HC := Aside0.mk (Kd.C_below HC.out hbr)
  replace HB := Aside0.mk (HB.out.trans (hbr.mono HB.out.size))
  clear hbn hbr hlo
  try dsimp only
  repeat ((fail_if_success (show Oper.wp _ (Oper.mk none (Op.store _ _ _) _ _ _ _) _ _ _ _)); (first | go_values | go_skip | go_guarded | go_step | go_upon | go_back))
  refine wp_store_row (c' := #[.int .i64 d.k, .int .i64 d.s, .string d.nm, .int .i64 d.ek, .int .i64 d.ru.f0, .int .i64 d.ru.f1, .int .i64 d.ru.f2, .int .i64 d.ru.f3, .int .u32 d.ru.f4.f0, .int .u32 d.ru.f4.f1, .int .i64 d.ru.f5, .int .i64 d.qk, .int .i64 d.qa, .int .i64 d.qb, .int .i64 d.qw, .int .u32 d.qf, .int .u32 d.qt, .string d.qo]) KP.out rfl rfl rfl rfl (by kernel_rfl) rfl (by simp [Value.oneCell']) ?_
  replace KP := Aside0.mk (heap_setRow_self (cs := #[.int .i64 d.k, .int .i64 d.s, .string d.nm, .int .i64 d.ek, .int .i64 d.ru.f0, .int .i64 d.ru.f1, .int .i64 d.ru.f2, .int .i64 d.ru.f3, .int .u32 d.ru.f4.f0, .int .u32 d.ru.f4.f1, .int .i64 d.ru.f5, .int .i64 d.qk, .int .i64 d.qa, .int .i64 d.qb, .int .i64 d.qw, .int .u32 d.qf, .int .u32 d.qt, .string d.qo]) KP.out)
  generalize ((W1.alloc (.cells #[.int .i64 0, .int .i64 0, .string ⟨#[]⟩, .int .i64 0, .int .i64 0, .int .i64 0, .int .i64 0, .int .i64 0, .int .u32 0, .int .u32 0, .int .i64 0, .int .i64 0, .int .i64 0, .int .i64 0, .int .i64 0, .int .u32 0, .int .u32 0, .string ⟨#[]⟩] 36)).setRow W1.heap.size #[.int .i64 d.k, .int .i64 d.s, .string d.nm, .int .i64 d.ek, .int .i64 d.ru.f0, .int .i64 d.ru.f1, .int .i64 d.ru.f2, .int .i64 d.ru.f3, .int .u32 d.ru.f4.f0, .int .u32 d.ru.f4.f1, .int .i64 d.ru.f5, .int .i64 d.qk, .int .i64 d.qa, .int .i64 d.qb, .int .i64 d.qw, .int .u32 d.qf, .int .u32 d.qt, .string d.qo]) = W2 at *
  obtain ⟨gKP, hgKP⟩ : ∃ g, W1.heap.size = g := ⟨_, rfl⟩
  rw [hgKP] at KP ⊢
  clear hgKP
  go_wp2_with fail
  refine (CR.out W2 HB.out).mono ?_
  rintro e W5 ⟨⟨v2, v3, v7, rfl, hO⟩, hb⟩
  obtain ⟨A2s, c2s, rfl, l2, hO2⟩ := Kd.R_reads hO.1
  obtain ⟨A3s, c3s, rfl, l3, hO3⟩ := Kd.R_reads hO.2.1
  obtain ⟨A7s, c7s, rfl, l7, hO7⟩ := Kd.R_reads hO.2.2
  have H2 := Aside0.mk hO2
  have H3 := Aside0.mk hO3
  have H7 := Aside0.mk hO7
  replace HC := Aside0.mk (Kd.C_below HC.out hb)
  replace HB := Aside0.mk (HB.out.trans (hb.mono HB.out.size))
  replace KP := Aside0.mk (blk_below KP.out hb)
  clear hb hO hO2 hO3 hO7 CR
  have hlo := HB.out.size
  have hbn := (Below.refl W5.heap.size W5).alloc (Nat.le_refl _) (.cells #[.int .i64 0, .int .i64 0, .slice none 0 0, .slice none 0 0, .bool false, .int .i64 0, .int .u32 0, .slice none 0 0, .int .i64 0, .int .i64 0, .int .i64 0] 50)
  have KR := Aside0.mk (blk_new W5 (.cells #[.int .i64 0, .int .i64 0, .slice none 0 0, .slice none 0 0, .bool false, .int .i64 0, .int .u32 0, .slice none 0 0, .int .i64 0, .int .i64 0, .int .i64 0] 50))
  have hbr := below_row (B := W5.heap.size) hbn (Nat.le_refl _) (C := #[.int .i64 s.e, .int .i64 s.n, (.slice A2s s.ids.length c2s), (.slice A3s s.rules.length c3s), .bool s.h, .int .i64 s.fr, .int .u32 s.ad, (.slice A7s s.dv.length c7s), .int .i64 s.ft, .int .i64 s.od, .int .i64 s.op])
  replace HC := Aside0.mk (Kd.C_below HC.out hbr)
  replace HB := Aside0.mk (HB.out.trans (hbr.mono HB.out.size))
  replace KP := Aside0.mk (blk_below KP.out hbr)
  replace H2 := Aside0.mk (Kd.C_below H2.out hbr)
  replace H3 := Aside0.mk (Kd.C_below H3.out hbr)
  replace H7 := Aside0.mk (Kd.C_below H7.out hbr)
  clear hbn hbr hlo
  try dsimp only
  repeat ((fail_if_success (show Oper.wp _ (Oper.mk none (Op.store _ _ _) _ _ _ _) _ _ _ _)); (first | go_values | go_skip | go_guarded | go_step | go_upon | go_back))
  refine wp_store_row (c' := #[.int .i64 s.e, .int .i64 s.n, (.slice A2s s.ids.length c2s), (.slice A3s s.rules.length c3s), .bool s.h, .int .i64 s.fr, .int .u32 s.ad, (.slice A7s s.dv.length c7s), .int .i64 s.ft, .int .i64 s.od, .int .i64 s.op]) KR.out rfl rfl rfl rfl (by kernel_rfl) rfl (by simp [Value.oneCell']) ?_
  replace KR := Aside0.mk (heap_setRow_self (cs := #[.int .i64 s.e, .int .i64 s.n, (.slice A2s s.ids.length c2s), (.slice A3s s.rules.length c3s), .bool s.h, .int .i64 s.fr, .int .u32 s.ad, (.slice A7s s.dv.length c7s), .int .i64 s.ft, .int .i64 s.od, .int .i64 s.op]) KR.out)
  generalize ((W5.alloc (.cells #[.int .i64 0, .int .i64 0, .slice none 0 0, .slice none 0 0, .bool false, .int .i64 0, .int .u32 0, .slice none 0 0, .int .i64 0, .int .i64 0, .int .i64 0] 50)).setRow W5.heap.size #[.int .i64 s.e, .int .i64 s.n, (.slice A2s s.ids.length c2s), (.slice A3s s.rules.length c3s), .bool s.h, .int .i64 s.fr, .int .u32 s.ad, (.slice A7s s.dv.length c7s), .int .i64 s.ft, .int .i64 s.od, .int .i64 s.op]) = W6 at *
  obtain ⟨gKR, hgKR⟩ : ∃ g, W5.heap.size = g := ⟨_, rfl⟩
  rw [hgKR] at KR ⊢
  clear hgKR
  try dsimp only
  repeat ((fail_if_success (show Oper.wp _ (Oper.mk _ (Op.load 50 _) _ _ _ _) _ _ _ _)); (first | go_values | go_skip | go_guarded | go_step | go_upon | go_back))
  refine wp_load_row KR.out rfl rfl Try.underlying50 rfl (by kernel_rfl) ?_
  try go_simp
  go_wp2_with fail
  refine (CN.out W6 A2s c2s A3s c3s A7s c7s H2.out H3.out H7.out).mono ?_
  rintro e W7 ⟨⟨vx, rfl, hR⟩, hb⟩
  obtain ⟨Ay, cy, rfl⟩ := Kd.R_slice hR
  have HY := Aside0.mk (Kd.R_reads' hR).2.2
  replace HC := Aside0.mk (Kd.C_below HC.out hb)
  replace HB := Aside0.mk (HB.out.trans (hb.mono HB.out.size))
  replace KP := Aside0.mk (blk_below KP.out hb)
  replace H2 := Aside0.mk (Kd.C_below H2.out hb)
  replace H3 := Aside0.mk (Kd.C_below H3.out hb)
  replace H7 := Aside0.mk (Kd.C_below H7.out hb)
  replace KR := Aside0.mk (blk_below KR.out hb)
  clear hb hR CN
  have s1 := CS.out W7 Ay cy HY.out
  have s2 := CS.out W7 A c HC.out
  go_wp2_with fail
  refine (CA.out W7).mono ?_
  rintro e W8 ⟨rfl, hb⟩
  replace HB := Aside0.mk (HB.out.trans (hb.mono HB.out.size))
  clear hb
  go_wp2_with fail
  go_ret
  exact ⟨rfl, HB.out⟩
set_option maxHeartbeats 16000000 in
theorem wireOne_00 (A : Option Addr) (c : Nat) (l : List Int) (w : World) (hC : Kd.C (Kd.int .u8) w A l.length l) (hc : l.length ≤ c) (hby : bytes l) (hl : ¬ 2000 < (l.length : Int)) (d : Rq) (hD : decOut l = (d, 171)) (s : Rs) (hR : readOut l = (s, 171)) :
    Calls Try.prog 5 #[.slice A l.length c] w fun e w' => e = .returned (.bool true) ∧ Below w.heap.size w w' := by
  have HC := Aside0.mk hC
  have HB := Aside0.mk (Below.refl w.heap.size w)
  have hl2 : l.length < 140737488355328 := by omega
  have CD := dec_any A c l w hC hc hl2 hby
  rw [hD] at CD
  try unfold rqVals at CD
  have CD := Aside0.mk CD
  have CR := Aside0.mk (fun (W : World) (hb : Below w.heap.size w W) => read_any A c l W (Kd.C_below hC hb) hc hl2 hby)
  rw [hR] at CR
  try unfold rsVals at CR
  have CA := Aside0.mk alive_any
  have CS := Aside0.mk (fun W A c h => conv_S l W A c h)
  generalize strOfNums l = sL at CS
  clear hC hby hD hR
  simp only [] at *
  go_enter Try.func5, Try.ntmps5
  go_wp2_with fail
  refine CD.out.mono ?_
  rintro e W1 ⟨rfl, hb⟩
  clear CD
  replace HC := Aside0.mk (Kd.C_below HC.out hb)
  replace HB := Aside0.mk (HB.out.trans (hb.mono HB.out.size))
  clear hb
  have hlo := HB.out.size
  have hbn := (Below.refl W1.heap.size W1).alloc (Nat.le_refl _) (.cells #[.int .i64 0, .int .i64 0, .string ⟨#[]⟩, .int .i64 0, .int .i64 0, .int .i64 0, .int .i64 0, .int .i64 0, .int .u32 0, .int .u32 0, .int .i64 0, .int .i64 0, .int .i64 0, .int .i64 0, .int .i64 0, .int .u32 0, .int .u32 0, .string ⟨#[]⟩] 36)
  have KP := Aside0.mk (blk_new W1 (.cells #[.int .i64 0, .int .i64 0, .string ⟨#[]⟩, .int .i64 0, .int .i64 0, .int .i64 0, .int .i64 0, .int .i64 0, .int .u32 0, .int .u32 0, .int .i64 0, .int .i64 0, .int .i64 0, .int .i64 0, .int .i64 0, .int .u32 0, .int .u32 0, .string ⟨#[]⟩] 36))
  have hbr := below_row (B := W1.heap.size) hbn (Nat.le_refl _) (C := #[.int .i64 d.k, .int .i64 d.s, .string d.nm, .int .i64 d.ek, .int .i64 d.ru.f0, .int .i64 d.ru.f1, .int .i64 d.ru.f2, .int .i64 d.ru.f3, .int .u32 d.ru.f4.f0, .int .u32 d.ru.f4.f1, .int .i64 d.ru.f5, .int .i64 d.qk, .int .i64 d.qa, .int .i64 d.qb, .int .i64 d.qw, .int .u32 d.qf, .int .u32 d.qt, .string d.qo])
  replace HC := Aside0.mk (Kd.C_below HC.out hbr)
  replace HB := Aside0.mk (HB.out.trans (hbr.mono HB.out.size))
  clear hbn hbr hlo
  try dsimp only
  repeat ((fail_if_success (show Oper.wp _ (Oper.mk none (Op.store _ _ _) _ _ _ _) _ _ _ _)); (first | go_values | go_skip | go_guarded | go_step | go_upon | go_back))
  refine wp_store_row (c' := #[.int .i64 d.k, .int .i64 d.s, .string d.nm, .int .i64 d.ek, .int .i64 d.ru.f0, .int .i64 d.ru.f1, .int .i64 d.ru.f2, .int .i64 d.ru.f3, .int .u32 d.ru.f4.f0, .int .u32 d.ru.f4.f1, .int .i64 d.ru.f5, .int .i64 d.qk, .int .i64 d.qa, .int .i64 d.qb, .int .i64 d.qw, .int .u32 d.qf, .int .u32 d.qt, .string d.qo]) KP.out rfl rfl rfl rfl (by kernel_rfl) rfl (by simp [Value.oneCell']) ?_
  replace KP := Aside0.mk (heap_setRow_self (cs := #[.int .i64 d.k, .int .i64 d.s, .string d.nm, .int .i64 d.ek, .int .i64 d.ru.f0, .int .i64 d.ru.f1, .int .i64 d.ru.f2, .int .i64 d.ru.f3, .int .u32 d.ru.f4.f0, .int .u32 d.ru.f4.f1, .int .i64 d.ru.f5, .int .i64 d.qk, .int .i64 d.qa, .int .i64 d.qb, .int .i64 d.qw, .int .u32 d.qf, .int .u32 d.qt, .string d.qo]) KP.out)
  generalize ((W1.alloc (.cells #[.int .i64 0, .int .i64 0, .string ⟨#[]⟩, .int .i64 0, .int .i64 0, .int .i64 0, .int .i64 0, .int .i64 0, .int .u32 0, .int .u32 0, .int .i64 0, .int .i64 0, .int .i64 0, .int .i64 0, .int .i64 0, .int .u32 0, .int .u32 0, .string ⟨#[]⟩] 36)).setRow W1.heap.size #[.int .i64 d.k, .int .i64 d.s, .string d.nm, .int .i64 d.ek, .int .i64 d.ru.f0, .int .i64 d.ru.f1, .int .i64 d.ru.f2, .int .i64 d.ru.f3, .int .u32 d.ru.f4.f0, .int .u32 d.ru.f4.f1, .int .i64 d.ru.f5, .int .i64 d.qk, .int .i64 d.qa, .int .i64 d.qb, .int .i64 d.qw, .int .u32 d.qf, .int .u32 d.qt, .string d.qo]) = W2 at *
  obtain ⟨gKP, hgKP⟩ : ∃ g, W1.heap.size = g := ⟨_, rfl⟩
  rw [hgKP] at KP ⊢
  clear hgKP
  go_wp2_with fail
  refine (CR.out W2 HB.out).mono ?_
  rintro e W5 ⟨⟨v2, v3, v7, rfl, hO⟩, hb⟩
  obtain ⟨A2s, c2s, rfl, l2, hO2⟩ := Kd.R_reads hO.1
  obtain ⟨A3s, c3s, rfl, l3, hO3⟩ := Kd.R_reads hO.2.1
  obtain ⟨A7s, c7s, rfl, l7, hO7⟩ := Kd.R_reads hO.2.2
  have H2 := Aside0.mk hO2
  have H3 := Aside0.mk hO3
  have H7 := Aside0.mk hO7
  replace HC := Aside0.mk (Kd.C_below HC.out hb)
  replace HB := Aside0.mk (HB.out.trans (hb.mono HB.out.size))
  replace KP := Aside0.mk (blk_below KP.out hb)
  clear hb hO hO2 hO3 hO7 CR
  have hlo := HB.out.size
  have hbn := (Below.refl W5.heap.size W5).alloc (Nat.le_refl _) (.cells #[.int .i64 0, .int .i64 0, .slice none 0 0, .slice none 0 0, .bool false, .int .i64 0, .int .u32 0, .slice none 0 0, .int .i64 0, .int .i64 0, .int .i64 0] 50)
  have KR := Aside0.mk (blk_new W5 (.cells #[.int .i64 0, .int .i64 0, .slice none 0 0, .slice none 0 0, .bool false, .int .i64 0, .int .u32 0, .slice none 0 0, .int .i64 0, .int .i64 0, .int .i64 0] 50))
  have hbr := below_row (B := W5.heap.size) hbn (Nat.le_refl _) (C := #[.int .i64 s.e, .int .i64 s.n, (.slice A2s s.ids.length c2s), (.slice A3s s.rules.length c3s), .bool s.h, .int .i64 s.fr, .int .u32 s.ad, (.slice A7s s.dv.length c7s), .int .i64 s.ft, .int .i64 s.od, .int .i64 s.op])
  replace HC := Aside0.mk (Kd.C_below HC.out hbr)
  replace HB := Aside0.mk (HB.out.trans (hbr.mono HB.out.size))
  replace KP := Aside0.mk (blk_below KP.out hbr)
  replace H2 := Aside0.mk (Kd.C_below H2.out hbr)
  replace H3 := Aside0.mk (Kd.C_below H3.out hbr)
  replace H7 := Aside0.mk (Kd.C_below H7.out hbr)
  clear hbn hbr hlo
  try dsimp only
  repeat ((fail_if_success (show Oper.wp _ (Oper.mk none (Op.store _ _ _) _ _ _ _) _ _ _ _)); (first | go_values | go_skip | go_guarded | go_step | go_upon | go_back))
  refine wp_store_row (c' := #[.int .i64 s.e, .int .i64 s.n, (.slice A2s s.ids.length c2s), (.slice A3s s.rules.length c3s), .bool s.h, .int .i64 s.fr, .int .u32 s.ad, (.slice A7s s.dv.length c7s), .int .i64 s.ft, .int .i64 s.od, .int .i64 s.op]) KR.out rfl rfl rfl rfl (by kernel_rfl) rfl (by simp [Value.oneCell']) ?_
  replace KR := Aside0.mk (heap_setRow_self (cs := #[.int .i64 s.e, .int .i64 s.n, (.slice A2s s.ids.length c2s), (.slice A3s s.rules.length c3s), .bool s.h, .int .i64 s.fr, .int .u32 s.ad, (.slice A7s s.dv.length c7s), .int .i64 s.ft, .int .i64 s.od, .int .i64 s.op]) KR.out)
  generalize ((W5.alloc (.cells #[.int .i64 0, .int .i64 0, .slice none 0 0, .slice none 0 0, .bool false, .int .i64 0, .int .u32 0, .slice none 0 0, .int .i64 0, .int .i64 0, .int .i64 0] 50)).setRow W5.heap.size #[.int .i64 s.e, .int .i64 s.n, (.slice A2s s.ids.length c2s), (.slice A3s s.rules.length c3s), .bool s.h, .int .i64 s.fr, .int .u32 s.ad, (.slice A7s s.dv.length c7s), .int .i64 s.ft, .int .i64 s.od, .int .i64 s.op]) = W6 at *
  obtain ⟨gKR, hgKR⟩ : ∃ g, W5.heap.size = g := ⟨_, rfl⟩
  rw [hgKR] at KR ⊢
  clear hgKR
  go_wp2_with fail
  refine (CA.out W6).mono ?_
  rintro e W8 ⟨rfl, hb⟩
  replace HB := Aside0.mk (HB.out.trans (hb.mono HB.out.size))
  clear hb
  go_wp2_with fail
  go_ret
  exact ⟨rfl, HB.out⟩
set_option maxHeartbeats 4000000 in
theorem wireOne_row (A : Option Addr) (c : Nat) (l : List Int) (w : World) (hC : Kd.C (Kd.int .u8) w A l.length l) (hc : l.length ≤ c) (hby : bytes l) :
    Calls Try.prog 5 #[.slice A l.length c] w fun e w' => e = .returned (.bool true) ∧ Below w.heap.size w w' := by
  by_cases hl : 2000 < (l.length : Int)
  · have CA := Aside0.mk alive_any
    go_enter Try.func5, Try.ntmps5
    go_wp2_with fail
    refine (CA.out w).mono ?_
    rintro e W2 ⟨rfl, hb⟩
    go_wp2_with fail
    go_ret
    exact ⟨rfl, hb⟩
  · rcases dec_ok hby with ⟨h0, h1, h2, h3⟩ | h0
    · rcases read_ok hby with ⟨k0, k1, k2, k3⟩ | k0
      · exact wireOne_11 A c l w hC hc hby hl _ (by rw [← h0]) h1 h2 h3 _ (by rw [← k0]) k1 (fun x hx => okRu_of (k2.rules x hx)) k3
      · exact wireOne_10 A c l w hC hc hby hl _ (by rw [← h0]) h1 h2 h3 _ (by rw [← k0])
    · rcases read_ok hby with ⟨k0, k1, k2, k3⟩ | k0
      · exact wireOne_01 A c l w hC hc hby hl _ (by rw [← h0]) _ (by rw [← k0]) k1 (fun x hx => okRu_of (k2.rules x hx)) k3
      · exact wireOne_00 A c l w hC hc hby hl _ (by rw [← h0]) _ (by rw [← k0])
end Go.Proofs.Ytpaknjmcjblahaa.H
