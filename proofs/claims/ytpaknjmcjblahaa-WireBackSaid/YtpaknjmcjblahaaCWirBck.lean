/- The law WireBack: walked. -/
import Derived.Test.YtpaknjmcjblahaaCWirT
import Derived.Test.YtpaknjmcjblahaaCReg
import Derived.Deep.RegionHeld3
namespace Go.Proofs.Ytpaknjmcjblahaa.H
open Go.RowKit Go.Proofs.Ytpaknjmcjblahaa.P Go.Proofs.YtpaknjmcjblahaaW.PrintWords Go.Proofs.YtpaknjmcjblahaaW.PrintLast Go.Proofs.YtpaknjmcjblahaaW.PrintMore
set_option linter.unusedVariables false
set_option linter.unusedSimpArgs false
set_option maxRecDepth 20000
def eqRqB (r s : Rq) : Bool := r.k == s.k && (r.s == s.s && (r.nm.toList == s.nm.toList && ((r.ek == s.ek && (r.ru.f0 == s.ru.f0 && (r.ru.f1 == s.ru.f1 && (r.ru.f2 == s.ru.f2 && (r.ru.f3 == s.ru.f3 && ((r.ru.f4.f0 == s.ru.f4.f0 && (r.ru.f4.f1 == s.ru.f4.f1)) && (r.ru.f5 == s.ru.f5))))))) && (r.qk == s.qk && (r.qa == s.qa && (r.qb == s.qb && (r.qw == s.qw && ((r.qf == s.qf && (r.qt == s.qt)) && (r.qo.toList == s.qo.toList)))))))))
theorem eqRqB_iff (r s : Rq) : eqRqB r s = true ↔ r = s := by
  have ba : ∀ a b : ByteArray, a.toList = b.toList ↔ a = b := fun a b => by
    constructor
    · intro h
      rw [ByteArray.toList_eq, ByteArray.toList_eq] at h
      exact Go.WideShapes.bytes_inj h
    · rintro rfl; rfl
  obtain ⟨a1, a2, a3, a4, ⟨a5, a6, a7, a8, ⟨a9, b1⟩, b2⟩, b3, b4, b5, b6, b7, b8, b9⟩ := r
  obtain ⟨c1, c2, c3, c4, ⟨c5, c6, c7, c8, ⟨c9, d1⟩, d2⟩, d3, d4, d5, d6, d7, d8, d9⟩ := s
  unfold eqRqB
  simp only [Bool.and_eq_true, beq_iff_eq, ba]
  constructor
  · rintro ⟨rfl, rfl, rfl, ⟨rfl, rfl, rfl, rfl, rfl, ⟨rfl, rfl⟩, rfl⟩, rfl, rfl, rfl, rfl, ⟨rfl, rfl⟩, rfl⟩; rfl
  · intro h; cases h; simp
theorem eqA36r (r s : Rq) (d : Nat) (w : World) : (Op.equalIn (d + 5) 36 (.agg #[.int .i64 r.k, .int .i64 r.s, .string r.nm, .int .i64 r.ek, .int .i64 r.ru.f0, .int .i64 r.ru.f1, .int .i64 r.ru.f2, .int .i64 r.ru.f3, .int .u32 r.ru.f4.f0, .int .u32 r.ru.f4.f1, .int .i64 r.ru.f5, .int .i64 r.qk, .int .i64 r.qa, .int .i64 r.qb, .int .i64 r.qw, .int .u32 r.qf, .int .u32 r.qt, .string r.qo]) (.agg #[.int .i64 s.k, .int .i64 s.s, .string s.nm, .int .i64 s.ek, .int .i64 s.ru.f0, .int .i64 s.ru.f1, .int .i64 s.ru.f2, .int .i64 s.ru.f3, .int .u32 s.ru.f4.f0, .int .u32 s.ru.f4.f1, .int .i64 s.ru.f5, .int .i64 s.qk, .int .i64 s.qa, .int .i64 s.qb, .int .i64 s.qw, .int .u32 s.qf, .int .u32 s.qt, .string s.qo])).run Try.prog w = .ok (eqRqB r s) w := eqA36 d w _ _ _ _ _ _ _ _ _ _ _ _ _ _ _ _ _ _ _ _ _ _ _ _ _ _ _ _ _ _ _ _ _ _ _ _
attribute [local go_sem high] eqA36r
set_option maxHeartbeats 16000000 in
theorem wireBack_b1 (r s : Rq) (hur : okRq r) (hus : okRq s) (w : World) (f1 : fitsB r zRs = false) :
    Calls Try.prog 4 #[.agg #[.int .i64 r.k, .int .i64 r.s, .string r.nm, .int .i64 r.ek, .int .i64 r.ru.f0, .int .i64 r.ru.f1, .int .i64 r.ru.f2, .int .i64 r.ru.f3, .int .u32 r.ru.f4.f0, .int .u32 r.ru.f4.f1, .int .i64 r.ru.f5, .int .i64 r.qk, .int .i64 r.qa, .int .i64 r.qb, .int .i64 r.qw, .int .u32 r.qf, .int .u32 r.qt, .string r.qo], .agg #[.int .i64 s.k, .int .i64 s.s, .string s.nm, .int .i64 s.ek, .int .i64 s.ru.f0, .int .i64 s.ru.f1, .int .i64 s.ru.f2, .int .i64 s.ru.f3, .int .u32 s.ru.f4.f0, .int .u32 s.ru.f4.f1, .int .i64 s.ru.f5, .int .i64 s.qk, .int .i64 s.qa, .int .i64 s.qb, .int .i64 s.qw, .int .u32 s.qf, .int .u32 s.qt, .string s.qo]] w fun e w' => e = .returned (.bool true) ∧ Below w.heap.size w w' := by
  have CFr := Aside0.mk (fun W : World => fits_any r zRs none 0 none 0 none 0 W (nilI W) (Nat.le_refl _) (nilR W) (Nat.le_refl _) (nilI W) (Nat.le_refl _))
  have CEr := Aside0.mk (fun W : World => enc_any r hur W)
  have CFs := Aside0.mk (fun W : World => fits_any s zRs none 0 none 0 none 0 W (nilI W) (Nat.le_refl _) (nilR W) (Nat.le_refl _) (nilI W) (Nat.le_refl _))
  have CEs := Aside0.mk (fun W : World => enc_any s hus W)
  have CA := Aside0.mk alive_any
  rw [f1] at CFr
  generalize encOut r = PR at *
  generalize encOut s = PS at *
  try clear f1
  try clear f2
  try clear e1
  try clear e2
  obtain ⟨BR, hBR⟩ : ∃ x, x = (Obj.cells #[.int .i64 r.k, .int .i64 r.s, .string r.nm, .int .i64 r.ek, .int .i64 r.ru.f0, .int .i64 r.ru.f1, .int .i64 r.ru.f2, .int .i64 r.ru.f3, .int .u32 r.ru.f4.f0, .int .u32 r.ru.f4.f1, .int .i64 r.ru.f5, .int .i64 r.qk, .int .i64 r.qa, .int .i64 r.qb, .int .i64 r.qw, .int .u32 r.qf, .int .u32 r.qt, .string r.qo] 36) := ⟨_, rfl⟩
  obtain ⟨BS, hBS⟩ : ∃ x, x = (Obj.cells #[.int .i64 s.k, .int .i64 s.s, .string s.nm, .int .i64 s.ek, .int .i64 s.ru.f0, .int .i64 s.ru.f1, .int .i64 s.ru.f2, .int .i64 s.ru.f3, .int .u32 s.ru.f4.f0, .int .u32 s.ru.f4.f1, .int .i64 s.ru.f5, .int .i64 s.qk, .int .i64 s.qa, .int .i64 s.qb, .int .i64 s.qw, .int .u32 s.qf, .int .u32 s.qt, .string s.qo] 36) := ⟨_, rfl⟩
  have hba := (Below.refl w.heap.size w).alloc (Nat.le_refl _) BR
  have hbb := (Below.refl (w.alloc BR).heap.size (w.alloc BR)).alloc (Nat.le_refl _) BS
  have KX := Aside0.mk (blk_below (blk_new w BR) hbb)
  have KY0 := blk_new (w.alloc BR) BS
  have hsz : (w.alloc BR).heap.size = w.heap.size + 1 := by simp
  rw [hsz] at KY0
  have KY := Aside0.mk KY0
  have HB := Aside0.mk (hba.trans (hbb.mono hba.size))
  subst hBR hBS
  clear hba hbb KY0 hsz
  go_enter Try.func4, Try.ntmps4
  try dsimp only
  repeat ((fail_if_success (show Code.wp _ (Code.seq (Code.region 1 _ _) _) _ _ _)); (first | go_values | go_skip | go_guarded | go_step | go_upon | go_back))
  generalize ((w.alloc (.cells #[.int .i64 r.k, .int .i64 r.s, .string r.nm, .int .i64 r.ek, .int .i64 r.ru.f0, .int .i64 r.ru.f1, .int .i64 r.ru.f2, .int .i64 r.ru.f3, .int .u32 r.ru.f4.f0, .int .u32 r.ru.f4.f1, .int .i64 r.ru.f5, .int .i64 r.qk, .int .i64 r.qa, .int .i64 r.qb, .int .i64 r.qw, .int .u32 r.qf, .int .u32 r.qt, .string r.qo] 36)).alloc (.cells #[.int .i64 s.k, .int .i64 s.s, .string s.nm, .int .i64 s.ek, .int .i64 s.ru.f0, .int .i64 s.ru.f1, .int .i64 s.ru.f2, .int .i64 s.ru.f3, .int .u32 s.ru.f4.f0, .int .u32 s.ru.f4.f1, .int .i64 s.ru.f5, .int .i64 s.qk, .int .i64 s.qa, .int .i64 s.qb, .int .i64 s.qw, .int .u32 s.qf, .int .u32 s.qt, .string s.qo] 36)) = W0 at *
  obtain ⟨gY, hgY⟩ : ∃ g, w.heap.size + 1 = g := ⟨_, rfl⟩
  rw [hgY] at KY ⊢
  clear hgY
  try dsimp only
  repeat ((fail_if_success (show Oper.wp _ (Oper.mk _ (Op.load 36 _) _ _ _ _) _ _ _ _)); (first | go_values | go_skip | go_guarded | go_step | go_upon | go_back))
  refine wp_load_row KX.out rfl rfl Try.underlying36 rfl (by kernel_rfl) ?_
  try go_simp
  go_wp2_with fail
  refine (CFr.out W0).mono ?_
  rintro e W1 ⟨rfl, hb⟩
  replace KX := Aside0.mk (blk_below KX.out hb)
  replace KY := Aside0.mk (blk_below KY.out hb)
  replace HB := Aside0.mk (HB.out.trans (hb.mono HB.out.size))
  clear hb
  try dsimp only
  repeat ((fail_if_success (show Oper.wp _ (Oper.mk _ (Op.load 36 _) _ _ _ _) _ _ _ _)); (first | go_values | go_skip | go_guarded | go_step | go_upon | go_back))
  refine wp_load_row KX.out rfl rfl Try.underlying36 rfl (by kernel_rfl) ?_
  try go_simp
  go_wp2_with fail
  refine (CEr.out W1).mono ?_
  rintro e W2 ⟨⟨vr, rfl, hR⟩, hb⟩
  obtain ⟨Ar, cpr, rfl⟩ := Kd.R_slice hR
  replace KX := Aside0.mk (blk_below KX.out hb)
  replace KY := Aside0.mk (blk_below KY.out hb)
  replace HB := Aside0.mk (HB.out.trans (hb.mono HB.out.size))
  clear hb
  clear hR
  try dsimp only
  repeat ((fail_if_success (show Oper.wp _ (Oper.mk _ (Op.load 36 _) _ _ _ _) _ _ _ _)); (first | go_values | go_skip | go_guarded | go_step | go_upon | go_back))
  refine wp_load_row KY.out rfl rfl Try.underlying36 rfl (by kernel_rfl) ?_
  try go_simp
  go_wp2_with fail
  refine (CEs.out W2).mono ?_
  rintro e W3 ⟨⟨vs, rfl, hR⟩, hb⟩
  obtain ⟨As, cps, rfl⟩ := Kd.R_slice hR
  replace KX := Aside0.mk (blk_below KX.out hb)
  replace KY := Aside0.mk (blk_below KY.out hb)
  replace HB := Aside0.mk (HB.out.trans (hb.mono HB.out.size))
  clear hb
  clear hR
  go_wp2_with fail
  refine (CA.out W3).mono ?_
  rintro e W4 ⟨rfl, hb⟩
  replace HB := Aside0.mk (HB.out.trans (hb.mono HB.out.size))
  clear hb
  go_wp2_with fail
  go_ret
  exact ⟨rfl, HB.out⟩
set_option maxHeartbeats 16000000 in
theorem wireBack_b2 (r s : Rq) (hur : okRq r) (hus : okRq s) (w : World) (f1 : fitsB r zRs = true) (f2 : fitsB s zRs = false) :
    Calls Try.prog 4 #[.agg #[.int .i64 r.k, .int .i64 r.s, .string r.nm, .int .i64 r.ek, .int .i64 r.ru.f0, .int .i64 r.ru.f1, .int .i64 r.ru.f2, .int .i64 r.ru.f3, .int .u32 r.ru.f4.f0, .int .u32 r.ru.f4.f1, .int .i64 r.ru.f5, .int .i64 r.qk, .int .i64 r.qa, .int .i64 r.qb, .int .i64 r.qw, .int .u32 r.qf, .int .u32 r.qt, .string r.qo], .agg #[.int .i64 s.k, .int .i64 s.s, .string s.nm, .int .i64 s.ek, .int .i64 s.ru.f0, .int .i64 s.ru.f1, .int .i64 s.ru.f2, .int .i64 s.ru.f3, .int .u32 s.ru.f4.f0, .int .u32 s.ru.f4.f1, .int .i64 s.ru.f5, .int .i64 s.qk, .int .i64 s.qa, .int .i64 s.qb, .int .i64 s.qw, .int .u32 s.qf, .int .u32 s.qt, .string s.qo]] w fun e w' => e = .returned (.bool true) ∧ Below w.heap.size w w' := by
  have CFr := Aside0.mk (fun W : World => fits_any r zRs none 0 none 0 none 0 W (nilI W) (Nat.le_refl _) (nilR W) (Nat.le_refl _) (nilI W) (Nat.le_refl _))
  have CEr := Aside0.mk (fun W : World => enc_any r hur W)
  have CFs := Aside0.mk (fun W : World => fits_any s zRs none 0 none 0 none 0 W (nilI W) (Nat.le_refl _) (nilR W) (Nat.le_refl _) (nilI W) (Nat.le_refl _))
  have CEs := Aside0.mk (fun W : World => enc_any s hus W)
  have CA := Aside0.mk alive_any
  rw [f1] at CFr
  rw [f2] at CFs
  generalize encOut r = PR at *
  generalize encOut s = PS at *
  try clear f1
  try clear f2
  try clear e1
  try clear e2
  obtain ⟨BR, hBR⟩ : ∃ x, x = (Obj.cells #[.int .i64 r.k, .int .i64 r.s, .string r.nm, .int .i64 r.ek, .int .i64 r.ru.f0, .int .i64 r.ru.f1, .int .i64 r.ru.f2, .int .i64 r.ru.f3, .int .u32 r.ru.f4.f0, .int .u32 r.ru.f4.f1, .int .i64 r.ru.f5, .int .i64 r.qk, .int .i64 r.qa, .int .i64 r.qb, .int .i64 r.qw, .int .u32 r.qf, .int .u32 r.qt, .string r.qo] 36) := ⟨_, rfl⟩
  obtain ⟨BS, hBS⟩ : ∃ x, x = (Obj.cells #[.int .i64 s.k, .int .i64 s.s, .string s.nm, .int .i64 s.ek, .int .i64 s.ru.f0, .int .i64 s.ru.f1, .int .i64 s.ru.f2, .int .i64 s.ru.f3, .int .u32 s.ru.f4.f0, .int .u32 s.ru.f4.f1, .int .i64 s.ru.f5, .int .i64 s.qk, .int .i64 s.qa, .int .i64 s.qb, .int .i64 s.qw, .int .u32 s.qf, .int .u32 s.qt, .string s.qo] 36) := ⟨_, rfl⟩
  have hba := (Below.refl w.heap.size w).alloc (Nat.le_refl _) BR
  have hbb := (Below.refl (w.alloc BR).heap.size (w.alloc BR)).alloc (Nat.le_refl _) BS
  have KX := Aside0.mk (blk_below (blk_new w BR) hbb)
  have KY0 := blk_new (w.alloc BR) BS
  have hsz : (w.alloc BR).heap.size = w.heap.size + 1 := by simp
  rw [hsz] at KY0
  have KY := Aside0.mk KY0
  have HB := Aside0.mk (hba.trans (hbb.mono hba.size))
  subst hBR hBS
  clear hba hbb KY0 hsz
  go_enter Try.func4, Try.ntmps4
  try dsimp only
  repeat ((fail_if_success (show Code.wp _ (Code.seq (Code.region 1 _ _) _) _ _ _)); (first | go_values | go_skip | go_guarded | go_step | go_upon | go_back))
  generalize ((w.alloc (.cells #[.int .i64 r.k, .int .i64 r.s, .string r.nm, .int .i64 r.ek, .int .i64 r.ru.f0, .int .i64 r.ru.f1, .int .i64 r.ru.f2, .int .i64 r.ru.f3, .int .u32 r.ru.f4.f0, .int .u32 r.ru.f4.f1, .int .i64 r.ru.f5, .int .i64 r.qk, .int .i64 r.qa, .int .i64 r.qb, .int .i64 r.qw, .int .u32 r.qf, .int .u32 r.qt, .string r.qo] 36)).alloc (.cells #[.int .i64 s.k, .int .i64 s.s, .string s.nm, .int .i64 s.ek, .int .i64 s.ru.f0, .int .i64 s.ru.f1, .int .i64 s.ru.f2, .int .i64 s.ru.f3, .int .u32 s.ru.f4.f0, .int .u32 s.ru.f4.f1, .int .i64 s.ru.f5, .int .i64 s.qk, .int .i64 s.qa, .int .i64 s.qb, .int .i64 s.qw, .int .u32 s.qf, .int .u32 s.qt, .string s.qo] 36)) = W0 at *
  obtain ⟨gY, hgY⟩ : ∃ g, w.heap.size + 1 = g := ⟨_, rfl⟩
  rw [hgY] at KY ⊢
  clear hgY
  try dsimp only
  repeat ((fail_if_success (show Oper.wp _ (Oper.mk _ (Op.load 36 _) _ _ _ _) _ _ _ _)); (first | go_values | go_skip | go_guarded | go_step | go_upon | go_back))
  refine wp_load_row KX.out rfl rfl Try.underlying36 rfl (by kernel_rfl) ?_
  try go_simp
  go_wp2_with fail
  refine (CFr.out W0).mono ?_
  rintro e W1 ⟨rfl, hb⟩
  replace KX := Aside0.mk (blk_below KX.out hb)
  replace KY := Aside0.mk (blk_below KY.out hb)
  replace HB := Aside0.mk (HB.out.trans (hb.mono HB.out.size))
  clear hb
  try dsimp only
  repeat ((fail_if_success (show Oper.wp _ (Oper.mk _ (Op.load 36 _) _ _ _ _) _ _ _ _)); (first | go_values | go_skip | go_guarded | go_step | go_upon | go_back))
  refine wp_load_row KY.out rfl rfl Try.underlying36 rfl (by kernel_rfl) ?_
  try go_simp
  go_wp2_with fail
  refine (CFs.out W1).mono ?_
  rintro e W2 ⟨rfl, hb⟩
  replace KX := Aside0.mk (blk_below KX.out hb)
  replace KY := Aside0.mk (blk_below KY.out hb)
  replace HB := Aside0.mk (HB.out.trans (hb.mono HB.out.size))
  clear hb
  try dsimp only
  repeat ((fail_if_success (show Oper.wp _ (Oper.mk _ (Op.load 36 _) _ _ _ _) _ _ _ _)); (first | go_values | go_skip | go_guarded | go_step | go_upon | go_back))
  refine wp_load_row KX.out rfl rfl Try.underlying36 rfl (by kernel_rfl) ?_
  try go_simp
  go_wp2_with fail
  refine (CEr.out W2).mono ?_
  rintro e W3 ⟨⟨vr, rfl, hR⟩, hb⟩
  obtain ⟨Ar, cpr, rfl⟩ := Kd.R_slice hR
  replace KX := Aside0.mk (blk_below KX.out hb)
  replace KY := Aside0.mk (blk_below KY.out hb)
  replace HB := Aside0.mk (HB.out.trans (hb.mono HB.out.size))
  clear hb
  clear hR
  try dsimp only
  repeat ((fail_if_success (show Oper.wp _ (Oper.mk _ (Op.load 36 _) _ _ _ _) _ _ _ _)); (first | go_values | go_skip | go_guarded | go_step | go_upon | go_back))
  refine wp_load_row KY.out rfl rfl Try.underlying36 rfl (by kernel_rfl) ?_
  try go_simp
  go_wp2_with fail
  refine (CEs.out W3).mono ?_
  rintro e W4 ⟨⟨vs, rfl, hR⟩, hb⟩
  obtain ⟨As, cps, rfl⟩ := Kd.R_slice hR
  replace KX := Aside0.mk (blk_below KX.out hb)
  replace KY := Aside0.mk (blk_below KY.out hb)
  replace HB := Aside0.mk (HB.out.trans (hb.mono HB.out.size))
  clear hb
  clear hR
  go_wp2_with fail
  refine (CA.out W4).mono ?_
  rintro e W5 ⟨rfl, hb⟩
  replace HB := Aside0.mk (HB.out.trans (hb.mono HB.out.size))
  clear hb
  go_wp2_with fail
  go_ret
  exact ⟨rfl, HB.out⟩
set_option maxHeartbeats 16000000 in
theorem wireBack_b3 (r s : Rq) (hur : okRq r) (hus : okRq s) (w : World) (f1 : fitsB r zRs = true) (f2 : fitsB s zRs = true) (e1 : (encOut r).2 = 171) :
    Calls Try.prog 4 #[.agg #[.int .i64 r.k, .int .i64 r.s, .string r.nm, .int .i64 r.ek, .int .i64 r.ru.f0, .int .i64 r.ru.f1, .int .i64 r.ru.f2, .int .i64 r.ru.f3, .int .u32 r.ru.f4.f0, .int .u32 r.ru.f4.f1, .int .i64 r.ru.f5, .int .i64 r.qk, .int .i64 r.qa, .int .i64 r.qb, .int .i64 r.qw, .int .u32 r.qf, .int .u32 r.qt, .string r.qo], .agg #[.int .i64 s.k, .int .i64 s.s, .string s.nm, .int .i64 s.ek, .int .i64 s.ru.f0, .int .i64 s.ru.f1, .int .i64 s.ru.f2, .int .i64 s.ru.f3, .int .u32 s.ru.f4.f0, .int .u32 s.ru.f4.f1, .int .i64 s.ru.f5, .int .i64 s.qk, .int .i64 s.qa, .int .i64 s.qb, .int .i64 s.qw, .int .u32 s.qf, .int .u32 s.qt, .string s.qo]] w fun e w' => e = .returned (.bool true) ∧ Below w.heap.size w w' := by
  have CFr := Aside0.mk (fun W : World => fits_any r zRs none 0 none 0 none 0 W (nilI W) (Nat.le_refl _) (nilR W) (Nat.le_refl _) (nilI W) (Nat.le_refl _))
  have CEr := Aside0.mk (fun W : World => enc_any r hur W)
  have CFs := Aside0.mk (fun W : World => fits_any s zRs none 0 none 0 none 0 W (nilI W) (Nat.le_refl _) (nilR W) (Nat.le_refl _) (nilI W) (Nat.le_refl _))
  have CEs := Aside0.mk (fun W : World => enc_any s hus W)
  have CA := Aside0.mk alive_any
  rw [f1] at CFr
  rw [f2] at CFs
  rw [e1] at CEr
  generalize encOut r = PR at *
  generalize encOut s = PS at *
  try clear f1
  try clear f2
  try clear e1
  try clear e2
  obtain ⟨BR, hBR⟩ : ∃ x, x = (Obj.cells #[.int .i64 r.k, .int .i64 r.s, .string r.nm, .int .i64 r.ek, .int .i64 r.ru.f0, .int .i64 r.ru.f1, .int .i64 r.ru.f2, .int .i64 r.ru.f3, .int .u32 r.ru.f4.f0, .int .u32 r.ru.f4.f1, .int .i64 r.ru.f5, .int .i64 r.qk, .int .i64 r.qa, .int .i64 r.qb, .int .i64 r.qw, .int .u32 r.qf, .int .u32 r.qt, .string r.qo] 36) := ⟨_, rfl⟩
  obtain ⟨BS, hBS⟩ : ∃ x, x = (Obj.cells #[.int .i64 s.k, .int .i64 s.s, .string s.nm, .int .i64 s.ek, .int .i64 s.ru.f0, .int .i64 s.ru.f1, .int .i64 s.ru.f2, .int .i64 s.ru.f3, .int .u32 s.ru.f4.f0, .int .u32 s.ru.f4.f1, .int .i64 s.ru.f5, .int .i64 s.qk, .int .i64 s.qa, .int .i64 s.qb, .int .i64 s.qw, .int .u32 s.qf, .int .u32 s.qt, .string s.qo] 36) := ⟨_, rfl⟩
  have hba := (Below.refl w.heap.size w).alloc (Nat.le_refl _) BR
  have hbb := (Below.refl (w.alloc BR).heap.size (w.alloc BR)).alloc (Nat.le_refl _) BS
  have KX := Aside0.mk (blk_below (blk_new w BR) hbb)
  have KY0 := blk_new (w.alloc BR) BS
  have hsz : (w.alloc BR).heap.size = w.heap.size + 1 := by simp
  rw [hsz] at KY0
  have KY := Aside0.mk KY0
  have HB := Aside0.mk (hba.trans (hbb.mono hba.size))
  subst hBR hBS
  clear hba hbb KY0 hsz
  go_enter Try.func4, Try.ntmps4
  try dsimp only
  repeat ((fail_if_success (show Code.wp _ (Code.seq (Code.region 1 _ _) _) _ _ _)); (first | go_values | go_skip | go_guarded | go_step | go_upon | go_back))
  generalize ((w.alloc (.cells #[.int .i64 r.k, .int .i64 r.s, .string r.nm, .int .i64 r.ek, .int .i64 r.ru.f0, .int .i64 r.ru.f1, .int .i64 r.ru.f2, .int .i64 r.ru.f3, .int .u32 r.ru.f4.f0, .int .u32 r.ru.f4.f1, .int .i64 r.ru.f5, .int .i64 r.qk, .int .i64 r.qa, .int .i64 r.qb, .int .i64 r.qw, .int .u32 r.qf, .int .u32 r.qt, .string r.qo] 36)).alloc (.cells #[.int .i64 s.k, .int .i64 s.s, .string s.nm, .int .i64 s.ek, .int .i64 s.ru.f0, .int .i64 s.ru.f1, .int .i64 s.ru.f2, .int .i64 s.ru.f3, .int .u32 s.ru.f4.f0, .int .u32 s.ru.f4.f1, .int .i64 s.ru.f5, .int .i64 s.qk, .int .i64 s.qa, .int .i64 s.qb, .int .i64 s.qw, .int .u32 s.qf, .int .u32 s.qt, .string s.qo] 36)) = W0 at *
  obtain ⟨gY, hgY⟩ : ∃ g, w.heap.size + 1 = g := ⟨_, rfl⟩
  rw [hgY] at KY ⊢
  clear hgY
  try dsimp only
  repeat ((fail_if_success (show Oper.wp _ (Oper.mk _ (Op.load 36 _) _ _ _ _) _ _ _ _)); (first | go_values | go_skip | go_guarded | go_step | go_upon | go_back))
  refine wp_load_row KX.out rfl rfl Try.underlying36 rfl (by kernel_rfl) ?_
  try go_simp
  go_wp2_with fail
  refine (CFr.out W0).mono ?_
  rintro e W1 ⟨rfl, hb⟩
  replace KX := Aside0.mk (blk_below KX.out hb)
  replace KY := Aside0.mk (blk_below KY.out hb)
  replace HB := Aside0.mk (HB.out.trans (hb.mono HB.out.size))
  clear hb
  try dsimp only
  repeat ((fail_if_success (show Oper.wp _ (Oper.mk _ (Op.load 36 _) _ _ _ _) _ _ _ _)); (first | go_values | go_skip | go_guarded | go_step | go_upon | go_back))
  refine wp_load_row KY.out rfl rfl Try.underlying36 rfl (by kernel_rfl) ?_
  try go_simp
  go_wp2_with fail
  refine (CFs.out W1).mono ?_
  rintro e W2 ⟨rfl, hb⟩
  replace KX := Aside0.mk (blk_below KX.out hb)
  replace KY := Aside0.mk (blk_below KY.out hb)
  replace HB := Aside0.mk (HB.out.trans (hb.mono HB.out.size))
  clear hb
  try dsimp only
  repeat ((fail_if_success (show Oper.wp _ (Oper.mk _ (Op.load 36 _) _ _ _ _) _ _ _ _)); (first | go_values | go_skip | go_guarded | go_step | go_upon | go_back))
  refine wp_load_row KX.out rfl rfl Try.underlying36 rfl (by kernel_rfl) ?_
  try go_simp
  go_wp2_with fail
  refine (CEr.out W2).mono ?_
  rintro e W3 ⟨⟨vr, rfl, hR⟩, hb⟩
  obtain ⟨Ar, cpr, rfl⟩ := Kd.R_slice hR
  replace KX := Aside0.mk (blk_below KX.out hb)
  replace KY := Aside0.mk (blk_below KY.out hb)
  replace HB := Aside0.mk (HB.out.trans (hb.mono HB.out.size))
  clear hb
  clear hR
  try dsimp only
  repeat ((fail_if_success (show Oper.wp _ (Oper.mk _ (Op.load 36 _) _ _ _ _) _ _ _ _)); (first | go_values | go_skip | go_guarded | go_step | go_upon | go_back))
  refine wp_load_row KY.out rfl rfl Try.underlying36 rfl (by kernel_rfl) ?_
  try go_simp
  go_wp2_with fail
  refine (CEs.out W3).mono ?_
  rintro e W4 ⟨⟨vs, rfl, hR⟩, hb⟩
  obtain ⟨As, cps, rfl⟩ := Kd.R_slice hR
  replace KX := Aside0.mk (blk_below KX.out hb)
  replace KY := Aside0.mk (blk_below KY.out hb)
  replace HB := Aside0.mk (HB.out.trans (hb.mono HB.out.size))
  clear hb
  clear hR
  go_wp2_with fail
  refine (CA.out W4).mono ?_
  rintro e W5 ⟨rfl, hb⟩
  replace HB := Aside0.mk (HB.out.trans (hb.mono HB.out.size))
  clear hb
  go_wp2_with fail
  go_ret
  exact ⟨rfl, HB.out⟩
set_option maxHeartbeats 16000000 in
theorem wireBack_b4 (r s : Rq) (hur : okRq r) (hus : okRq s) (w : World) (f1 : fitsB r zRs = true) (f2 : fitsB s zRs = true) (e1 : (encOut r).2 = 0) (e2 : (encOut s).2 = 171) :
    Calls Try.prog 4 #[.agg #[.int .i64 r.k, .int .i64 r.s, .string r.nm, .int .i64 r.ek, .int .i64 r.ru.f0, .int .i64 r.ru.f1, .int .i64 r.ru.f2, .int .i64 r.ru.f3, .int .u32 r.ru.f4.f0, .int .u32 r.ru.f4.f1, .int .i64 r.ru.f5, .int .i64 r.qk, .int .i64 r.qa, .int .i64 r.qb, .int .i64 r.qw, .int .u32 r.qf, .int .u32 r.qt, .string r.qo], .agg #[.int .i64 s.k, .int .i64 s.s, .string s.nm, .int .i64 s.ek, .int .i64 s.ru.f0, .int .i64 s.ru.f1, .int .i64 s.ru.f2, .int .i64 s.ru.f3, .int .u32 s.ru.f4.f0, .int .u32 s.ru.f4.f1, .int .i64 s.ru.f5, .int .i64 s.qk, .int .i64 s.qa, .int .i64 s.qb, .int .i64 s.qw, .int .u32 s.qf, .int .u32 s.qt, .string s.qo]] w fun e w' => e = .returned (.bool true) ∧ Below w.heap.size w w' := by
  have CFr := Aside0.mk (fun W : World => fits_any r zRs none 0 none 0 none 0 W (nilI W) (Nat.le_refl _) (nilR W) (Nat.le_refl _) (nilI W) (Nat.le_refl _))
  have CEr := Aside0.mk (fun W : World => enc_any r hur W)
  have CFs := Aside0.mk (fun W : World => fits_any s zRs none 0 none 0 none 0 W (nilI W) (Nat.le_refl _) (nilR W) (Nat.le_refl _) (nilI W) (Nat.le_refl _))
  have CEs := Aside0.mk (fun W : World => enc_any s hus W)
  have CA := Aside0.mk alive_any
  rw [f1] at CFr
  rw [f2] at CFs
  rw [e1] at CEr
  rw [e2] at CEs
  generalize encOut r = PR at *
  generalize encOut s = PS at *
  try clear f1
  try clear f2
  try clear e1
  try clear e2
  obtain ⟨BR, hBR⟩ : ∃ x, x = (Obj.cells #[.int .i64 r.k, .int .i64 r.s, .string r.nm, .int .i64 r.ek, .int .i64 r.ru.f0, .int .i64 r.ru.f1, .int .i64 r.ru.f2, .int .i64 r.ru.f3, .int .u32 r.ru.f4.f0, .int .u32 r.ru.f4.f1, .int .i64 r.ru.f5, .int .i64 r.qk, .int .i64 r.qa, .int .i64 r.qb, .int .i64 r.qw, .int .u32 r.qf, .int .u32 r.qt, .string r.qo] 36) := ⟨_, rfl⟩
  obtain ⟨BS, hBS⟩ : ∃ x, x = (Obj.cells #[.int .i64 s.k, .int .i64 s.s, .string s.nm, .int .i64 s.ek, .int .i64 s.ru.f0, .int .i64 s.ru.f1, .int .i64 s.ru.f2, .int .i64 s.ru.f3, .int .u32 s.ru.f4.f0, .int .u32 s.ru.f4.f1, .int .i64 s.ru.f5, .int .i64 s.qk, .int .i64 s.qa, .int .i64 s.qb, .int .i64 s.qw, .int .u32 s.qf, .int .u32 s.qt, .string s.qo] 36) := ⟨_, rfl⟩
  have hba := (Below.refl w.heap.size w).alloc (Nat.le_refl _) BR
  have hbb := (Below.refl (w.alloc BR).heap.size (w.alloc BR)).alloc (Nat.le_refl _) BS
  have KX := Aside0.mk (blk_below (blk_new w BR) hbb)
  have KY0 := blk_new (w.alloc BR) BS
  have hsz : (w.alloc BR).heap.size = w.heap.size + 1 := by simp
  rw [hsz] at KY0
  have KY := Aside0.mk KY0
  have HB := Aside0.mk (hba.trans (hbb.mono hba.size))
  subst hBR hBS
  clear hba hbb KY0 hsz
  go_enter Try.func4, Try.ntmps4
  try dsimp only
  repeat ((fail_if_success (show Code.wp _ (Code.seq (Code.region 1 _ _) _) _ _ _)); (first | go_values | go_skip | go_guarded | go_step | go_upon | go_back))
  generalize ((w.alloc (.cells #[.int .i64 r.k, .int .i64 r.s, .string r.nm, .int .i64 r.ek, .int .i64 r.ru.f0, .int .i64 r.ru.f1, .int .i64 r.ru.f2, .int .i64 r.ru.f3, .int .u32 r.ru.f4.f0, .int .u32 r.ru.f4.f1, .int .i64 r.ru.f5, .int .i64 r.qk, .int .i64 r.qa, .int .i64 r.qb, .int .i64 r.qw, .int .u32 r.qf, .int .u32 r.qt, .string r.qo] 36)).alloc (.cells #[.int .i64 s.k, .int .i64 s.s, .string s.nm, .int .i64 s.ek, .int .i64 s.ru.f0, .int .i64 s.ru.f1, .int .i64 s.ru.f2, .int .i64 s.ru.f3, .int .u32 s.ru.f4.f0, .int .u32 s.ru.f4.f1, .int .i64 s.ru.f5, .int .i64 s.qk, .int .i64 s.qa, .int .i64 s.qb, .int .i64 s.qw, .int .u32 s.qf, .int .u32 s.qt, .string s.qo] 36)) = W0 at *
  obtain ⟨gY, hgY⟩ : ∃ g, w.heap.size + 1 = g := ⟨_, rfl⟩
  rw [hgY] at KY ⊢
  clear hgY
  try dsimp only
  repeat ((fail_if_success (show Oper.wp _ (Oper.mk _ (Op.load 36 _) _ _ _ _) _ _ _ _)); (first | go_values | go_skip | go_guarded | go_step | go_upon | go_back))
  refine wp_load_row KX.out rfl rfl Try.underlying36 rfl (by kernel_rfl) ?_
  try go_simp
  go_wp2_with fail
  refine (CFr.out W0).mono ?_
  rintro e W1 ⟨rfl, hb⟩
  replace KX := Aside0.mk (blk_below KX.out hb)
  replace KY := Aside0.mk (blk_below KY.out hb)
  replace HB := Aside0.mk (HB.out.trans (hb.mono HB.out.size))
  clear hb
  try dsimp only
  repeat ((fail_if_success (show Oper.wp _ (Oper.mk _ (Op.load 36 _) _ _ _ _) _ _ _ _)); (first | go_values | go_skip | go_guarded | go_step | go_upon | go_back))
  refine wp_load_row KY.out rfl rfl Try.underlying36 rfl (by kernel_rfl) ?_
  try go_simp
  go_wp2_with fail
  refine (CFs.out W1).mono ?_
  rintro e W2 ⟨rfl, hb⟩
  replace KX := Aside0.mk (blk_below KX.out hb)
  replace KY := Aside0.mk (blk_below KY.out hb)
  replace HB := Aside0.mk (HB.out.trans (hb.mono HB.out.size))
  clear hb
  try dsimp only
  repeat ((fail_if_success (show Oper.wp _ (Oper.mk _ (Op.load 36 _) _ _ _ _) _ _ _ _)); (first | go_values | go_skip | go_guarded | go_step | go_upon | go_back))
  refine wp_load_row KX.out rfl rfl Try.underlying36 rfl (by kernel_rfl) ?_
  try go_simp
  go_wp2_with fail
  refine (CEr.out W2).mono ?_
  rintro e W3 ⟨⟨vr, rfl, hR⟩, hb⟩
  obtain ⟨Ar, cpr, rfl⟩ := Kd.R_slice hR
  replace KX := Aside0.mk (blk_below KX.out hb)
  replace KY := Aside0.mk (blk_below KY.out hb)
  replace HB := Aside0.mk (HB.out.trans (hb.mono HB.out.size))
  clear hb
  clear hR
  try dsimp only
  repeat ((fail_if_success (show Oper.wp _ (Oper.mk _ (Op.load 36 _) _ _ _ _) _ _ _ _)); (first | go_values | go_skip | go_guarded | go_step | go_upon | go_back))
  refine wp_load_row KY.out rfl rfl Try.underlying36 rfl (by kernel_rfl) ?_
  try go_simp
  go_wp2_with fail
  refine (CEs.out W3).mono ?_
  rintro e W4 ⟨⟨vs, rfl, hR⟩, hb⟩
  obtain ⟨As, cps, rfl⟩ := Kd.R_slice hR
  replace KX := Aside0.mk (blk_below KX.out hb)
  replace KY := Aside0.mk (blk_below KY.out hb)
  replace HB := Aside0.mk (HB.out.trans (hb.mono HB.out.size))
  clear hb
  clear hR
  go_wp2_with fail
  refine (CA.out W4).mono ?_
  rintro e W5 ⟨rfl, hb⟩
  replace HB := Aside0.mk (HB.out.trans (hb.mono HB.out.size))
  clear hb
  go_wp2_with fail
  go_ret
  exact ⟨rfl, HB.out⟩
set_option maxHeartbeats 16000000 in
theorem wireBack_good (r s : Rq) (hur : okRq r) (hus : okRq s) (w : World) (L LB M Z : List Int) (f1 : fitsB r zRs = true) (f2 : fitsB s zRs = true) (e1 : encOut r = (L, 0)) (e2 : encOut s = (LB, 0)) (hD : decOut L = (r, 0)) (m1 : Rq) (hM : decOut M = (m1, 171)) (z1 : Rq) (hZ : decOut Z = (z1, 171)) (hLM : L.take M.length = M) (hml : L.length = M.length + 1) (hZL : Z = L ++ [0]) (bL : bytes L) (bM : bytes M) (bZ : bytes Z) (h2L : 2 ≤ L.length) (hle : L.length ≤ 100000) (hq : ((strOfNums L).toList == (strOfNums LB).toList) = eqRqB r s) (hrr : eqRqB r r = true) :
    Calls Try.prog 4 #[.agg #[.int .i64 r.k, .int .i64 r.s, .string r.nm, .int .i64 r.ek, .int .i64 r.ru.f0, .int .i64 r.ru.f1, .int .i64 r.ru.f2, .int .i64 r.ru.f3, .int .u32 r.ru.f4.f0, .int .u32 r.ru.f4.f1, .int .i64 r.ru.f5, .int .i64 r.qk, .int .i64 r.qa, .int .i64 r.qb, .int .i64 r.qw, .int .u32 r.qf, .int .u32 r.qt, .string r.qo], .agg #[.int .i64 s.k, .int .i64 s.s, .string s.nm, .int .i64 s.ek, .int .i64 s.ru.f0, .int .i64 s.ru.f1, .int .i64 s.ru.f2, .int .i64 s.ru.f3, .int .u32 s.ru.f4.f0, .int .u32 s.ru.f4.f1, .int .i64 s.ru.f5, .int .i64 s.qk, .int .i64 s.qa, .int .i64 s.qb, .int .i64 s.qw, .int .u32 s.qf, .int .u32 s.qt, .string s.qo]] w fun e w' => e = .returned (.bool true) ∧ Below w.heap.size w w' := by
  have CFr := Aside0.mk (fun W : World => fits_any r zRs none 0 none 0 none 0 W (nilI W) (Nat.le_refl _) (nilR W) (Nat.le_refl _) (nilI W) (Nat.le_refl _))
  have CEr := Aside0.mk (fun W : World => enc_any r hur W)
  have CFs := Aside0.mk (fun W : World => fits_any s zRs none 0 none 0 none 0 W (nilI W) (Nat.le_refl _) (nilR W) (Nat.le_refl _) (nilI W) (Nat.le_refl _))
  have CEs := Aside0.mk (fun W : World => enc_any s hus W)
  have CA := Aside0.mk alive_any
  rw [f1] at CFr
  rw [f2] at CFs
  rw [e1] at CEr
  rw [e2] at CEs
  simp only [] at CEr CEs
  have hzl : Z.length = L.length + 1 := by rw [hZL]; simp
  have CD := Aside0.mk (fun (W : World) A c (hA : Kd.C (Kd.int .u8) W A L.length L) (hc : L.length ≤ c) => dec_any A c L W hA hc (by omega) bL)
  have CM := Aside0.mk (fun (W : World) A c (hA : Kd.C (Kd.int .u8) W A M.length M) (hc : M.length ≤ c) => dec_any A c M W hA hc (by omega) bM)
  have CZ := Aside0.mk (fun (W : World) A c (hA : Kd.C (Kd.int .u8) W A Z.length Z) (hc : Z.length ≤ c) => dec_any A c Z W hA hc (by omega) bZ)
  rw [hD] at CD
  rw [hM] at CM
  rw [hZ] at CZ
  try unfold rqVals at CD CM CZ
  try unfold rsVals at CD CM CZ
  simp only [] at CD CM CZ
  have CSL := Aside0.mk (fun W A c h => conv_S L W A c h)
  have CSK := Aside0.mk (fun W A c h => conv_S LB W A c h)
  generalize strOfNums L = sL at *
  generalize strOfNums LB = sK at *
  have HML := Aside0.mk hml
  have HLM := Aside0.mk hLM
  have HZL := Aside0.mk hZL
  have HZN := Aside0.mk hzl
  have HLE := Aside0.mk hle
  have h2 : ¬ ((L.length : Int) < 2) := by omega
  have hm1 : (L.length : Int) - 1 = (M.length : Int) := by omega
  have hwm : wrap64 (M.length : Int) = (M.length : Int) := by unfold wrap64; omega
  have hwl : wrap64 (L.length : Int) = (L.length : Int) := by unfold wrap64; omega
  obtain ⟨i0, hi, hz0, hz1, hz2⟩ := info_parts info5
  clear f1 f2 e1 e2 hD hM hZ hLM hZL bL bM bZ h2L hle hml hzl
  obtain ⟨BR, hBR⟩ : ∃ x, x = (Obj.cells #[.int .i64 r.k, .int .i64 r.s, .string r.nm, .int .i64 r.ek, .int .i64 r.ru.f0, .int .i64 r.ru.f1, .int .i64 r.ru.f2, .int .i64 r.ru.f3, .int .u32 r.ru.f4.f0, .int .u32 r.ru.f4.f1, .int .i64 r.ru.f5, .int .i64 r.qk, .int .i64 r.qa, .int .i64 r.qb, .int .i64 r.qw, .int .u32 r.qf, .int .u32 r.qt, .string r.qo] 36) := ⟨_, rfl⟩
  obtain ⟨BS, hBS⟩ : ∃ x, x = (Obj.cells #[.int .i64 s.k, .int .i64 s.s, .string s.nm, .int .i64 s.ek, .int .i64 s.ru.f0, .int .i64 s.ru.f1, .int .i64 s.ru.f2, .int .i64 s.ru.f3, .int .u32 s.ru.f4.f0, .int .u32 s.ru.f4.f1, .int .i64 s.ru.f5, .int .i64 s.qk, .int .i64 s.qa, .int .i64 s.qb, .int .i64 s.qw, .int .u32 s.qf, .int .u32 s.qt, .string s.qo] 36) := ⟨_, rfl⟩
  have hba := (Below.refl w.heap.size w).alloc (Nat.le_refl _) BR
  have hbb := (Below.refl (w.alloc BR).heap.size (w.alloc BR)).alloc (Nat.le_refl _) BS
  have KX := Aside0.mk (blk_below (blk_new w BR) hbb)
  have KY0 := blk_new (w.alloc BR) BS
  have hsz : (w.alloc BR).heap.size = w.heap.size + 1 := by simp
  rw [hsz] at KY0
  have KY := Aside0.mk KY0
  have HB := Aside0.mk (hba.trans (hbb.mono hba.size))
  subst hBR hBS
  clear hba hbb KY0 hsz
  go_enter Try.func4, Try.ntmps4
  try dsimp only
  repeat ((fail_if_success (show Code.wp _ (Code.seq (Code.region 1 _ _) _) _ _ _)); (first | go_values | go_skip | go_guarded | go_step | go_upon | go_back))
  generalize ((w.alloc (.cells #[.int .i64 r.k, .int .i64 r.s, .string r.nm, .int .i64 r.ek, .int .i64 r.ru.f0, .int .i64 r.ru.f1, .int .i64 r.ru.f2, .int .i64 r.ru.f3, .int .u32 r.ru.f4.f0, .int .u32 r.ru.f4.f1, .int .i64 r.ru.f5, .int .i64 r.qk, .int .i64 r.qa, .int .i64 r.qb, .int .i64 r.qw, .int .u32 r.qf, .int .u32 r.qt, .string r.qo] 36)).alloc (.cells #[.int .i64 s.k, .int .i64 s.s, .string s.nm, .int .i64 s.ek, .int .i64 s.ru.f0, .int .i64 s.ru.f1, .int .i64 s.ru.f2, .int .i64 s.ru.f3, .int .u32 s.ru.f4.f0, .int .u32 s.ru.f4.f1, .int .i64 s.ru.f5, .int .i64 s.qk, .int .i64 s.qa, .int .i64 s.qb, .int .i64 s.qw, .int .u32 s.qf, .int .u32 s.qt, .string s.qo] 36)) = W0 at *
  obtain ⟨gY, hgY⟩ : ∃ g, w.heap.size + 1 = g := ⟨_, rfl⟩
  rw [hgY] at KY ⊢
  clear hgY
  try dsimp only
  repeat ((fail_if_success (show Oper.wp _ (Oper.mk _ (Op.load 36 _) _ _ _ _) _ _ _ _)); (first | go_values | go_skip | go_guarded | go_step | go_upon | go_back))
  refine wp_load_row KX.out rfl rfl Try.underlying36 rfl (by kernel_rfl) ?_
  try go_simp
  go_wp2_with fail
  refine (CFr.out W0).mono ?_
  rintro e W1 ⟨rfl, hb⟩
  replace KX := Aside0.mk (blk_below KX.out hb)
  replace KY := Aside0.mk (blk_below KY.out hb)
  replace HB := Aside0.mk (HB.out.trans (hb.mono HB.out.size))
  clear hb
  try dsimp only
  repeat ((fail_if_success (show Oper.wp _ (Oper.mk _ (Op.load 36 _) _ _ _ _) _ _ _ _)); (first | go_values | go_skip | go_guarded | go_step | go_upon | go_back))
  refine wp_load_row KY.out rfl rfl Try.underlying36 rfl (by kernel_rfl) ?_
  try go_simp
  go_wp2_with fail
  refine (CFs.out W1).mono ?_
  rintro e W2 ⟨rfl, hb⟩
  replace KX := Aside0.mk (blk_below KX.out hb)
  replace KY := Aside0.mk (blk_below KY.out hb)
  replace HB := Aside0.mk (HB.out.trans (hb.mono HB.out.size))
  clear hb
  try dsimp only
  repeat ((fail_if_success (show Oper.wp _ (Oper.mk _ (Op.load 36 _) _ _ _ _) _ _ _ _)); (first | go_values | go_skip | go_guarded | go_step | go_upon | go_back))
  refine wp_load_row KX.out rfl rfl Try.underlying36 rfl (by kernel_rfl) ?_
  try go_simp
  go_wp2_with fail
  refine (CEr.out W2).mono ?_
  rintro e W3 ⟨⟨vr, rfl, hR⟩, hb⟩
  obtain ⟨Ar, cpr, rfl⟩ := Kd.R_slice hR
  replace KX := Aside0.mk (blk_below KX.out hb)
  replace KY := Aside0.mk (blk_below KY.out hb)
  replace HB := Aside0.mk (HB.out.trans (hb.mono HB.out.size))
  clear hb
  have HX := Aside0.mk (Kd.R_reads' hR).2.2
  have HXc := Aside0.mk (Kd.R_reads' hR).2.1
  clear hR
  try dsimp only
  repeat ((fail_if_success (show Oper.wp _ (Oper.mk _ (Op.load 36 _) _ _ _ _) _ _ _ _)); (first | go_values | go_skip | go_guarded | go_step | go_upon | go_back))
  refine wp_load_row KY.out rfl rfl Try.underlying36 rfl (by kernel_rfl) ?_
  try go_simp
  go_wp2_with fail
  refine (CEs.out W3).mono ?_
  rintro e W4 ⟨⟨vs, rfl, hR⟩, hb⟩
  obtain ⟨As, cps, rfl⟩ := Kd.R_slice hR
  replace KX := Aside0.mk (blk_below KX.out hb)
  replace KY := Aside0.mk (blk_below KY.out hb)
  replace HB := Aside0.mk (HB.out.trans (hb.mono HB.out.size))
  replace HX := Aside0.mk (Kd.C_below HX.out hb)
  clear hb
  have HY := Aside0.mk (Kd.R_reads' hR).2.2
  clear hR
  go_wp2_with fail
  refine (CD.out W4 Ar cpr HX.out HXc.out).mono ?_
  rintro e W5 ⟨rfl, hb⟩
  replace KX := Aside0.mk (blk_below KX.out hb)
  replace KY := Aside0.mk (blk_below KY.out hb)
  replace HB := Aside0.mk (HB.out.trans (hb.mono HB.out.size))
  replace HX := Aside0.mk (Kd.C_below HX.out hb)
  replace HY := Aside0.mk (Kd.C_below HY.out hb)
  clear hb
  have hlo := HB.out.size
  have hbn := (Below.refl W5.heap.size W5).alloc (Nat.le_refl _) (.cells #[.int .i64 0, .int .i64 0, .string ⟨#[]⟩, .int .i64 0, .int .i64 0, .int .i64 0, .int .i64 0, .int .i64 0, .int .u32 0, .int .u32 0, .int .i64 0, .int .i64 0, .int .i64 0, .int .i64 0, .int .i64 0, .int .u32 0, .int .u32 0, .string ⟨#[]⟩] 36)
  have KP := Aside0.mk (blk_new W5 (.cells #[.int .i64 0, .int .i64 0, .string ⟨#[]⟩, .int .i64 0, .int .i64 0, .int .i64 0, .int .i64 0, .int .i64 0, .int .u32 0, .int .u32 0, .int .i64 0, .int .i64 0, .int .i64 0, .int .i64 0, .int .i64 0, .int .u32 0, .int .u32 0, .string ⟨#[]⟩] 36))
  have hbr := below_row (B := W5.heap.size) hbn (Nat.le_refl _) (C := #[.int .i64 r.k, .int .i64 r.s, .string r.nm, .int .i64 r.ek, .int .i64 r.ru.f0, .int .i64 r.ru.f1, .int .i64 r.ru.f2, .int .i64 r.ru.f3, .int .u32 r.ru.f4.f0, .int .u32 r.ru.f4.f1, .int .i64 r.ru.f5, .int .i64 r.qk, .int .i64 r.qa, .int .i64 r.qb, .int .i64 r.qw, .int .u32 r.qf, .int .u32 r.qt, .string r.qo])
  replace KX := Aside0.mk (blk_below KX.out hbr)
  replace KY := Aside0.mk (blk_below KY.out hbr)
  replace HB := Aside0.mk (HB.out.trans (hbr.mono HB.out.size))
  replace HX := Aside0.mk (Kd.C_below HX.out hbr)
  replace HY := Aside0.mk (Kd.C_below HY.out hbr)
  clear hbn hbr hlo
  try dsimp only
  repeat ((fail_if_success (show Oper.wp _ (Oper.mk none (Op.store _ _ _) _ _ _ _) _ _ _ _)); (first | go_values | go_skip | go_guarded | go_step | go_upon | go_back))
  refine wp_store_row (c' := #[.int .i64 r.k, .int .i64 r.s, .string r.nm, .int .i64 r.ek, .int .i64 r.ru.f0, .int .i64 r.ru.f1, .int .i64 r.ru.f2, .int .i64 r.ru.f3, .int .u32 r.ru.f4.f0, .int .u32 r.ru.f4.f1, .int .i64 r.ru.f5, .int .i64 r.qk, .int .i64 r.qa, .int .i64 r.qb, .int .i64 r.qw, .int .u32 r.qf, .int .u32 r.qt, .string r.qo]) KP.out rfl rfl rfl rfl (by kernel_rfl) rfl (by simp [Value.oneCell']) ?_
  replace KP := Aside0.mk (heap_setRow_self (cs := #[.int .i64 r.k, .int .i64 r.s, .string r.nm, .int .i64 r.ek, .int .i64 r.ru.f0, .int .i64 r.ru.f1, .int .i64 r.ru.f2, .int .i64 r.ru.f3, .int .u32 r.ru.f4.f0, .int .u32 r.ru.f4.f1, .int .i64 r.ru.f5, .int .i64 r.qk, .int .i64 r.qa, .int .i64 r.qb, .int .i64 r.qw, .int .u32 r.qf, .int .u32 r.qt, .string r.qo]) KP.out)
  generalize ((W5.alloc (.cells #[.int .i64 0, .int .i64 0, .string ⟨#[]⟩, .int .i64 0, .int .i64 0, .int .i64 0, .int .i64 0, .int .i64 0, .int .u32 0, .int .u32 0, .int .i64 0, .int .i64 0, .int .i64 0, .int .i64 0, .int .i64 0, .int .u32 0, .int .u32 0, .string ⟨#[]⟩] 36)).setRow W5.heap.size #[.int .i64 r.k, .int .i64 r.s, .string r.nm, .int .i64 r.ek, .int .i64 r.ru.f0, .int .i64 r.ru.f1, .int .i64 r.ru.f2, .int .i64 r.ru.f3, .int .u32 r.ru.f4.f0, .int .u32 r.ru.f4.f1, .int .i64 r.ru.f5, .int .i64 r.qk, .int .i64 r.qa, .int .i64 r.qb, .int .i64 r.qw, .int .u32 r.qf, .int .u32 r.qt, .string r.qo]) = W6 at *
  obtain ⟨gKP, hgKP⟩ : ∃ g, W5.heap.size = g := ⟨_, rfl⟩
  rw [hgKP] at KP ⊢
  clear hgKP
  have hmc : (M.length : Int) ≤ (cpr : Int) := by have := HXc.out; have := HML.out; omega
  have hmc2 : M.length ≤ cpr := by have := HXc.out; have := HML.out; omega
  have hmt := Kd.C_take HX.out (m := M.length) (by have := HML.out; omega)
  rw [HLM.out] at hmt
  have HM := Aside0.mk hmt
  clear hmt
  go_wp2_with fail
  refine (CM.out W6 Ar cpr HM.out hmc2).mono ?_
  rintro e W7 ⟨rfl, hb⟩
  replace KX := Aside0.mk (blk_below KX.out hb)
  replace KY := Aside0.mk (blk_below KY.out hb)
  replace HB := Aside0.mk (HB.out.trans (hb.mono HB.out.size))
  replace HX := Aside0.mk (Kd.C_below HX.out hb)
  replace HY := Aside0.mk (Kd.C_below HY.out hb)
  replace KP := Aside0.mk (blk_below KP.out hb)
  replace HM := Aside0.mk (Kd.C_below HM.out hb)
  clear hb
  have hlo := HB.out.size
  have hbn := (Below.refl W7.heap.size W7).alloc (Nat.le_refl _) (.cells #[.int .i64 0, .int .i64 0, .string ⟨#[]⟩, .int .i64 0, .int .i64 0, .int .i64 0, .int .i64 0, .int .i64 0, .int .u32 0, .int .u32 0, .int .i64 0, .int .i64 0, .int .i64 0, .int .i64 0, .int .i64 0, .int .u32 0, .int .u32 0, .string ⟨#[]⟩] 36)
  have KM := Aside0.mk (blk_new W7 (.cells #[.int .i64 0, .int .i64 0, .string ⟨#[]⟩, .int .i64 0, .int .i64 0, .int .i64 0, .int .i64 0, .int .i64 0, .int .u32 0, .int .u32 0, .int .i64 0, .int .i64 0, .int .i64 0, .int .i64 0, .int .i64 0, .int .u32 0, .int .u32 0, .string ⟨#[]⟩] 36))
  have hbr := below_row (B := W7.heap.size) hbn (Nat.le_refl _) (C := #[.int .i64 m1.k, .int .i64 m1.s, .string m1.nm, .int .i64 m1.ek, .int .i64 m1.ru.f0, .int .i64 m1.ru.f1, .int .i64 m1.ru.f2, .int .i64 m1.ru.f3, .int .u32 m1.ru.f4.f0, .int .u32 m1.ru.f4.f1, .int .i64 m1.ru.f5, .int .i64 m1.qk, .int .i64 m1.qa, .int .i64 m1.qb, .int .i64 m1.qw, .int .u32 m1.qf, .int .u32 m1.qt, .string m1.qo])
  replace KX := Aside0.mk (blk_below KX.out hbr)
  replace KY := Aside0.mk (blk_below KY.out hbr)
  replace HB := Aside0.mk (HB.out.trans (hbr.mono HB.out.size))
  replace HX := Aside0.mk (Kd.C_below HX.out hbr)
  replace HY := Aside0.mk (Kd.C_below HY.out hbr)
  replace KP := Aside0.mk (blk_below KP.out hbr)
  replace HM := Aside0.mk (Kd.C_below HM.out hbr)
  clear hbn hbr hlo
  try dsimp only
  repeat ((fail_if_success (show Oper.wp _ (Oper.mk none (Op.store _ _ _) _ _ _ _) _ _ _ _)); (first | go_values | go_skip | go_guarded | go_step | go_upon | go_back))
  refine wp_store_row (c' := #[.int .i64 m1.k, .int .i64 m1.s, .string m1.nm, .int .i64 m1.ek, .int .i64 m1.ru.f0, .int .i64 m1.ru.f1, .int .i64 m1.ru.f2, .int .i64 m1.ru.f3, .int .u32 m1.ru.f4.f0, .int .u32 m1.ru.f4.f1, .int .i64 m1.ru.f5, .int .i64 m1.qk, .int .i64 m1.qa, .int .i64 m1.qb, .int .i64 m1.qw, .int .u32 m1.qf, .int .u32 m1.qt, .string m1.qo]) KM.out rfl rfl rfl rfl (by kernel_rfl) rfl (by simp [Value.oneCell']) ?_
  replace KM := Aside0.mk (heap_setRow_self (cs := #[.int .i64 m1.k, .int .i64 m1.s, .string m1.nm, .int .i64 m1.ek, .int .i64 m1.ru.f0, .int .i64 m1.ru.f1, .int .i64 m1.ru.f2, .int .i64 m1.ru.f3, .int .u32 m1.ru.f4.f0, .int .u32 m1.ru.f4.f1, .int .i64 m1.ru.f5, .int .i64 m1.qk, .int .i64 m1.qa, .int .i64 m1.qb, .int .i64 m1.qw, .int .u32 m1.qf, .int .u32 m1.qt, .string m1.qo]) KM.out)
  generalize ((W7.alloc (.cells #[.int .i64 0, .int .i64 0, .string ⟨#[]⟩, .int .i64 0, .int .i64 0, .int .i64 0, .int .i64 0, .int .i64 0, .int .u32 0, .int .u32 0, .int .i64 0, .int .i64 0, .int .i64 0, .int .i64 0, .int .i64 0, .int .u32 0, .int .u32 0, .string ⟨#[]⟩] 36)).setRow W7.heap.size #[.int .i64 m1.k, .int .i64 m1.s, .string m1.nm, .int .i64 m1.ek, .int .i64 m1.ru.f0, .int .i64 m1.ru.f1, .int .i64 m1.ru.f2, .int .i64 m1.ru.f3, .int .u32 m1.ru.f4.f0, .int .u32 m1.ru.f4.f1, .int .i64 m1.ru.f5, .int .i64 m1.qk, .int .i64 m1.qa, .int .i64 m1.qb, .int .i64 m1.qw, .int .u32 m1.qf, .int .u32 m1.qt, .string m1.qo]) = W8 at *
  obtain ⟨gKM, hgKM⟩ : ∃ g, W7.heap.size = g := ⟨_, rfl⟩
  rw [hgKM] at KM ⊢
  clear hgKM
  clear hmc hmc2 HM
  obtain ⟨ad, rfl, _⟩ := HX.out.2.2 (by have := HML.out; omega)
  have hfit : ∀ n : Nat, n ≤ 100001 → n ≤ maxLen := fun n h => by unfold maxLen; omega
  go_wp2_with (first | (at_builtin; refine wpList_append_own _ rfl (.tmp 63) (.tmp 64) 37 rfl W8.heap.size 5 i0 (.int .u8 0) 1 1 Try.underlying37 hi hz0 hz1 hz2 rfl (by decide) (.slice (some ⟨W8.heap.size, 0, none⟩) 0 0) 0 [] rfl ⟨rfl, .inr ⟨W8.heap.size, 0, #[], rfl, Nat.le_refl _, blk_new _ _, Nat.le_refl _, by decide, rfl, rfl⟩⟩ ad L.length cpr (nums .u8 L) rfl (by simp [nums]) (fun j u hu => reads_nums (Kd.C_alloc HX.out _) ad rfl j u hu) (fun u hu => ints_oneCell .u8 L u hu) (hfit _ (by have := HLE.out; omega)) (by have := HLE.out; omega) (by simp) ?_; intro v2 W9 ho3 hg3 _; have hb3 := ((Below.refl W8.heap.size W8).alloc (Nat.le_refl _) (.cells #[] 5)).grown hg3 (by simp) (fun q hq => by simp [Value.ownBlock] at hq; omega); rw [Nat.zero_add, List.nil_append] at ho3; have HO := Aside0.mk ho3; have HG := Aside0.mk hb3; clear hg3 ho3 hb3) | (at_builtin; refine print_append (w0 := W8) W8.heap.size rfl (.tmp 65) (.tmp 66) 37 5 (.int .u8 0) 1 rfl Try.underlying37 info5 rfl (by decide) v2 (nums .u8 L) (.int .u8 0) rfl rfl rfl (by simpa [nums] using HO.out) HG.out HG.out.size (by have := HLE.out; simp [nums]; omega) ?_; intro v3 W10 ho4 hb _ _; have HO4 := Aside0.mk ho4; have HG4 := Aside0.mk hb; clear ho4 hb HO HG))
  have hb := HG4.out
  have hRz : (Kd.int .u8).R 5 W10 W8.heap.size (fun _ => True) v3 Z := Kd.R_of_own (enc := Value.int .u8) (by rw [HZL.out]; simpa [nums, encs] using HO4.out) (fun _ _ => trivial)
  obtain ⟨Az, cz, rfl, hcz, hCz⟩ := Kd.R_reads hRz
  replace KX := Aside0.mk (blk_below KX.out hb)
  replace KY := Aside0.mk (blk_below KY.out hb)
  replace HB := Aside0.mk (HB.out.trans (hb.mono HB.out.size))
  replace HX := Aside0.mk (Kd.C_below HX.out hb)
  replace HY := Aside0.mk (Kd.C_below HY.out hb)
  replace KP := Aside0.mk (blk_below KP.out hb)
  clear hb HO4 HG4 hRz
  have HZ := Aside0.mk hCz
  have HZc := Aside0.mk hcz
  clear hcz hCz
  go_wp2_with fail
  refine (CZ.out W10 Az cz HZ.out HZc.out).mono ?_
  rintro e W11 ⟨rfl, hb⟩
  replace KX := Aside0.mk (blk_below KX.out hb)
  replace KY := Aside0.mk (blk_below KY.out hb)
  replace HB := Aside0.mk (HB.out.trans (hb.mono HB.out.size))
  replace HX := Aside0.mk (Kd.C_below HX.out hb)
  replace HY := Aside0.mk (Kd.C_below HY.out hb)
  replace KP := Aside0.mk (blk_below KP.out hb)
  replace HZ := Aside0.mk (Kd.C_below HZ.out hb)
  clear hb
  have hlo := HB.out.size
  have hbn := (Below.refl W11.heap.size W11).alloc (Nat.le_refl _) (.cells #[.int .i64 0, .int .i64 0, .string ⟨#[]⟩, .int .i64 0, .int .i64 0, .int .i64 0, .int .i64 0, .int .i64 0, .int .u32 0, .int .u32 0, .int .i64 0, .int .i64 0, .int .i64 0, .int .i64 0, .int .i64 0, .int .u32 0, .int .u32 0, .string ⟨#[]⟩] 36)
  have KZ := Aside0.mk (blk_new W11 (.cells #[.int .i64 0, .int .i64 0, .string ⟨#[]⟩, .int .i64 0, .int .i64 0, .int .i64 0, .int .i64 0, .int .i64 0, .int .u32 0, .int .u32 0, .int .i64 0, .int .i64 0, .int .i64 0, .int .i64 0, .int .i64 0, .int .u32 0, .int .u32 0, .string ⟨#[]⟩] 36))
  have hbr := below_row (B := W11.heap.size) hbn (Nat.le_refl _) (C := #[.int .i64 z1.k, .int .i64 z1.s, .string z1.nm, .int .i64 z1.ek, .int .i64 z1.ru.f0, .int .i64 z1.ru.f1, .int .i64 z1.ru.f2, .int .i64 z1.ru.f3, .int .u32 z1.ru.f4.f0, .int .u32 z1.ru.f4.f1, .int .i64 z1.ru.f5, .int .i64 z1.qk, .int .i64 z1.qa, .int .i64 z1.qb, .int .i64 z1.qw, .int .u32 z1.qf, .int .u32 z1.qt, .string z1.qo])
  replace KX := Aside0.mk (blk_below KX.out hbr)
  replace KY := Aside0.mk (blk_below KY.out hbr)
  replace HB := Aside0.mk (HB.out.trans (hbr.mono HB.out.size))
  replace HX := Aside0.mk (Kd.C_below HX.out hbr)
  replace HY := Aside0.mk (Kd.C_below HY.out hbr)
  replace KP := Aside0.mk (blk_below KP.out hbr)
  replace HZ := Aside0.mk (Kd.C_below HZ.out hbr)
  clear hbn hbr hlo
  try dsimp only
  repeat ((fail_if_success (show Oper.wp _ (Oper.mk none (Op.store _ _ _) _ _ _ _) _ _ _ _)); (first | go_values | go_skip | go_guarded | go_step | go_upon | go_back))
  refine wp_store_row (c' := #[.int .i64 z1.k, .int .i64 z1.s, .string z1.nm, .int .i64 z1.ek, .int .i64 z1.ru.f0, .int .i64 z1.ru.f1, .int .i64 z1.ru.f2, .int .i64 z1.ru.f3, .int .u32 z1.ru.f4.f0, .int .u32 z1.ru.f4.f1, .int .i64 z1.ru.f5, .int .i64 z1.qk, .int .i64 z1.qa, .int .i64 z1.qb, .int .i64 z1.qw, .int .u32 z1.qf, .int .u32 z1.qt, .string z1.qo]) KZ.out rfl rfl rfl rfl (by kernel_rfl) rfl (by simp [Value.oneCell']) ?_
  replace KZ := Aside0.mk (heap_setRow_self (cs := #[.int .i64 z1.k, .int .i64 z1.s, .string z1.nm, .int .i64 z1.ek, .int .i64 z1.ru.f0, .int .i64 z1.ru.f1, .int .i64 z1.ru.f2, .int .i64 z1.ru.f3, .int .u32 z1.ru.f4.f0, .int .u32 z1.ru.f4.f1, .int .i64 z1.ru.f5, .int .i64 z1.qk, .int .i64 z1.qa, .int .i64 z1.qb, .int .i64 z1.qw, .int .u32 z1.qf, .int .u32 z1.qt, .string z1.qo]) KZ.out)
  generalize ((W11.alloc (.cells #[.int .i64 0, .int .i64 0, .string ⟨#[]⟩, .int .i64 0, .int .i64 0, .int .i64 0, .int .i64 0, .int .i64 0, .int .u32 0, .int .u32 0, .int .i64 0, .int .i64 0, .int .i64 0, .int .i64 0, .int .i64 0, .int .u32 0, .int .u32 0, .string ⟨#[]⟩] 36)).setRow W11.heap.size #[.int .i64 z1.k, .int .i64 z1.s, .string z1.nm, .int .i64 z1.ek, .int .i64 z1.ru.f0, .int .i64 z1.ru.f1, .int .i64 z1.ru.f2, .int .i64 z1.ru.f3, .int .u32 z1.ru.f4.f0, .int .u32 z1.ru.f4.f1, .int .i64 z1.ru.f5, .int .i64 z1.qk, .int .i64 z1.qa, .int .i64 z1.qb, .int .i64 z1.qw, .int .u32 z1.qf, .int .u32 z1.qt, .string z1.qo]) = W12 at *
  obtain ⟨gKZ, hgKZ⟩ : ∃ g, W11.heap.size = g := ⟨_, rfl⟩
  rw [hgKZ] at KZ ⊢
  clear hgKZ
  clear HZ HZc KM KZ
  have hbd := below_drew (Below.refl W12.heap.size W12)
  replace KX := Aside0.mk (blk_below KX.out hbd)
  replace KY := Aside0.mk (blk_below KY.out hbd)
  replace HB := Aside0.mk (HB.out.trans (hbd.mono HB.out.size))
  replace HX := Aside0.mk (Kd.C_below HX.out hbd)
  replace HY := Aside0.mk (Kd.C_below HY.out hbd)
  replace KP := Aside0.mk (blk_below KP.out hbd)
  clear hbd
  have SW12 : (fun w' => w'.heap[w.heap.size]? = some (.cells #[.int .i64 r.k, .int .i64 r.s, .string r.nm, .int .i64 r.ek, .int .i64 r.ru.f0, .int .i64 r.ru.f1, .int .i64 r.ru.f2, .int .i64 r.ru.f3, .int .u32 r.ru.f4.f0, .int .u32 r.ru.f4.f1, .int .i64 r.ru.f5, .int .i64 r.qk, .int .i64 r.qa, .int .i64 r.qb, .int .i64 r.qw, .int .u32 r.qf, .int .u32 r.qt, .string r.qo] 36 (0, 0)) ∧ w'.heap[gY]? = some (.cells #[.int .i64 s.k, .int .i64 s.s, .string s.nm, .int .i64 s.ek, .int .i64 s.ru.f0, .int .i64 s.ru.f1, .int .i64 s.ru.f2, .int .i64 s.ru.f3, .int .u32 s.ru.f4.f0, .int .u32 s.ru.f4.f1, .int .i64 s.ru.f5, .int .i64 s.qk, .int .i64 s.qa, .int .i64 s.qb, .int .i64 s.qw, .int .u32 s.qf, .int .u32 s.qt, .string s.qo] 36 (0, 0)) ∧ w'.heap[gKP]? = some (.cells #[.int .i64 r.k, .int .i64 r.s, .string r.nm, .int .i64 r.ek, .int .i64 r.ru.f0, .int .i64 r.ru.f1, .int .i64 r.ru.f2, .int .i64 r.ru.f3, .int .u32 r.ru.f4.f0, .int .u32 r.ru.f4.f1, .int .i64 r.ru.f5, .int .i64 r.qk, .int .i64 r.qa, .int .i64 r.qb, .int .i64 r.qw, .int .u32 r.qf, .int .u32 r.qt, .string r.qo] 36 (0, 0)) ∧ (convert 37 9 (.slice (some ad) L.length cpr)).run Try.prog w' = .ok (.string sL) w' ∧ (convert 37 9 (.slice As LB.length cps)).run Try.prog w' = .ok (.string sK) w') W12.drew := ⟨KX.out, KY.out, KP.out, CSL.out W12.drew (some ad) cpr HX.out, CSK.out W12.drew As cps HY.out⟩
  dsimp only at SW12
  go_wp2_with fail
  refine wp_region_held_drew (S := (fun w' => w'.heap[w.heap.size]? = some (.cells #[.int .i64 r.k, .int .i64 r.s, .string r.nm, .int .i64 r.ek, .int .i64 r.ru.f0, .int .i64 r.ru.f1, .int .i64 r.ru.f2, .int .i64 r.ru.f3, .int .u32 r.ru.f4.f0, .int .u32 r.ru.f4.f1, .int .i64 r.ru.f5, .int .i64 r.qk, .int .i64 r.qa, .int .i64 r.qb, .int .i64 r.qw, .int .u32 r.qf, .int .u32 r.qt, .string r.qo] 36 (0, 0)) ∧ w'.heap[gY]? = some (.cells #[.int .i64 s.k, .int .i64 s.s, .string s.nm, .int .i64 s.ek, .int .i64 s.ru.f0, .int .i64 s.ru.f1, .int .i64 s.ru.f2, .int .i64 s.ru.f3, .int .u32 s.ru.f4.f0, .int .u32 s.ru.f4.f1, .int .i64 s.ru.f5, .int .i64 s.qk, .int .i64 s.qa, .int .i64 s.qb, .int .i64 s.qw, .int .u32 s.qf, .int .u32 s.qt, .string s.qo] 36 (0, 0)) ∧ w'.heap[gKP]? = some (.cells #[.int .i64 r.k, .int .i64 r.s, .string r.nm, .int .i64 r.ek, .int .i64 r.ru.f0, .int .i64 r.ru.f1, .int .i64 r.ru.f2, .int .i64 r.ru.f3, .int .u32 r.ru.f4.f0, .int .u32 r.ru.f4.f1, .int .i64 r.ru.f5, .int .i64 r.qk, .int .i64 r.qa, .int .i64 r.qb, .int .i64 r.qw, .int .u32 r.qf, .int .u32 r.qt, .string r.qo] 36 (0, 0)) ∧ (convert 37 9 (.slice (some ad) L.length cpr)).run Try.prog w' = .ok (.string sL) w' ∧ (convert 37 9 (.slice As LB.length cps)).run Try.prog w' = .ok (.string sK) w')) (by kernel_rfl) ?hS0 (fun hHeld => ?_)
  case hS0 => first | assumption
  refine wpAnyH_ready (rs := [0]) (by kernel_rfl) (by simp) ?_
  refine AllReadyH.cons rfl (fun K hK => ?_) AllReadyH.nil
  go_simp
  go_at_call 9; (with_reducible refine (CA.out _).mono ?_); rintro e W13 ⟨rfl, hb⟩; replace KX := Aside0.mk (blk_below KX.out hb); replace KY := Aside0.mk (blk_below KY.out hb); replace HB := Aside0.mk (HB.out.trans (hb.mono HB.out.size)); replace HX := Aside0.mk (Kd.C_below HX.out hb); replace HY := Aside0.mk (Kd.C_below HY.out hb); replace KP := Aside0.mk (blk_below KP.out hb); clear hb; have SW13 : (fun w' => w'.heap[w.heap.size]? = some (.cells #[.int .i64 r.k, .int .i64 r.s, .string r.nm, .int .i64 r.ek, .int .i64 r.ru.f0, .int .i64 r.ru.f1, .int .i64 r.ru.f2, .int .i64 r.ru.f3, .int .u32 r.ru.f4.f0, .int .u32 r.ru.f4.f1, .int .i64 r.ru.f5, .int .i64 r.qk, .int .i64 r.qa, .int .i64 r.qb, .int .i64 r.qw, .int .u32 r.qf, .int .u32 r.qt, .string r.qo] 36 (0, 0)) ∧ w'.heap[gY]? = some (.cells #[.int .i64 s.k, .int .i64 s.s, .string s.nm, .int .i64 s.ek, .int .i64 s.ru.f0, .int .i64 s.ru.f1, .int .i64 s.ru.f2, .int .i64 s.ru.f3, .int .u32 s.ru.f4.f0, .int .u32 s.ru.f4.f1, .int .i64 s.ru.f5, .int .i64 s.qk, .int .i64 s.qa, .int .i64 s.qb, .int .i64 s.qw, .int .u32 s.qf, .int .u32 s.qt, .string s.qo] 36 (0, 0)) ∧ w'.heap[gKP]? = some (.cells #[.int .i64 r.k, .int .i64 r.s, .string r.nm, .int .i64 r.ek, .int .i64 r.ru.f0, .int .i64 r.ru.f1, .int .i64 r.ru.f2, .int .i64 r.ru.f3, .int .u32 r.ru.f4.f0, .int .u32 r.ru.f4.f1, .int .i64 r.ru.f5, .int .i64 r.qk, .int .i64 r.qa, .int .i64 r.qb, .int .i64 r.qw, .int .u32 r.qf, .int .u32 r.qt, .string r.qo] 36 (0, 0)) ∧ (convert 37 9 (.slice (some ad) L.length cpr)).run Try.prog w' = .ok (.string sL) w' ∧ (convert 37 9 (.slice As LB.length cps)).run Try.prog w' = .ok (.string sK) w') W13 := ⟨KX.out, KY.out, KP.out, CSL.out W13 (some ad) cpr HX.out, CSK.out W13 As cps HY.out⟩; dsimp only at SW13
  refine hK.out _ _ ?hS1 (fun hHeld => ?_)
  case hS1 => first | assumption
  clear hK K
  try simp only [Act.put, List.setIfInBounds_toArray, List.set_cons_zero, List.set_cons_succ]
  refine held_take 1 (some 74) (v := ?v1) rfl rfl (by kernel_rfl) (by kernel_rfl) (by kernel_rfl) (fun _ _ _ h => h) (by rfl) ?y1 (by assumption) ?_
  case y1 => ((intro w hSw); (try dsimp only at hSw); go_simp <;> (with_reducible rfl))
  try simp only [Act.put, List.setIfInBounds_toArray, List.set_cons_zero, List.set_cons_succ]
  refine held_take 2 (some 75) (v := ?v2) rfl rfl (by kernel_rfl) (by kernel_rfl) (by kernel_rfl) (fun _ _ _ h => h) (by rfl) ?y2 (by assumption) ?_
  case y2 => ((intro w hSw); (try dsimp only at hSw); go_simp <;> (with_reducible rfl))
  try simp only [Act.put, List.setIfInBounds_toArray, List.set_cons_zero, List.set_cons_succ]
  refine held_take 3 (some 76) (v := ?v3) rfl rfl (by kernel_rfl) (by kernel_rfl) (by kernel_rfl) (fun _ _ _ h => h) (by rfl) ?y3 (by assumption) ?_
  case y3 => ((intro w hSw); (try dsimp only at hSw); go_simp <;> (with_reducible rfl))
  try simp only [Act.put, List.setIfInBounds_toArray, List.set_cons_zero, List.set_cons_succ]
  refine held_take 4 (some 77) (v := ?v4) rfl rfl (by kernel_rfl) (by kernel_rfl) (by kernel_rfl) (fun _ _ _ h => h) (by rfl) ?y4 (by assumption) ?_
  case y4 => ((intro w hSw); (try dsimp only at hSw); go_simp <;> (with_reducible rfl))
  try simp only [Act.put, List.setIfInBounds_toArray, List.set_cons_zero, List.set_cons_succ]
  refine held_take 5 (some 78) (v := ?v5) rfl rfl (by kernel_rfl) (by kernel_rfl) (by kernel_rfl) (fun _ _ _ h => h) (by rfl) ?y5 (by assumption) ?_
  case y5 => ((intro w hSw); (try dsimp only at hSw); go_simp <;> (with_reducible rfl))
  try simp only [Act.put, List.setIfInBounds_toArray, List.set_cons_zero, List.set_cons_succ]
  refine held_take 6 (some 79) (v := (.agg #[.int .i64 r.k, .int .i64 r.s, .string r.nm, .int .i64 r.ek, .int .i64 r.ru.f0, .int .i64 r.ru.f1, .int .i64 r.ru.f2, .int .i64 r.ru.f3, .int .u32 r.ru.f4.f0, .int .u32 r.ru.f4.f1, .int .i64 r.ru.f5, .int .i64 r.qk, .int .i64 r.qa, .int .i64 r.qb, .int .i64 r.qw, .int .u32 r.qf, .int .u32 r.qt, .string r.qo])) rfl rfl (by kernel_rfl) (by kernel_rfl) (by kernel_rfl) (fun _ _ _ h => h) (by rfl) ?y6 (by assumption) ?_
  case y6 => ((intro w hSw); exact exec_load_row hSw.2.2.1 rfl rfl Try.underlying36 rfl (by kernel_rfl))
  try simp only [Act.put, List.setIfInBounds_toArray, List.set_cons_zero, List.set_cons_succ]
  refine held_take 7 (some 80) (v := (.agg #[.int .i64 r.k, .int .i64 r.s, .string r.nm, .int .i64 r.ek, .int .i64 r.ru.f0, .int .i64 r.ru.f1, .int .i64 r.ru.f2, .int .i64 r.ru.f3, .int .u32 r.ru.f4.f0, .int .u32 r.ru.f4.f1, .int .i64 r.ru.f5, .int .i64 r.qk, .int .i64 r.qa, .int .i64 r.qb, .int .i64 r.qw, .int .u32 r.qf, .int .u32 r.qt, .string r.qo])) rfl rfl (by kernel_rfl) (by kernel_rfl) (by kernel_rfl) (fun _ _ _ h => h) (by rfl) ?y7 (by assumption) ?_
  case y7 => ((intro w hSw); exact exec_load_row hSw.1 rfl rfl Try.underlying36 rfl (by kernel_rfl))
  try simp only [Act.put, List.setIfInBounds_toArray, List.set_cons_zero, List.set_cons_succ]
  refine held_take 8 (some 81) (v := ?v8) rfl rfl (by kernel_rfl) (by kernel_rfl) (by kernel_rfl) (fun _ _ _ h => h) (by rfl) ?y8 (by assumption) ?_
  case y8 => ((intro w hSw); (try dsimp only at hSw); go_simp <;> (with_reducible rfl))
  try simp only [Act.put, List.setIfInBounds_toArray, List.set_cons_zero, List.set_cons_succ]
  refine held_take 9 (some 82) (v := ?v9) rfl rfl (by kernel_rfl) (by kernel_rfl) (by kernel_rfl) (fun _ _ _ h => h) (by rfl) ?y9 (by assumption) ?_
  case y9 => ((intro w hSw); (try dsimp only at hSw); go_simp <;> (with_reducible rfl))
  try simp only [Act.put, List.setIfInBounds_toArray, List.set_cons_zero, List.set_cons_succ]
  refine held_take 10 (some 83) (v := ?v10) rfl rfl (by kernel_rfl) (by kernel_rfl) (by kernel_rfl) (fun _ _ _ h => h) (by rfl) ?y10 (by assumption) ?_
  case y10 => ((intro w hSw); (try dsimp only at hSw); go_simp <;> (with_reducible rfl))
  try simp only [Act.put, List.setIfInBounds_toArray, List.set_cons_zero, List.set_cons_succ]
  refine held_take 11 (some 84) (v := ?v11) rfl rfl (by kernel_rfl) (by kernel_rfl) (by kernel_rfl) (fun _ _ _ h => h) (by rfl) ?y11 (by assumption) ?_
  case y11 => ((intro w hSw); (try dsimp only at hSw); go_simp <;> (with_reducible rfl))
  try simp only [Act.put, List.setIfInBounds_toArray, List.set_cons_zero, List.set_cons_succ]
  refine held_take 12 (some 85) (v := ?v12) rfl rfl (by kernel_rfl) (by kernel_rfl) (by kernel_rfl) (fun _ _ _ h => h) (by rfl) ?y12 (by assumption) ?_
  case y12 => ((intro w hSw); (try dsimp only at hSw); go_simp <;> (with_reducible rfl))
  try simp only [Act.put, List.setIfInBounds_toArray, List.set_cons_zero, List.set_cons_succ]
  refine held_take 13 (some 86) (v := ?v13) rfl rfl (by kernel_rfl) (by kernel_rfl) (by kernel_rfl) (fun _ _ _ h => h) (by rfl) ?y13 (by assumption) ?_
  case y13 => ((intro w hSw); (try dsimp only at hSw); go_simp <;> (with_reducible rfl))
  try simp only [Act.put, List.setIfInBounds_toArray, List.set_cons_zero, List.set_cons_succ]
  refine held_take 14 (some 87) (v := ?v14) rfl rfl (by kernel_rfl) (by kernel_rfl) (by kernel_rfl) (fun _ _ _ h => h) (by rfl) ?y14 (by assumption) ?_
  case y14 => ((intro w hSw); (try dsimp only at hSw); go_simp <;> (with_reducible rfl))
  try simp only [Act.put, List.setIfInBounds_toArray, List.set_cons_zero, List.set_cons_succ]
  refine held_take 15 (some 88) (v := ?v15) rfl rfl (by kernel_rfl) (by kernel_rfl) (by kernel_rfl) (fun _ _ _ h => h) (by rfl) ?y15 (by assumption) ?_
  case y15 => ((intro w hSw); (try dsimp only at hSw); go_simp <;> (with_reducible rfl))
  try simp only [Act.put, List.setIfInBounds_toArray, List.set_cons_zero, List.set_cons_succ]
  refine held_take 16 (some 89) (v := ?v16) rfl rfl (by kernel_rfl) (by kernel_rfl) (by kernel_rfl) (fun _ _ _ h => h) (by rfl) ?y16 (by assumption) ?_
  case y16 => ((intro w hSw); (try dsimp only at hSw); go_simp <;> (with_reducible rfl))
  try simp only [Act.put, List.setIfInBounds_toArray, List.set_cons_zero, List.set_cons_succ]
  refine held_take 17 (some 90) (v := ?v17) rfl rfl (by kernel_rfl) (by kernel_rfl) (by kernel_rfl) (fun _ _ _ h => h) (by rfl) ?y17 (by assumption) ?_
  case y17 => ((intro w hSw); (try dsimp only at hSw); go_simp <;> (with_reducible rfl))
  try simp only [Act.put, List.setIfInBounds_toArray, List.set_cons_zero, List.set_cons_succ]
  refine held_take 18 (some 91) (v := ?v18) rfl rfl (by kernel_rfl) (by kernel_rfl) (by kernel_rfl) (fun _ _ _ h => h) (by rfl) ?y18 (by assumption) ?_
  case y18 => ((intro w hSw); (try dsimp only at hSw); go_simp <;> (with_reducible rfl))
  try simp only [Act.put, List.setIfInBounds_toArray, List.set_cons_zero, List.set_cons_succ]
  refine held_take 19 (some 92) (v := ?v19) rfl rfl (by kernel_rfl) (by kernel_rfl) (by kernel_rfl) (fun _ _ _ h => h) (by rfl) ?y19 (by assumption) ?_
  case y19 => ((intro w hSw); (try dsimp only at hSw); go_simp <;> (with_reducible rfl))
  try simp only [Act.put, List.setIfInBounds_toArray, List.set_cons_zero, List.set_cons_succ]
  refine held_take 20 (some 93) (v := ?v20) rfl rfl (by kernel_rfl) (by kernel_rfl) (by kernel_rfl) (fun _ _ _ h => h) (by rfl) ?y20 (by assumption) ?_
  case y20 => ((intro w hSw); (try dsimp only at hSw); go_simp <;> (with_reducible rfl))
  try simp only [Act.put, List.setIfInBounds_toArray, List.set_cons_zero, List.set_cons_succ]
  refine held_take 21 (some 94) (v := ?v21) rfl rfl (by kernel_rfl) (by kernel_rfl) (by kernel_rfl) (fun _ _ _ h => h) (by rfl) ?y21 (by assumption) ?_
  case y21 => ((intro w hSw); (try dsimp only at hSw); go_simp <;> (with_reducible rfl))
  try simp only [Act.put, List.setIfInBounds_toArray, List.set_cons_zero, List.set_cons_succ]
  refine held_take 22 (some 95) (v := ?v22) rfl rfl (by kernel_rfl) (by kernel_rfl) (by kernel_rfl) (fun _ _ _ h => h) (by rfl) ?y22 (by assumption) ?_
  case y22 => ((intro w hSw); (try dsimp only at hSw); go_simp <;> (with_reducible rfl))
  try simp only [Act.put, List.setIfInBounds_toArray, List.set_cons_zero, List.set_cons_succ]
  refine held_take 23 (some 96) (v := ?v23) rfl rfl (by kernel_rfl) (by kernel_rfl) (by kernel_rfl) (fun _ _ _ h => h) (by rfl) ?y23 (by assumption) ?_
  case y23 => ((intro w hSw); (try dsimp only at hSw); go_simp <;> (with_reducible rfl))
  try simp only [Act.put, List.setIfInBounds_toArray, List.set_cons_zero, List.set_cons_succ]
  refine held_take 24 (some 97) (v := (.agg #[.int .i64 r.k, .int .i64 r.s, .string r.nm, .int .i64 r.ek, .int .i64 r.ru.f0, .int .i64 r.ru.f1, .int .i64 r.ru.f2, .int .i64 r.ru.f3, .int .u32 r.ru.f4.f0, .int .u32 r.ru.f4.f1, .int .i64 r.ru.f5, .int .i64 r.qk, .int .i64 r.qa, .int .i64 r.qb, .int .i64 r.qw, .int .u32 r.qf, .int .u32 r.qt, .string r.qo])) rfl rfl (by kernel_rfl) (by kernel_rfl) (by kernel_rfl) (fun _ _ _ h => h) (by rfl) ?y24 (by assumption) ?_
  case y24 => ((intro w hSw); exact exec_load_row hSw.1 rfl rfl Try.underlying36 rfl (by kernel_rfl))
  try simp only [Act.put, List.setIfInBounds_toArray, List.set_cons_zero, List.set_cons_succ]
  refine held_take 25 (some 98) (v := (.agg #[.int .i64 s.k, .int .i64 s.s, .string s.nm, .int .i64 s.ek, .int .i64 s.ru.f0, .int .i64 s.ru.f1, .int .i64 s.ru.f2, .int .i64 s.ru.f3, .int .u32 s.ru.f4.f0, .int .u32 s.ru.f4.f1, .int .i64 s.ru.f5, .int .i64 s.qk, .int .i64 s.qa, .int .i64 s.qb, .int .i64 s.qw, .int .u32 s.qf, .int .u32 s.qt, .string s.qo])) rfl rfl (by kernel_rfl) (by kernel_rfl) (by kernel_rfl) (fun _ _ _ h => h) (by rfl) ?y25 (by assumption) ?_
  case y25 => ((intro w hSw); exact exec_load_row hSw.2.1 rfl rfl Try.underlying36 rfl (by kernel_rfl))
  try simp only [Act.put, List.setIfInBounds_toArray, List.set_cons_zero, List.set_cons_succ]
  refine held_take 26 (some 99) (v := ?v26) rfl rfl (by kernel_rfl) (by kernel_rfl) (by kernel_rfl) (fun _ _ _ h => h) (by rfl) ?y26 (by assumption) ?_
  case y26 => ((intro w hSw); (try dsimp only at hSw); go_simp <;> (with_reducible rfl))
  try simp only [Act.put, List.setIfInBounds_toArray, List.set_cons_zero, List.set_cons_succ]
  refine held_take 27 (some 100) (v := ?v27) rfl rfl (by kernel_rfl) (by kernel_rfl) (by kernel_rfl) (fun _ _ _ h => h) (by rfl) ?y27 (by assumption) ?_
  case y27 => ((intro w hSw); (try dsimp only at hSw); go_simp <;> (with_reducible rfl))
  try simp only [Act.put, List.setIfInBounds_toArray, List.set_cons_zero, List.set_cons_succ]
  refine held_take 28 (some 101) (v := ?v28) rfl rfl (by kernel_rfl) (by kernel_rfl) (by kernel_rfl) (fun _ _ _ h => h) (by rfl) ?y28 (by assumption) ?_
  case y28 => ((intro w hSw); (try dsimp only at hSw); go_simp <;> (with_reducible rfl))
  try simp only [Act.put, List.setIfInBounds_toArray, List.set_cons_zero, List.set_cons_succ]
  refine held_take 29 (some 4) (v := ?v29) rfl rfl (by kernel_rfl) (by kernel_rfl) (by kernel_rfl) (fun _ _ _ h => h) (by rfl) ?y29 (by assumption) ?_
  case y29 => ((intro w hSw); (try dsimp only at hSw); go_simp <;> (with_reducible rfl))
  try simp only [Act.put, List.setIfInBounds_toArray, List.set_cons_zero, List.set_cons_succ]
  refine wpAnyH_done (by kernel_rfl) ?_ _
  go_wp2_with fail
  go_ret
  exact ⟨by simp, HB.out⟩
set_option maxHeartbeats 4000000 in
theorem wireBack_row (r : Rq) (s : Rq) (w : World) (hur : okRq r) (hus : okRq s) :
    Calls Try.prog 4 #[.agg #[.int .i64 r.k, .int .i64 r.s, .string r.nm, .int .i64 r.ek, .int .i64 r.ru.f0, .int .i64 r.ru.f1, .int .i64 r.ru.f2, .int .i64 r.ru.f3, .int .u32 r.ru.f4.f0, .int .u32 r.ru.f4.f1, .int .i64 r.ru.f5, .int .i64 r.qk, .int .i64 r.qa, .int .i64 r.qb, .int .i64 r.qw, .int .u32 r.qf, .int .u32 r.qt, .string r.qo], .agg #[.int .i64 s.k, .int .i64 s.s, .string s.nm, .int .i64 s.ek, .int .i64 s.ru.f0, .int .i64 s.ru.f1, .int .i64 s.ru.f2, .int .i64 s.ru.f3, .int .u32 s.ru.f4.f0, .int .u32 s.ru.f4.f1, .int .i64 s.ru.f5, .int .i64 s.qk, .int .i64 s.qa, .int .i64 s.qb, .int .i64 s.qw, .int .u32 s.qf, .int .u32 s.qt, .string s.qo]] w fun e w' => e = .returned (.bool true) ∧ Below w.heap.size w w' := by
  cases f1 : fitsB r zRs with
  | false => exact wireBack_b1 r s hur hus w f1
  | true =>
    cases f2 : fitsB s zRs with
    | false => exact wireBack_b2 r s hur hus w f1 f2
    | true =>
      rcases encOut_code r with e1 | e1
      · rcases encOut_code s with e2 | e2
        · obtain ⟨q1, e1'⟩ := enc_back hur e1
          obtain ⟨q2, e2'⟩ := enc_back hus e2
          have hb := bytes_encL hur q1
          have hkb := bytes_encL hus q2
          have hst : ((strOfNums (encL r)).toList == (strOfNums (encL s)).toList) = eqRqB r s := by
            rw [str_inj _ _ hb hkb]
            by_cases h : r = s
            · rw [(eqRqB_iff r s).2 h, decide_eq_true ((enc_inj hur hus q1 q2).2 h)]
            · rw [decide_eq_false (fun e => h ((enc_inj hur hus q1 q2).1 e))]
              cases e : eqRqB r s
              · rfl
              · exact absurd ((eqRqB_iff r s).1 e) h
          have h2 := encL_two r
          have b0 : bytes [0] := fun x hx => by simp only [List.mem_singleton] at hx; rw [hx]; exact ⟨by decide, by decide⟩
          obtain ⟨M, x, hM⟩ : ∃ M x, encL r = M ++ [x] := by
            have hne : encL r ≠ [] := fun e => by rw [e] at h2; simp at h2
            exact ⟨(encL r).dropLast, (encL r).getLast hne, (List.dropLast_concat_getLast hne).symm⟩
          have hml : (encL r).length = M.length + 1 := by rw [hM]; simp
          have hLM : (encL r).take M.length = M := by rw [hM, List.take_left]
          have bM : bytes M := by rw [← hLM]; exact bytes_take hb _
          exact wireBack_good r s hur hus w (encL r) (encL s) M (encL r ++ [0]) f1 f2 e1' e2' (dec_encL hur q1) _ (by rw [← dec_less hur q1 bM hM]) _ (by rw [← dec_more hur q1 0]) hLM hml rfl hb bM (bytes_append hb b0) h2 (by have := encL_le hur q1; omega) hst ((eqRqB_iff r r).2 rfl)
        · exact wireBack_b4 r s hur hus w f1 f2 e1 e2
      · exact wireBack_b3 r s hur hus w f1 f2 e1
end Go.Proofs.Ytpaknjmcjblahaa.H
