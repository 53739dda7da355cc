/- A request out of bytes: walked (the document's). -/
import Derived.Test.YtpaknjmcjblahaaAWir8
import Derived.Test.YtpaknjmcjblahaaAWir9
import Derived.BigQuiet
namespace Go.Proofs.Ytpaknjmcjblahaa.H
open Go.RowKit Go.Proofs.Ytpaknjmcjblahaa.P Go.Proofs.YtpaknjmcjblahaaW.PrintWords Go.Proofs.YtpaknjmcjblahaaW.PrintLast Go.Proofs.YtpaknjmcjblahaaW.PrintMore
set_option linter.unusedVariables false
set_option linter.unusedSimpArgs false
set_option maxRecDepth 20000
theorem out_eq {α : Type} (m : Mc) (r : Bool) (x y : α) : (if m.bad = true ∨ 0 < m.rest.length ∨ r = false then x else y) = if ((!m.bad && m.rest.isEmpty) && r) = true then y else x := by
  obtain ⟨l, b⟩ := m
  cases b <;> cases r <;> cases l <;> simp
theorem whole_any (t : Nat) (m : Mc) (w : World) (k : RT w t m) :
    Calls Try.prog 38 #[.pointer (some ⟨t, 0, none⟩)] w fun e w' => e = .returned (.bool (!m.bad && m.rest.isEmpty)) ∧ Below w.heap.size w w' := by
  obtain ⟨B, d, b, i, ⟨h1, h2, h3, h4⟩, h5, h6, _⟩ := k
  have d0 := blk_cell h1 0
  have d1 := blk_cell h1 1
  have d2 := blk_cell h1 2
  cases hb : m.bad with
  | true =>
    have d2 := (show _ = some (Value.bool m.bad) from d2)
    rw [hb] at d2
    clear h1 h3 h4 h5 h6 h2
    go_enter Try.func38, Try.ntmps38
    go_wp2_with fail
    go_quiet (fail)
    go_wp2_with fail
    go_ret
    exact ⟨rfl, below_drewN (Below.refl _ _) _⟩
  | false =>
    have d2 := (show _ = some (Value.bool m.bad) from d2)
    rw [hb] at d2
    have he : (m.rest.isEmpty) = ((i : Int) == (b.length : Int)) := by
      rw [show ((i : Int) == (b.length : Int)) = decide ((i : Int) = (b.length : Int)) from rfl]
      rw [← h5]
      by_cases e : i = b.length
      · subst e; simp
      · have : ¬ ((i : Int) = (b.length : Int)) := by omega
        simp [this, List.drop_eq_nil_iff]; omega
    rw [he]
    clear h1 h3 h4 h5 h6 h2 he
    go_enter Try.func38, Try.ntmps38
    go_wp2_with fail
    go_quiet (fail)
    go_wp2_with fail
    go_ret
    exact ⟨rfl, below_drewN (Below.refl _ _) _⟩
set_option maxHeartbeats 4000000 in
theorem refdec_0 (A : Option Addr) (c : Nat) (l : List Int) (w : World) (hC : Kd.C (Kd.int .u8) w A l.length l) (hc : l.length ≤ c) (hl : l.length < 140737488355328) (hby : bytes l) (n1 : Int) (m1 : Mc) (q1 : numM 9 (⟨l, false⟩) = (n1, m1)) (n2 : Int) (m2 : Mc) (q2 : numM 255 m1 = (n2, m2)) (hp : partK n1 = 0) (wb rb : Bool) (hB : (!m2.bad && m2.rest.isEmpty) = wb) (hrb : rightQ ⟨n1, n2, ⟨#[]⟩, 0, zRu, 0, 0, 0, 0, 0, 0, ⟨#[]⟩⟩ = rb) (OUT : Rq × Int) (hO : OUT = if (wb && rb) = true then (⟨n1, n2, ⟨#[]⟩, 0, zRu, 0, 0, 0, 0, 0, 0, ⟨#[]⟩⟩, 0) else (zRq, 171)) :
    Calls Try.prog 13 #[.slice A l.length c] w fun e w' => e = .returned (.tuple #[.agg (rqVals OUT.1).toArray, .int .i64 OUT.2]) ∧ Below w.heap.size w w' := by
  have HO := Aside0.mk hO
  clear hO
  have hb0 : bytes (Mc.mk l false).rest := hby
  have hd1 := numM_bound 9 ⟨l, false⟩ hb0 (by decide)
  have hb1 := numM_bytes 9 ⟨l, false⟩ hb0
  rw [q1] at hd1 hb1
  simp only [] at hd1 hb1
  have C1 := Aside0.mk (fun (t : Nat) (W : World) (k : RT W t (⟨l, false⟩)) => refN_any t ⟨l, false⟩ 9 (by decide) (by decide) W k)
  rw [q1] at C1
  simp only [] at C1
  have hd2 := numM_bound 255 m1 hb1 (by decide)
  have hb2 := numM_bytes 255 m1 hb1
  rw [q2] at hd2 hb2
  simp only [] at hd2 hb2
  have C2 := Aside0.mk (fun (t : Nat) (W : World) (k : RT W t (m1)) => refN_any t m1 255 (by decide) (by decide) W k)
  rw [q2] at C2
  simp only [] at C2
  have CR := Aside0.mk (fun W => refright_any ⟨n1, n2, ⟨#[]⟩, 0, zRu, 0, 0, 0, 0, 0, 0, ⟨#[]⟩⟩ ⟨okRu0, ok0, ok0⟩ W)
  rw [hrb] at CR
  unfold zRu at CR
  simp only [] at CR
  have CP := Aside0.mk (fun W => part_any n1 W)
  rw [hp] at CP
  clear hb0 hb1 hb2 hd1 hd2 q1 q2 hrb
  have hC0 := Aside0.mk hC
  clear hC
  go_enter Try.func13, Try.ntmps13
  have hbn := Aside0.mk ((Below.refl w.heap.size w).alloc (Nat.le_refl _) (.cells #[.int .i64 0, .int .i64 0, .string ⟨#[]⟩, .int .i64 0, .int .i64 0, .int .i64 0, .int .i64 0, .int .i64 0, .int .u32 0, .int .u32 0, .int .i64 0, .int .i64 0, .int .i64 0, .int .i64 0, .int .i64 0, .int .u32 0, .int .u32 0, .string ⟨#[]⟩] 36))
  have hbl := Aside0.mk (blk_new w (.cells #[.int .i64 0, .int .i64 0, .string ⟨#[]⟩, .int .i64 0, .int .i64 0, .int .i64 0, .int .i64 0, .int .i64 0, .int .u32 0, .int .u32 0, .int .i64 0, .int .i64 0, .int .i64 0, .int .i64 0, .int .i64 0, .int .u32 0, .int .u32 0, .string ⟨#[]⟩] 36))
  try dsimp only
  repeat ((fail_if_success (show Code.wp _ (Code.seq (Code.region 1 _ _) _) _ _ _)); (first | go_values | go_skip | go_guarded | go_step | go_upon | go_back))
  have hC1 := Aside0.mk (Kd.C_below hC0.out ((Below.refl w.heap.size w).alloc (Nat.le_refl _) (.cells #[.int .i64 0, .int .i64 0, .string ⟨#[]⟩, .int .i64 0, .int .i64 0, .int .i64 0, .int .i64 0, .int .i64 0, .int .u32 0, .int .u32 0, .int .i64 0, .int .i64 0, .int .i64 0, .int .i64 0, .int .i64 0, .int .u32 0, .int .u32 0, .string ⟨#[]⟩] 36)))
  have hs := Aside0.mk (show w.heap.size < (w.alloc (.cells #[.int .i64 0, .int .i64 0, .string ⟨#[]⟩, .int .i64 0, .int .i64 0, .int .i64 0, .int .i64 0, .int .i64 0, .int .u32 0, .int .u32 0, .int .i64 0, .int .i64 0, .int .i64 0, .int .i64 0, .int .i64 0, .int .u32 0, .int .u32 0, .string ⟨#[]⟩] 36)).heap.size from by simp)
  clear hC0
  generalize (w.alloc (.cells #[.int .i64 0, .int .i64 0, .string ⟨#[]⟩, .int .i64 0, .int .i64 0, .int .i64 0, .int .i64 0, .int .i64 0, .int .u32 0, .int .u32 0, .int .i64 0, .int .i64 0, .int .i64 0, .int .i64 0, .int .i64 0, .int .u32 0, .int .u32 0, .string ⟨#[]⟩] 36)) = V0 at *
  try dsimp only
  repeat ((fail_if_success (show Code.wp _ (Code.seq (Code.region 2 _ _) _) _ _ _)); (first | go_values | go_skip | go_guarded | go_step | go_upon | go_back))
  have s0 := hs.out
  have hbm := (Below.refl V0.heap.size V0).alloc (Nat.le_refl _) (.cells #[.slice A l.length c, .int .i64 0, .bool false] 84)
  have T0 := Aside0.mk (show RT (V0.alloc (.cells #[.slice A l.length c, .int .i64 0, .bool false] 84)) V0.heap.size ⟨l, false⟩ from ⟨A, c, l, 0, ⟨blk_new V0 _, Nat.zero_le _, hc, Kd.C_below hC1.out hbm⟩, rfl, hby, BL_of hC1.out⟩)
  have X0 := Aside0.mk (show Mine w (V0.alloc (.cells #[.slice A l.length c, .int .i64 0, .bool false] 84)) V0.heap.size V0.heap.size w.heap.size #[.int .i64 0, .int .i64 0, .string ⟨#[]⟩, .int .i64 0, .int .i64 0, .int .i64 0, .int .i64 0, .int .i64 0, .int .u32 0, .int .u32 0, .int .i64 0, .int .i64 0, .int .i64 0, .int .i64 0, .int .i64 0, .int .u32 0, .int .u32 0, .string ⟨#[]⟩] 36 from ⟨blk_below hbl.out hbm, Nat.le_refl _, rfl, by omega, by omega⟩)
  have K0 := Aside0.mk (show Keep2 V0.heap.size V0.heap.size w (V0.alloc (.cells #[.slice A l.length c, .int .i64 0, .bool false] 84)) from Keep2.of (hbn.out.trans (hbm.mono (by omega))))
  have HT := Aside0.mk (show w.heap.size ≤ V0.heap.size from by omega)
  clear hbm hbl hbn hC1 hs s0 hby
  generalize V0.alloc (.cells #[.slice A l.length c, .int .i64 0, .bool false] 84) = W0 at *
  generalize V0.heap.size = t at *
  replace C1 := Aside0.mk (C1.out t)
  replace C2 := Aside0.mk (C2.out t)
  go_wp2_with fail
  refine (C1.out _ T0.out).mono ?_
  rintro e W1 ⟨rfl, ht, hk⟩
  have X1 := Aside0.mk (X0.out.keep hk)
  have K1 := Aside0.mk (K0.out.trans hk)
  have T1 := Aside0.mk ht
  clear ht hk C1 T0 K0 X0
  go_wp2_with fail
  refine (C2.out _ T1.out).mono ?_
  rintro e W2 ⟨rfl, ht, hk⟩
  have X2 := Aside0.mk (X1.out.keep hk)
  have K2 := Aside0.mk (K1.out.trans hk)
  have T2 := Aside0.mk ht
  clear ht hk C2 T1 K1 X1
  have hbn := (Below.refl W2.heap.size W2).alloc (Nat.le_refl _) (.cells #[.int .i64 0, .int .i64 0, .string ⟨#[]⟩, .int .i64 0, .int .i64 0, .int .i64 0, .int .i64 0, .int .i64 0, .int .u32 0, .int .u32 0, .int .i64 0, .int .i64 0, .int .i64 0, .int .i64 0, .int .i64 0, .int .u32 0, .int .u32 0, .string ⟨#[]⟩] 36)
  have Y3 := Aside0.mk (mine_new K2.out T2.out.lt #[.int .i64 0, .int .i64 0, .string ⟨#[]⟩, .int .i64 0, .int .i64 0, .int .i64 0, .int .i64 0, .int .i64 0, .int .u32 0, .int .u32 0, .int .i64 0, .int .i64 0, .int .i64 0, .int .i64 0, .int .i64 0, .int .u32 0, .int .u32 0, .string ⟨#[]⟩] 36 rfl)
  have NEYX := Aside0.mk (show W2.heap.size ≠ w.heap.size from by have := blk_lt X2.out.blk; omega)
  have X3 := Aside0.mk (X2.out.below hbn)
  have T3 := Aside0.mk (T2.out.below hbn)
  have K3 := Aside0.mk (K2.out.alloc (.cells #[.int .i64 0, .int .i64 0, .string ⟨#[]⟩, .int .i64 0, .int .i64 0, .int .i64 0, .int .i64 0, .int .i64 0, .int .u32 0, .int .u32 0, .int .i64 0, .int .i64 0, .int .i64 0, .int .i64 0, .int .i64 0, .int .u32 0, .int .u32 0, .string ⟨#[]⟩] 36))
  clear hbn T2 K2 X2
  try dsimp only
  repeat ((fail_if_success (show Oper.wp _ (Oper.mk none (Op.store _ _ _) _ _ _ _) _ _ _ _)); (first | go_values | go_skip | go_guarded | go_step | go_upon | go_back))
  generalize (W2.alloc (.cells #[.int .i64 0, .int .i64 0, .string ⟨#[]⟩, .int .i64 0, .int .i64 0, .int .i64 0, .int .i64 0, .int .i64 0, .int .u32 0, .int .u32 0, .int .i64 0, .int .i64 0, .int .i64 0, .int .i64 0, .int .i64 0, .int .u32 0, .int .u32 0, .string ⟨#[]⟩] 36)) = W3 at *
  generalize W2.heap.size = b1 at *
  refine wp_store_row (c' := #[.int .i64 n1, .int .i64 n2, .string ⟨#[]⟩, .int .i64 0, .int .i64 0, .int .i64 0, .int .i64 0, .int .i64 0, .int .u32 0, .int .u32 0, .int .i64 0, .int .i64 0, .int .i64 0, .int .i64 0, .int .i64 0, .int .u32 0, .int .u32 0, .string ⟨#[]⟩]) Y3.out.blk rfl rfl rfl rfl (by kernel_rfl) rfl (by simp [Value.oneCell']) ?_
  have Y4 := Aside0.mk (Y3.out.row #[.int .i64 n1, .int .i64 n2, .string ⟨#[]⟩, .int .i64 0, .int .i64 0, .int .i64 0, .int .i64 0, .int .i64 0, .int .u32 0, .int .u32 0, .int .i64 0, .int .i64 0, .int .i64 0, .int .i64 0, .int .i64 0, .int .u32 0, .int .u32 0, .string ⟨#[]⟩] rfl)
  have X4 := Aside0.mk (X3.out.farRow (fun e => NEYX.out e.symm) #[.int .i64 n1, .int .i64 n2, .string ⟨#[]⟩, .int .i64 0, .int .i64 0, .int .i64 0, .int .i64 0, .int .i64 0, .int .u32 0, .int .u32 0, .int .i64 0, .int .i64 0, .int .i64 0, .int .i64 0, .int .i64 0, .int .u32 0, .int .u32 0, .string ⟨#[]⟩] : Mine _ (W3.setRow b1 #[.int .i64 n1, .int .i64 n2, .string ⟨#[]⟩, .int .i64 0, .int .i64 0, .int .i64 0, .int .i64 0, .int .i64 0, .int .u32 0, .int .u32 0, .int .i64 0, .int .i64 0, .int .i64 0, .int .i64 0, .int .i64 0, .int .u32 0, .int .u32 0, .string ⟨#[]⟩]) _ _ _ _ _)
  have T4 := Aside0.mk (T3.out.farRow Y3.out #[.int .i64 n1, .int .i64 n2, .string ⟨#[]⟩, .int .i64 0, .int .i64 0, .int .i64 0, .int .i64 0, .int .i64 0, .int .u32 0, .int .u32 0, .int .i64 0, .int .i64 0, .int .i64 0, .int .i64 0, .int .i64 0, .int .u32 0, .int .u32 0, .string ⟨#[]⟩])
  have K4 := Aside0.mk (K3.out.mineRow Y3.out #[.int .i64 n1, .int .i64 n2, .string ⟨#[]⟩, .int .i64 0, .int .i64 0, .int .i64 0, .int .i64 0, .int .i64 0, .int .u32 0, .int .u32 0, .int .i64 0, .int .i64 0, .int .i64 0, .int .i64 0, .int .i64 0, .int .u32 0, .int .u32 0, .string ⟨#[]⟩])
  clear T3 K3 X3 Y3
  generalize W3.setRow b1 #[.int .i64 n1, .int .i64 n2, .string ⟨#[]⟩, .int .i64 0, .int .i64 0, .int .i64 0, .int .i64 0, .int .i64 0, .int .u32 0, .int .u32 0, .int .i64 0, .int .i64 0, .int .i64 0, .int .i64 0, .int .i64 0, .int .u32 0, .int .u32 0, .string ⟨#[]⟩] = W4 at *
  try dsimp only
  repeat ((fail_if_success (show Code.wp _ (Code.seq (Code.region 3 _ _) _) _ _ _)); (first | go_values | go_skip | go_guarded | go_step | go_upon | go_back))
  have k0 := blk_cell Y4.out.blk 0
  have f0 := blk_frozen Y4.out.blk 0
  go_wp2_with fail
  refine (CP.out W4).mono ?_
  rintro e W5 ⟨rfl, hb⟩
  have X5 := Aside0.mk (X4.out.below hb)
  have Y5 := Aside0.mk (Y4.out.below hb)
  have K5 := Aside0.mk (K4.out.trans (Keep2.of hb))
  have T5 := Aside0.mk (T4.out.below hb)
  clear hb T4 K4 X4 Y4
  clear k0 f0 CP
  have CW := Aside0.mk (whole_any t m2 W5 T5.out)
  rw [hB] at CW
  clear hB
  go_wp2_with fail
  refine (CW.out).mono ?_
  rintro e W6 ⟨rfl, hb⟩
  have X6 := Aside0.mk (X5.out.below hb)
  have Y6 := Aside0.mk (Y5.out.below hb)
  have K6 := Aside0.mk (K5.out.trans (Keep2.of hb))
  have T6 := Aside0.mk (T5.out.below hb)
  clear hb T5 K5 X5 Y5
  clear CW
  try dsimp only
  repeat ((fail_if_success (show Oper.wp _ (Oper.mk _ (Op.load 36 _) _ _ _ _) _ _ _ _)); (first | go_values | go_skip | go_guarded | go_step | go_upon | go_back))
  refine wp_load_row Y6.out.blk rfl rfl Try.underlying36 rfl (by kernel_rfl) ?_
  try go_simp
  go_wp2_with fail
  refine (CR.out W6).mono ?_
  rintro e W7 ⟨rfl, hb⟩
  have X7 := Aside0.mk (X6.out.below hb)
  have Y7 := Aside0.mk (Y6.out.below hb)
  have K7 := Aside0.mk (K6.out.trans (Keep2.of hb))
  have T7 := Aside0.mk (T6.out.below hb)
  clear hb T6 K6 X6 Y6
  clear CR
  try dsimp only
  cases wb with
  | false =>
    have HE := Aside0.mk (HO.out.trans (if_neg (by simp)))
    repeat ((fail_if_success (show Oper.wp _ (Oper.mk none (Op.store _ _ _) _ _ _ _) _ _ _ _)); (first | go_values | go_skip | go_guarded | go_step | go_upon | go_back))
    refine wp_store_row (c' := #[.int .i64 0, .int .i64 0, .string ⟨#[]⟩, .int .i64 0, .int .i64 0, .int .i64 0, .int .i64 0, .int .i64 0, .int .u32 0, .int .u32 0, .int .i64 0, .int .i64 0, .int .i64 0, .int .i64 0, .int .i64 0, .int .u32 0, .int .u32 0, .string ⟨#[]⟩]) X7.out.blk rfl rfl rfl rfl (by kernel_rfl) rfl (by simp [Value.oneCell']) ?_
    have X8 := Aside0.mk (X7.out.row #[.int .i64 0, .int .i64 0, .string ⟨#[]⟩, .int .i64 0, .int .i64 0, .int .i64 0, .int .i64 0, .int .i64 0, .int .u32 0, .int .u32 0, .int .i64 0, .int .i64 0, .int .i64 0, .int .i64 0, .int .i64 0, .int .u32 0, .int .u32 0, .string ⟨#[]⟩] rfl)
    have Y8 := Aside0.mk (Y7.out.farRow NEYX.out #[.int .i64 0, .int .i64 0, .string ⟨#[]⟩, .int .i64 0, .int .i64 0, .int .i64 0, .int .i64 0, .int .i64 0, .int .u32 0, .int .u32 0, .int .i64 0, .int .i64 0, .int .i64 0, .int .i64 0, .int .i64 0, .int .u32 0, .int .u32 0, .string ⟨#[]⟩] : Mine _ (W7.setRow w.heap.size #[.int .i64 0, .int .i64 0, .string ⟨#[]⟩, .int .i64 0, .int .i64 0, .int .i64 0, .int .i64 0, .int .i64 0, .int .u32 0, .int .u32 0, .int .i64 0, .int .i64 0, .int .i64 0, .int .i64 0, .int .i64 0, .int .u32 0, .int .u32 0, .string ⟨#[]⟩]) _ _ _ _ _)
    have T8 := Aside0.mk (T7.out.farRow X7.out #[.int .i64 0, .int .i64 0, .string ⟨#[]⟩, .int .i64 0, .int .i64 0, .int .i64 0, .int .i64 0, .int .i64 0, .int .u32 0, .int .u32 0, .int .i64 0, .int .i64 0, .int .i64 0, .int .i64 0, .int .i64 0, .int .u32 0, .int .u32 0, .string ⟨#[]⟩])
    have K8 := Aside0.mk (K7.out.mineRow X7.out #[.int .i64 0, .int .i64 0, .string ⟨#[]⟩, .int .i64 0, .int .i64 0, .int .i64 0, .int .i64 0, .int .i64 0, .int .u32 0, .int .u32 0, .int .i64 0, .int .i64 0, .int .i64 0, .int .i64 0, .int .i64 0, .int .u32 0, .int .u32 0, .string ⟨#[]⟩])
    clear T7 K7 X7 Y7
    generalize W7.setRow w.heap.size #[.int .i64 0, .int .i64 0, .string ⟨#[]⟩, .int .i64 0, .int .i64 0, .int .i64 0, .int .i64 0, .int .i64 0, .int .u32 0, .int .u32 0, .int .i64 0, .int .i64 0, .int .i64 0, .int .i64 0, .int .i64 0, .int .u32 0, .int .u32 0, .string ⟨#[]⟩] = W8 at *
    go_wp2_with fail
    exact bodyPost_ret (v := .tuple #[.agg #[.int .i64 0, .int .i64 0, .string ⟨#[]⟩, .int .i64 0, .int .i64 0, .int .i64 0, .int .i64 0, .int .i64 0, .int .u32 0, .int .u32 0, .int .i64 0, .int .i64 0, .int .i64 0, .int .i64 0, .int .i64 0, .int .u32 0, .int .u32 0, .string ⟨#[]⟩], .int .i64 171]) (results_row rfl rfl rfl X8.out.blk Try.underlying36 rfl (by kernel_rfl)) rfl ⟨by rw [HE.out]; rfl, Keep2.below K8.out (Below.refl w.heap.size w) HT.out HT.out (Nat.le_refl _)⟩
  | true =>
    cases rb with
    | true =>
      have HE := Aside0.mk (HO.out.trans (if_pos rfl))
      repeat ((fail_if_success (show Oper.wp _ (Oper.mk _ (Op.load 36 _) _ _ _ _) _ _ _ _)); (first | go_values | go_skip | go_guarded | go_step | go_upon | go_back))
      refine wp_load_row Y7.out.blk rfl rfl Try.underlying36 rfl (by kernel_rfl) ?_
      try go_simp
      try dsimp only
      repeat ((fail_if_success (show Oper.wp _ (Oper.mk none (Op.store _ _ _) _ _ _ _) _ _ _ _)); (first | go_values | go_skip | go_guarded | go_step | go_upon | go_back))
      refine wp_store_row (c' := #[.int .i64 n1, .int .i64 n2, .string ⟨#[]⟩, .int .i64 0, .int .i64 0, .int .i64 0, .int .i64 0, .int .i64 0, .int .u32 0, .int .u32 0, .int .i64 0, .int .i64 0, .int .i64 0, .int .i64 0, .int .i64 0, .int .u32 0, .int .u32 0, .string ⟨#[]⟩]) X7.out.blk rfl rfl rfl rfl (by kernel_rfl) rfl (by simp [Value.oneCell']) ?_
      have X8 := Aside0.mk (X7.out.row #[.int .i64 n1, .int .i64 n2, .string ⟨#[]⟩, .int .i64 0, .int .i64 0, .int .i64 0, .int .i64 0, .int .i64 0, .int .u32 0, .int .u32 0, .int .i64 0, .int .i64 0, .int .i64 0, .int .i64 0, .int .i64 0, .int .u32 0, .int .u32 0, .string ⟨#[]⟩] rfl)
      have Y8 := Aside0.mk (Y7.out.farRow NEYX.out #[.int .i64 n1, .int .i64 n2, .string ⟨#[]⟩, .int .i64 0, .int .i64 0, .int .i64 0, .int .i64 0, .int .i64 0, .int .u32 0, .int .u32 0, .int .i64 0, .int .i64 0, .int .i64 0, .int .i64 0, .int .i64 0, .int .u32 0, .int .u32 0, .string ⟨#[]⟩] : Mine _ (W7.setRow w.heap.size #[.int .i64 n1, .int .i64 n2, .string ⟨#[]⟩, .int .i64 0, .int .i64 0, .int .i64 0, .int .i64 0, .int .i64 0, .int .u32 0, .int .u32 0, .int .i64 0, .int .i64 0, .int .i64 0, .int .i64 0, .int .i64 0, .int .u32 0, .int .u32 0, .string ⟨#[]⟩]) _ _ _ _ _)
      have T8 := Aside0.mk (T7.out.farRow X7.out #[.int .i64 n1, .int .i64 n2, .string ⟨#[]⟩, .int .i64 0, .int .i64 0, .int .i64 0, .int .i64 0, .int .i64 0, .int .u32 0, .int .u32 0, .int .i64 0, .int .i64 0, .int .i64 0, .int .i64 0, .int .i64 0, .int .u32 0, .int .u32 0, .string ⟨#[]⟩])
      have K8 := Aside0.mk (K7.out.mineRow X7.out #[.int .i64 n1, .int .i64 n2, .string ⟨#[]⟩, .int .i64 0, .int .i64 0, .int .i64 0, .int .i64 0, .int .i64 0, .int .u32 0, .int .u32 0, .int .i64 0, .int .i64 0, .int .i64 0, .int .i64 0, .int .i64 0, .int .u32 0, .int .u32 0, .string ⟨#[]⟩])
      clear T7 K7 X7 Y7
      generalize W7.setRow w.heap.size #[.int .i64 n1, .int .i64 n2, .string ⟨#[]⟩, .int .i64 0, .int .i64 0, .int .i64 0, .int .i64 0, .int .i64 0, .int .u32 0, .int .u32 0, .int .i64 0, .int .i64 0, .int .i64 0, .int .i64 0, .int .i64 0, .int .u32 0, .int .u32 0, .string ⟨#[]⟩] = W8 at *
      go_wp2_with fail
      exact bodyPost_ret (v := .tuple #[.agg #[.int .i64 n1, .int .i64 n2, .string ⟨#[]⟩, .int .i64 0, .int .i64 0, .int .i64 0, .int .i64 0, .int .i64 0, .int .u32 0, .int .u32 0, .int .i64 0, .int .i64 0, .int .i64 0, .int .i64 0, .int .i64 0, .int .u32 0, .int .u32 0, .string ⟨#[]⟩], .int .i64 0]) (results_row rfl rfl rfl X8.out.blk Try.underlying36 rfl (by kernel_rfl)) rfl ⟨by rw [HE.out]; rfl, Keep2.below K8.out (Below.refl w.heap.size w) HT.out HT.out (Nat.le_refl _)⟩
    | false =>
      have HE := Aside0.mk (HO.out.trans (if_neg (by simp)))
      repeat ((fail_if_success (show Oper.wp _ (Oper.mk none (Op.store _ _ _) _ _ _ _) _ _ _ _)); (first | go_values | go_skip | go_guarded | go_step | go_upon | go_back))
      refine wp_store_row (c' := #[.int .i64 0, .int .i64 0, .string ⟨#[]⟩, .int .i64 0, .int .i64 0, .int .i64 0, .int .i64 0, .int .i64 0, .int .u32 0, .int .u32 0, .int .i64 0, .int .i64 0, .int .i64 0, .int .i64 0, .int .i64 0, .int .u32 0, .int .u32 0, .string ⟨#[]⟩]) X7.out.blk rfl rfl rfl rfl (by kernel_rfl) rfl (by simp [Value.oneCell']) ?_
      have X8 := Aside0.mk (X7.out.row #[.int .i64 0, .int .i64 0, .string ⟨#[]⟩, .int .i64 0, .int .i64 0, .int .i64 0, .int .i64 0, .int .i64 0, .int .u32 0, .int .u32 0, .int .i64 0, .int .i64 0, .int .i64 0, .int .i64 0, .int .i64 0, .int .u32 0, .int .u32 0, .string ⟨#[]⟩] rfl)
      have Y8 := Aside0.mk (Y7.out.farRow NEYX.out #[.int .i64 0, .int .i64 0, .string ⟨#[]⟩, .int .i64 0, .int .i64 0, .int .i64 0, .int .i64 0, .int .i64 0, .int .u32 0, .int .u32 0, .int .i64 0, .int .i64 0, .int .i64 0, .int .i64 0, .int .i64 0, .int .u32 0, .int .u32 0, .string ⟨#[]⟩] : Mine _ (W7.setRow w.heap.size #[.int .i64 0, .int .i64 0, .string ⟨#[]⟩, .int .i64 0, .int .i64 0, .int .i64 0, .int .i64 0, .int .i64 0, .int .u32 0, .int .u32 0, .int .i64 0, .int .i64 0, .int .i64 0, .int .i64 0, .int .i64 0, .int .u32 0, .int .u32 0, .string ⟨#[]⟩]) _ _ _ _ _)
      have T8 := Aside0.mk (T7.out.farRow X7.out #[.int .i64 0, .int .i64 0, .string ⟨#[]⟩, .int .i64 0, .int .i64 0, .int .i64 0, .int .i64 0, .int .i64 0, .int .u32 0, .int .u32 0, .int .i64 0, .int .i64 0, .int .i64 0, .int .i64 0, .int .i64 0, .int .u32 0, .int .u32 0, .string ⟨#[]⟩])
      have K8 := Aside0.mk (K7.out.mineRow X7.out #[.int .i64 0, .int .i64 0, .string ⟨#[]⟩, .int .i64 0, .int .i64 0, .int .i64 0, .int .i64 0, .int .i64 0, .int .u32 0, .int .u32 0, .int .i64 0, .int .i64 0, .int .i64 0, .int .i64 0, .int .i64 0, .int .u32 0, .int .u32 0, .string ⟨#[]⟩])
      clear T7 K7 X7 Y7
      generalize W7.setRow w.heap.size #[.int .i64 0, .int .i64 0, .string ⟨#[]⟩, .int .i64 0, .int .i64 0, .int .i64 0, .int .i64 0, .int .i64 0, .int .u32 0, .int .u32 0, .int .i64 0, .int .i64 0, .int .i64 0, .int .i64 0, .int .i64 0, .int .u32 0, .int .u32 0, .string ⟨#[]⟩] = W8 at *
      go_wp2_with fail
      exact bodyPost_ret (v := .tuple #[.agg #[.int .i64 0, .int .i64 0, .string ⟨#[]⟩, .int .i64 0, .int .i64 0, .int .i64 0, .int .i64 0, .int .i64 0, .int .u32 0, .int .u32 0, .int .i64 0, .int .i64 0, .int .i64 0, .int .i64 0, .int .i64 0, .int .u32 0, .int .u32 0, .string ⟨#[]⟩], .int .i64 171]) (results_row rfl rfl rfl X8.out.blk Try.underlying36 rfl (by kernel_rfl)) rfl ⟨by rw [HE.out]; rfl, Keep2.below K8.out (Below.refl w.heap.size w) HT.out HT.out (Nat.le_refl _)⟩
set_option maxHeartbeats 4000000 in
theorem refdec_1 (A : Option Addr) (c : Nat) (l : List Int) (w : World) (hC : Kd.C (Kd.int .u8) w A l.length l) (hc : l.length ≤ c) (hl : l.length < 140737488355328) (hby : bytes l) (n1 : Int) (m1 : Mc) (q1 : numM 9 (⟨l, false⟩) = (n1, m1)) (n2 : Int) (m2 : Mc) (q2 : numM 255 m1 = (n2, m2)) (n3 : ByteArray) (m3 : Mc) (q3 : textM 40 m2 = (n3, m3)) (hp : partK n1 = 1) (wb rb : Bool) (hB : (!m3.bad && m3.rest.isEmpty) = wb) (hrb : rightQ ⟨n1, n2, n3, 0, zRu, 0, 0, 0, 0, 0, 0, ⟨#[]⟩⟩ = rb) (OUT : Rq × Int) (hO : OUT = if (wb && rb) = true then (⟨n1, n2, n3, 0, zRu, 0, 0, 0, 0, 0, 0, ⟨#[]⟩⟩, 0) else (zRq, 171)) :
    Calls Try.prog 13 #[.slice A l.length c] w fun e w' => e = .returned (.tuple #[.agg (rqVals OUT.1).toArray, .int .i64 OUT.2]) ∧ Below w.heap.size w w' := by
  have HO := Aside0.mk hO
  clear hO
  have hb0 : bytes (Mc.mk l false).rest := hby
  have hd1 := numM_bound 9 ⟨l, false⟩ hb0 (by decide)
  have hb1 := numM_bytes 9 ⟨l, false⟩ hb0
  rw [q1] at hd1 hb1
  simp only [] at hd1 hb1
  have C1 := Aside0.mk (fun (t : Nat) (W : World) (k : RT W t (⟨l, false⟩)) => refN_any t ⟨l, false⟩ 9 (by decide) (by decide) W k)
  rw [q1] at C1
  simp only [] at C1
  have hd2 := numM_bound 255 m1 hb1 (by decide)
  have hb2 := numM_bytes 255 m1 hb1
  rw [q2] at hd2 hb2
  simp only [] at hd2 hb2
  have C2 := Aside0.mk (fun (t : Nat) (W : World) (k : RT W t (m1)) => refN_any t m1 255 (by decide) (by decide) W k)
  rw [q2] at C2
  simp only [] at C2
  have hb3 := textM_bytes 40 m2 hb2
  rw [q3] at hb3
  simp only [] at hb3
  have C3 := Aside0.mk (fun (t : Nat) (W : World) (k : RT W t (m2)) => refT_any t m2 W k)
  rw [q3] at C3
  simp only [] at C3
  have CR := Aside0.mk (fun W => refright_any ⟨n1, n2, n3, 0, zRu, 0, 0, 0, 0, 0, 0, ⟨#[]⟩⟩ ⟨okRu0, ok0, ok0⟩ W)
  rw [hrb] at CR
  unfold zRu at CR
  simp only [] at CR
  have CP := Aside0.mk (fun W => part_any n1 W)
  rw [hp] at CP
  clear hb0 hb1 hb2 hb3 hd1 hd2 q1 q2 q3 hrb
  have hC0 := Aside0.mk hC
  clear hC
  go_enter Try.func13, Try.ntmps13
  have hbn := Aside0.mk ((Below.refl w.heap.size w).alloc (Nat.le_refl _) (.cells #[.int .i64 0, .int .i64 0, .string ⟨#[]⟩, .int .i64 0, .int .i64 0, .int .i64 0, .int .i64 0, .int .i64 0, .int .u32 0, .int .u32 0, .int .i64 0, .int .i64 0, .int .i64 0, .int .i64 0, .int .i64 0, .int .u32 0, .int .u32 0, .string ⟨#[]⟩] 36))
  have hbl := Aside0.mk (blk_new w (.cells #[.int .i64 0, .int .i64 0, .string ⟨#[]⟩, .int .i64 0, .int .i64 0, .int .i64 0, .int .i64 0, .int .i64 0, .int .u32 0, .int .u32 0, .int .i64 0, .int .i64 0, .int .i64 0, .int .i64 0, .int .i64 0, .int .u32 0, .int .u32 0, .string ⟨#[]⟩] 36))
  try dsimp only
  repeat ((fail_if_success (show Code.wp _ (Code.seq (Code.region 1 _ _) _) _ _ _)); (first | go_values | go_skip | go_guarded | go_step | go_upon | go_back))
  have hC1 := Aside0.mk (Kd.C_below hC0.out ((Below.refl w.heap.size w).alloc (Nat.le_refl _) (.cells #[.int .i64 0, .int .i64 0, .string ⟨#[]⟩, .int .i64 0, .int .i64 0, .int .i64 0, .int .i64 0, .int .i64 0, .int .u32 0, .int .u32 0, .int .i64 0, .int .i64 0, .int .i64 0, .int .i64 0, .int .i64 0, .int .u32 0, .int .u32 0, .string ⟨#[]⟩] 36)))
  have hs := Aside0.mk (show w.heap.size < (w.alloc (.cells #[.int .i64 0, .int .i64 0, .string ⟨#[]⟩, .int .i64 0, .int .i64 0, .int .i64 0, .int .i64 0, .int .i64 0, .int .u32 0, .int .u32 0, .int .i64 0, .int .i64 0, .int .i64 0, .int .i64 0, .int .i64 0, .int .u32 0, .int .u32 0, .string ⟨#[]⟩] 36)).heap.size from by simp)
  clear hC0
  generalize (w.alloc (.cells #[.int .i64 0, .int .i64 0, .string ⟨#[]⟩, .int .i64 0, .int .i64 0, .int .i64 0, .int .i64 0, .int .i64 0, .int .u32 0, .int .u32 0, .int .i64 0, .int .i64 0, .int .i64 0, .int .i64 0, .int .i64 0, .int .u32 0, .int .u32 0, .string ⟨#[]⟩] 36)) = V0 at *
  try dsimp only
  repeat ((fail_if_success (show Code.wp _ (Code.seq (Code.region 2 _ _) _) _ _ _)); (first | go_values | go_skip | go_guarded | go_step | go_upon | go_back))
  have s0 := hs.out
  have hbm := (Below.refl V0.heap.size V0).alloc (Nat.le_refl _) (.cells #[.slice A l.length c, .int .i64 0, .bool false] 84)
  have T0 := Aside0.mk (show RT (V0.alloc (.cells #[.slice A l.length c, .int .i64 0, .bool false] 84)) V0.heap.size ⟨l, false⟩ from ⟨A, c, l, 0, ⟨blk_new V0 _, Nat.zero_le _, hc, Kd.C_below hC1.out hbm⟩, rfl, hby, BL_of hC1.out⟩)
  have X0 := Aside0.mk (show Mine w (V0.alloc (.cells #[.slice A l.length c, .int .i64 0, .bool false] 84)) V0.heap.size V0.heap.size w.heap.size #[.int .i64 0, .int .i64 0, .string ⟨#[]⟩, .int .i64 0, .int .i64 0, .int .i64 0, .int .i64 0, .int .i64 0, .int .u32 0, .int .u32 0, .int .i64 0, .int .i64 0, .int .i64 0, .int .i64 0, .int .i64 0, .int .u32 0, .int .u32 0, .string ⟨#[]⟩] 36 from ⟨blk_below hbl.out hbm, Nat.le_refl _, rfl, by omega, by omega⟩)
  have K0 := Aside0.mk (show Keep2 V0.heap.size V0.heap.size w (V0.alloc (.cells #[.slice A l.length c, .int .i64 0, .bool false] 84)) from Keep2.of (hbn.out.trans (hbm.mono (by omega))))
  have HT := Aside0.mk (show w.heap.size ≤ V0.heap.size from by omega)
  clear hbm hbl hbn hC1 hs s0 hby
  generalize V0.alloc (.cells #[.slice A l.length c, .int .i64 0, .bool false] 84) = W0 at *
  generalize V0.heap.size = t at *
  replace C1 := Aside0.mk (C1.out t)
  replace C2 := Aside0.mk (C2.out t)
  replace C3 := Aside0.mk (C3.out t)
  go_wp2_with fail
  refine (C1.out _ T0.out).mono ?_
  rintro e W1 ⟨rfl, ht, hk⟩
  have X1 := Aside0.mk (X0.out.keep hk)
  have K1 := Aside0.mk (K0.out.trans hk)
  have T1 := Aside0.mk ht
  clear ht hk C1 T0 K0 X0
  go_wp2_with fail
  refine (C2.out _ T1.out).mono ?_
  rintro e W2 ⟨rfl, ht, hk⟩
  have X2 := Aside0.mk (X1.out.keep hk)
  have K2 := Aside0.mk (K1.out.trans hk)
  have T2 := Aside0.mk ht
  clear ht hk C2 T1 K1 X1
  have hbn := (Below.refl W2.heap.size W2).alloc (Nat.le_refl _) (.cells #[.int .i64 0, .int .i64 0, .string ⟨#[]⟩, .int .i64 0, .int .i64 0, .int .i64 0, .int .i64 0, .int .i64 0, .int .u32 0, .int .u32 0, .int .i64 0, .int .i64 0, .int .i64 0, .int .i64 0, .int .i64 0, .int .u32 0, .int .u32 0, .string ⟨#[]⟩] 36)
  have Y3 := Aside0.mk (mine_new K2.out T2.out.lt #[.int .i64 0, .int .i64 0, .string ⟨#[]⟩, .int .i64 0, .int .i64 0, .int .i64 0, .int .i64 0, .int .i64 0, .int .u32 0, .int .u32 0, .int .i64 0, .int .i64 0, .int .i64 0, .int .i64 0, .int .i64 0, .int .u32 0, .int .u32 0, .string ⟨#[]⟩] 36 rfl)
  have NEYX := Aside0.mk (show W2.heap.size ≠ w.heap.size from by have := blk_lt X2.out.blk; omega)
  have X3 := Aside0.mk (X2.out.below hbn)
  have T3 := Aside0.mk (T2.out.below hbn)
  have K3 := Aside0.mk (K2.out.alloc (.cells #[.int .i64 0, .int .i64 0, .string ⟨#[]⟩, .int .i64 0, .int .i64 0, .int .i64 0, .int .i64 0, .int .i64 0, .int .u32 0, .int .u32 0, .int .i64 0, .int .i64 0, .int .i64 0, .int .i64 0, .int .i64 0, .int .u32 0, .int .u32 0, .string ⟨#[]⟩] 36))
  clear hbn T2 K2 X2
  try dsimp only
  repeat ((fail_if_success (show Oper.wp _ (Oper.mk none (Op.store _ _ _) _ _ _ _) _ _ _ _)); (first | go_values | go_skip | go_guarded | go_step | go_upon | go_back))
  generalize (W2.alloc (.cells #[.int .i64 0, .int .i64 0, .string ⟨#[]⟩, .int .i64 0, .int .i64 0, .int .i64 0, .int .i64 0, .int .i64 0, .int .u32 0, .int .u32 0, .int .i64 0, .int .i64 0, .int .i64 0, .int .i64 0, .int .i64 0, .int .u32 0, .int .u32 0, .string ⟨#[]⟩] 36)) = W3 at *
  generalize W2.heap.size = b1 at *
  refine wp_store_row (c' := #[.int .i64 n1, .int .i64 n2, .string ⟨#[]⟩, .int .i64 0, .int .i64 0, .int .i64 0, .int .i64 0, .int .i64 0, .int .u32 0, .int .u32 0, .int .i64 0, .int .i64 0, .int .i64 0, .int .i64 0, .int .i64 0, .int .u32 0, .int .u32 0, .string ⟨#[]⟩]) Y3.out.blk rfl rfl rfl rfl (by kernel_rfl) rfl (by simp [Value.oneCell']) ?_
  have Y4 := Aside0.mk (Y3.out.row #[.int .i64 n1, .int .i64 n2, .string ⟨#[]⟩, .int .i64 0, .int .i64 0, .int .i64 0, .int .i64 0, .int .i64 0, .int .u32 0, .int .u32 0, .int .i64 0, .int .i64 0, .int .i64 0, .int .i64 0, .int .i64 0, .int .u32 0, .int .u32 0, .string ⟨#[]⟩] rfl)
  have X4 := Aside0.mk (X3.out.farRow (fun e => NEYX.out e.symm) #[.int .i64 n1, .int .i64 n2, .string ⟨#[]⟩, .int .i64 0, .int .i64 0, .int .i64 0, .int .i64 0, .int .i64 0, .int .u32 0, .int .u32 0, .int .i64 0, .int .i64 0, .int .i64 0, .int .i64 0, .int .i64 0, .int .u32 0, .int .u32 0, .string ⟨#[]⟩] : Mine _ (W3.setRow b1 #[.int .i64 n1, .int .i64 n2, .string ⟨#[]⟩, .int .i64 0, .int .i64 0, .int .i64 0, .int .i64 0, .int .i64 0, .int .u32 0, .int .u32 0, .int .i64 0, .int .i64 0, .int .i64 0, .int .i64 0, .int .i64 0, .int .u32 0, .int .u32 0, .string ⟨#[]⟩]) _ _ _ _ _)
  have T4 := Aside0.mk (T3.out.farRow Y3.out #[.int .i64 n1, .int .i64 n2, .string ⟨#[]⟩, .int .i64 0, .int .i64 0, .int .i64 0, .int .i64 0, .int .i64 0, .int .u32 0, .int .u32 0, .int .i64 0, .int .i64 0, .int .i64 0, .int .i64 0, .int .i64 0, .int .u32 0, .int .u32 0, .string ⟨#[]⟩])
  have K4 := Aside0.mk (K3.out.mineRow Y3.out #[.int .i64 n1, .int .i64 n2, .string ⟨#[]⟩, .int .i64 0, .int .i64 0, .int .i64 0, .int .i64 0, .int .i64 0, .int .u32 0, .int .u32 0, .int .i64 0, .int .i64 0, .int .i64 0, .int .i64 0, .int .i64 0, .int .u32 0, .int .u32 0, .string ⟨#[]⟩])
  clear T3 K3 X3 Y3
  generalize W3.setRow b1 #[.int .i64 n1, .int .i64 n2, .string ⟨#[]⟩, .int .i64 0, .int .i64 0, .int .i64 0, .int .i64 0, .int .i64 0, .int .u32 0, .int .u32 0, .int .i64 0, .int .i64 0, .int .i64 0, .int .i64 0, .int .i64 0, .int .u32 0, .int .u32 0, .string ⟨#[]⟩] = W4 at *
  try dsimp only
  repeat ((fail_if_success (show Code.wp _ (Code.seq (Code.region 3 _ _) _) _ _ _)); (first | go_values | go_skip | go_guarded | go_step | go_upon | go_back))
  have k0 := blk_cell Y4.out.blk 0
  have f0 := blk_frozen Y4.out.blk 0
  go_wp2_with fail
  refine (CP.out W4).mono ?_
  rintro e W5 ⟨rfl, hb⟩
  have X5 := Aside0.mk (X4.out.below hb)
  have Y5 := Aside0.mk (Y4.out.below hb)
  have K5 := Aside0.mk (K4.out.trans (Keep2.of hb))
  have T5 := Aside0.mk (T4.out.below hb)
  clear hb T4 K4 X4 Y4
  clear k0 f0 CP
  go_wp2_with fail
  refine (C3.out _ T5.out).mono ?_
  rintro e W6 ⟨rfl, ht, hk⟩
  have X6 := Aside0.mk (X5.out.keep hk)
  have Y6 := Aside0.mk (Y5.out.keep hk)
  have K6 := Aside0.mk (K5.out.trans hk)
  have T6 := Aside0.mk ht
  clear ht hk C3 T5 K5 X5 Y5
  have k2 := blk_cell Y6.out.blk 2
  have f2 := blk_frozen Y6.out.blk 2
  try dsimp only
  repeat ((fail_if_success (show Code.wp _ (Code.seq (Code.region 17 _ _) _) _ _ _)); (first | go_values | go_skip | go_guarded | go_step | go_upon | go_back))
  have Y7 := Aside0.mk (Y6.out.put 2 (.string n3) rfl #[.int .i64 n1, .int .i64 n2, .string n3, .int .i64 0, .int .i64 0, .int .i64 0, .int .i64 0, .int .i64 0, .int .u32 0, .int .u32 0, .int .i64 0, .int .i64 0, .int .i64 0, .int .i64 0, .int .i64 0, .int .u32 0, .int .u32 0, .string ⟨#[]⟩] (by simp) rfl)
  have X7 := Aside0.mk (X6.out.far (fun e => NEYX.out e.symm) 2 (.string n3) : Mine _ (W6.setCell ⟨b1, 2, none⟩ (.string n3)) _ _ _ _ _)
  have T7 := Aside0.mk (T6.out.far Y6.out 2 (.string n3))
  have K7 := Aside0.mk (K6.out.mine Y6.out 2 (.string n3))
  clear T6 K6 X6 Y6
  generalize (W6.setCell ⟨b1, 2, none⟩ (.string n3)) = W7 at *
  clear k2 f2
  have CW := Aside0.mk (whole_any t m3 W7 T7.out)
  rw [hB] at CW
  clear hB
  go_wp2_with fail
  refine (CW.out).mono ?_
  rintro e W8 ⟨rfl, hb⟩
  have X8 := Aside0.mk (X7.out.below hb)
  have Y8 := Aside0.mk (Y7.out.below hb)
  have K8 := Aside0.mk (K7.out.trans (Keep2.of hb))
  have T8 := Aside0.mk (T7.out.below hb)
  clear hb T7 K7 X7 Y7
  clear CW
  try dsimp only
  repeat ((fail_if_success (show Oper.wp _ (Oper.mk _ (Op.load 36 _) _ _ _ _) _ _ _ _)); (first | go_values | go_skip | go_guarded | go_step | go_upon | go_back))
  refine wp_load_row Y8.out.blk rfl rfl Try.underlying36 rfl (by kernel_rfl) ?_
  try go_simp
  go_wp2_with fail
  refine (CR.out W8).mono ?_
  rintro e W9 ⟨rfl, hb⟩
  have X9 := Aside0.mk (X8.out.below hb)
  have Y9 := Aside0.mk (Y8.out.below hb)
  have K9 := Aside0.mk (K8.out.trans (Keep2.of hb))
  have T9 := Aside0.mk (T8.out.below hb)
  clear hb T8 K8 X8 Y8
  clear CR
  try dsimp only
  cases wb with
  | false =>
    have HE := Aside0.mk (HO.out.trans (if_neg (by simp)))
    repeat ((fail_if_success (show Oper.wp _ (Oper.mk none (Op.store _ _ _) _ _ _ _) _ _ _ _)); (first | go_values | go_skip | go_guarded | go_step | go_upon | go_back))
    refine wp_store_row (c' := #[.int .i64 0, .int .i64 0, .string ⟨#[]⟩, .int .i64 0, .int .i64 0, .int .i64 0, .int .i64 0, .int .i64 0, .int .u32 0, .int .u32 0, .int .i64 0, .int .i64 0, .int .i64 0, .int .i64 0, .int .i64 0, .int .u32 0, .int .u32 0, .string ⟨#[]⟩]) X9.out.blk rfl rfl rfl rfl (by kernel_rfl) rfl (by simp [Value.oneCell']) ?_
    have X10 := Aside0.mk (X9.out.row #[.int .i64 0, .int .i64 0, .string ⟨#[]⟩, .int .i64 0, .int .i64 0, .int .i64 0, .int .i64 0, .int .i64 0, .int .u32 0, .int .u32 0, .int .i64 0, .int .i64 0, .int .i64 0, .int .i64 0, .int .i64 0, .int .u32 0, .int .u32 0, .string ⟨#[]⟩] rfl)
    have Y10 := Aside0.mk (Y9.out.farRow NEYX.out #[.int .i64 0, .int .i64 0, .string ⟨#[]⟩, .int .i64 0, .int .i64 0, .int .i64 0, .int .i64 0, .int .i64 0, .int .u32 0, .int .u32 0, .int .i64 0, .int .i64 0, .int .i64 0, .int .i64 0, .int .i64 0, .int .u32 0, .int .u32 0, .string ⟨#[]⟩] : Mine _ (W9.setRow w.heap.size #[.int .i64 0, .int .i64 0, .string ⟨#[]⟩, .int .i64 0, .int .i64 0, .int .i64 0, .int .i64 0, .int .i64 0, .int .u32 0, .int .u32 0, .int .i64 0, .int .i64 0, .int .i64 0, .int .i64 0, .int .i64 0, .int .u32 0, .int .u32 0, .string ⟨#[]⟩]) _ _ _ _ _)
    have T10 := Aside0.mk (T9.out.farRow X9.out #[.int .i64 0, .int .i64 0, .string ⟨#[]⟩, .int .i64 0, .int .i64 0, .int .i64 0, .int .i64 0, .int .i64 0, .int .u32 0, .int .u32 0, .int .i64 0, .int .i64 0, .int .i64 0, .int .i64 0, .int .i64 0, .int .u32 0, .int .u32 0, .string ⟨#[]⟩])
    have K10 := Aside0.mk (K9.out.mineRow X9.out #[.int .i64 0, .int .i64 0, .string ⟨#[]⟩, .int .i64 0, .int .i64 0, .int .i64 0, .int .i64 0, .int .i64 0, .int .u32 0, .int .u32 0, .int .i64 0, .int .i64 0, .int .i64 0, .int .i64 0, .int .i64 0, .int .u32 0, .int .u32 0, .string ⟨#[]⟩])
    clear T9 K9 X9 Y9
    generalize W9.setRow w.heap.size #[.int .i64 0, .int .i64 0, .string ⟨#[]⟩, .int .i64 0, .int .i64 0, .int .i64 0, .int .i64 0, .int .i64 0, .int .u32 0, .int .u32 0, .int .i64 0, .int .i64 0, .int .i64 0, .int .i64 0, .int .i64 0, .int .u32 0, .int .u32 0, .string ⟨#[]⟩] = W10 at *
    go_wp2_with fail
    exact bodyPost_ret (v := .tuple #[.agg #[.int .i64 0, .int .i64 0, .string ⟨#[]⟩, .int .i64 0, .int .i64 0, .int .i64 0, .int .i64 0, .int .i64 0, .int .u32 0, .int .u32 0, .int .i64 0, .int .i64 0, .int .i64 0, .int .i64 0, .int .i64 0, .int .u32 0, .int .u32 0, .string ⟨#[]⟩], .int .i64 171]) (results_row rfl rfl rfl X10.out.blk Try.underlying36 rfl (by kernel_rfl)) rfl ⟨by rw [HE.out]; rfl, Keep2.below K10.out (Below.refl w.heap.size w) HT.out HT.out (Nat.le_refl _)⟩
  | true =>
    cases rb with
    | true =>
      have HE := Aside0.mk (HO.out.trans (if_pos rfl))
      repeat ((fail_if_success (show Oper.wp _ (Oper.mk _ (Op.load 36 _) _ _ _ _) _ _ _ _)); (first | go_values | go_skip | go_guarded | go_step | go_upon | go_back))
      refine wp_load_row Y9.out.blk rfl rfl Try.underlying36 rfl (by kernel_rfl) ?_
      try go_simp
      try dsimp only
      repeat ((fail_if_success (show Oper.wp _ (Oper.mk none (Op.store _ _ _) _ _ _ _) _ _ _ _)); (first | go_values | go_skip | go_guarded | go_step | go_upon | go_back))
      refine wp_store_row (c' := #[.int .i64 n1, .int .i64 n2, .string n3, .int .i64 0, .int .i64 0, .int .i64 0, .int .i64 0, .int .i64 0, .int .u32 0, .int .u32 0, .int .i64 0, .int .i64 0, .int .i64 0, .int .i64 0, .int .i64 0, .int .u32 0, .int .u32 0, .string ⟨#[]⟩]) X9.out.blk rfl rfl rfl rfl (by kernel_rfl) rfl (by simp [Value.oneCell']) ?_
      have X10 := Aside0.mk (X9.out.row #[.int .i64 n1, .int .i64 n2, .string n3, .int .i64 0, .int .i64 0, .int .i64 0, .int .i64 0, .int .i64 0, .int .u32 0, .int .u32 0, .int .i64 0, .int .i64 0, .int .i64 0, .int .i64 0, .int .i64 0, .int .u32 0, .int .u32 0, .string ⟨#[]⟩] rfl)
      have Y10 := Aside0.mk (Y9.out.farRow NEYX.out #[.int .i64 n1, .int .i64 n2, .string n3, .int .i64 0, .int .i64 0, .int .i64 0, .int .i64 0, .int .i64 0, .int .u32 0, .int .u32 0, .int .i64 0, .int .i64 0, .int .i64 0, .int .i64 0, .int .i64 0, .int .u32 0, .int .u32 0, .string ⟨#[]⟩] : Mine _ (W9.setRow w.heap.size #[.int .i64 n1, .int .i64 n2, .string n3, .int .i64 0, .int .i64 0, .int .i64 0, .int .i64 0, .int .i64 0, .int .u32 0, .int .u32 0, .int .i64 0, .int .i64 0, .int .i64 0, .int .i64 0, .int .i64 0, .int .u32 0, .int .u32 0, .string ⟨#[]⟩]) _ _ _ _ _)
      have T10 := Aside0.mk (T9.out.farRow X9.out #[.int .i64 n1, .int .i64 n2, .string n3, .int .i64 0, .int .i64 0, .int .i64 0, .int .i64 0, .int .i64 0, .int .u32 0, .int .u32 0, .int .i64 0, .int .i64 0, .int .i64 0, .int .i64 0, .int .i64 0, .int .u32 0, .int .u32 0, .string ⟨#[]⟩])
      have K10 := Aside0.mk (K9.out.mineRow X9.out #[.int .i64 n1, .int .i64 n2, .string n3, .int .i64 0, .int .i64 0, .int .i64 0, .int .i64 0, .int .i64 0, .int .u32 0, .int .u32 0, .int .i64 0, .int .i64 0, .int .i64 0, .int .i64 0, .int .i64 0, .int .u32 0, .int .u32 0, .string ⟨#[]⟩])
      clear T9 K9 X9 Y9
      generalize W9.setRow w.heap.size #[.int .i64 n1, .int .i64 n2, .string n3, .int .i64 0, .int .i64 0, .int .i64 0, .int .i64 0, .int .i64 0, .int .u32 0, .int .u32 0, .int .i64 0, .int .i64 0, .int .i64 0, .int .i64 0, .int .i64 0, .int .u32 0, .int .u32 0, .string ⟨#[]⟩] = W10 at *
      go_wp2_with fail
      exact bodyPost_ret (v := .tuple #[.agg #[.int .i64 n1, .int .i64 n2, .string n3, .int .i64 0, .int .i64 0, .int .i64 0, .int .i64 0, .int .i64 0, .int .u32 0, .int .u32 0, .int .i64 0, .int .i64 0, .int .i64 0, .int .i64 0, .int .i64 0, .int .u32 0, .int .u32 0, .string ⟨#[]⟩], .int .i64 0]) (results_row rfl rfl rfl X10.out.blk Try.underlying36 rfl (by kernel_rfl)) rfl ⟨by rw [HE.out]; rfl, Keep2.below K10.out (Below.refl w.heap.size w) HT.out HT.out (Nat.le_refl _)⟩
    | false =>
      have HE := Aside0.mk (HO.out.trans (if_neg (by simp)))
      repeat ((fail_if_success (show Oper.wp _ (Oper.mk none (Op.store _ _ _) _ _ _ _) _ _ _ _)); (first | go_values | go_skip | go_guarded | go_step | go_upon | go_back))
      refine wp_store_row (c' := #[.int .i64 0, .int .i64 0, .string ⟨#[]⟩, .int .i64 0, .int .i64 0, .int .i64 0, .int .i64 0, .int .i64 0, .int .u32 0, .int .u32 0, .int .i64 0, .int .i64 0, .int .i64 0, .int .i64 0, .int .i64 0, .int .u32 0, .int .u32 0, .string ⟨#[]⟩]) X9.out.blk rfl rfl rfl rfl (by kernel_rfl) rfl (by simp [Value.oneCell']) ?_
      have X10 := Aside0.mk (X9.out.row #[.int .i64 0, .int .i64 0, .string ⟨#[]⟩, .int .i64 0, .int .i64 0, .int .i64 0, .int .i64 0, .int .i64 0, .int .u32 0, .int .u32 0, .int .i64 0, .int .i64 0, .int .i64 0, .int .i64 0, .int .i64 0, .int .u32 0, .int .u32 0, .string ⟨#[]⟩] rfl)
      have Y10 := Aside0.mk (Y9.out.farRow NEYX.out #[.int .i64 0, .int .i64 0, .string ⟨#[]⟩, .int .i64 0, .int .i64 0, .int .i64 0, .int .i64 0, .int .i64 0, .int .u32 0, .int .u32 0, .int .i64 0, .int .i64 0, .int .i64 0, .int .i64 0, .int .i64 0, .int .u32 0, .int .u32 0, .string ⟨#[]⟩] : Mine _ (W9.setRow w.heap.size #[.int .i64 0, .int .i64 0, .string ⟨#[]⟩, .int .i64 0, .int .i64 0, .int .i64 0, .int .i64 0, .int .i64 0, .int .u32 0, .int .u32 0, .int .i64 0, .int .i64 0, .int .i64 0, .int .i64 0, .int .i64 0, .int .u32 0, .int .u32 0, .string ⟨#[]⟩]) _ _ _ _ _)
      have T10 := Aside0.mk (T9.out.farRow X9.out #[.int .i64 0, .int .i64 0, .string ⟨#[]⟩, .int .i64 0, .int .i64 0, .int .i64 0, .int .i64 0, .int .i64 0, .int .u32 0, .int .u32 0, .int .i64 0, .int .i64 0, .int .i64 0, .int .i64 0, .int .i64 0, .int .u32 0, .int .u32 0, .string ⟨#[]⟩])
      have K10 := Aside0.mk (K9.out.mineRow X9.out #[.int .i64 0, .int .i64 0, .string ⟨#[]⟩, .int .i64 0, .int .i64 0, .int .i64 0, .int .i64 0, .int .i64 0, .int .u32 0, .int .u32 0, .int .i64 0, .int .i64 0, .int .i64 0, .int .i64 0, .int .i64 0, .int .u32 0, .int .u32 0, .string ⟨#[]⟩])
      clear T9 K9 X9 Y9
      generalize W9.setRow w.heap.size #[.int .i64 0, .int .i64 0, .string ⟨#[]⟩, .int .i64 0, .int .i64 0, .int .i64 0, .int .i64 0, .int .i64 0, .int .u32 0, .int .u32 0, .int .i64 0, .int .i64 0, .int .i64 0, .int .i64 0, .int .i64 0, .int .u32 0, .int .u32 0, .string ⟨#[]⟩] = W10 at *
      go_wp2_with fail
      exact bodyPost_ret (v := .tuple #[.agg #[.int .i64 0, .int .i64 0, .string ⟨#[]⟩, .int .i64 0, .int .i64 0, .int .i64 0, .int .i64 0, .int .i64 0, .int .u32 0, .int .u32 0, .int .i64 0, .int .i64 0, .int .i64 0, .int .i64 0, .int .i64 0, .int .u32 0, .int .u32 0, .string ⟨#[]⟩], .int .i64 171]) (results_row rfl rfl rfl X10.out.blk Try.underlying36 rfl (by kernel_rfl)) rfl ⟨by rw [HE.out]; rfl, Keep2.below K10.out (Below.refl w.heap.size w) HT.out HT.out (Nat.le_refl _)⟩
set_option maxHeartbeats 4000000 in
theorem refdec_2 (A : Option Addr) (c : Nat) (l : List Int) (w : World) (hC : Kd.C (Kd.int .u8) w A l.length l) (hc : l.length ≤ c) (hl : l.length < 140737488355328) (hby : bytes l) (n1 : Int) (m1 : Mc) (q1 : numM 9 (⟨l, false⟩) = (n1, m1)) (n2 : Int) (m2 : Mc) (q2 : numM 255 m1 = (n2, m2)) (n3 : Int) (m3 : Mc) (q3 : numM 255 m2 = (n3, m3)) (n4 : Ru) (m4 : Mc) (q4 : ruleM m3 = (n4, m4)) (hp : partK n1 = 2) (wb rb : Bool) (hB : (!m4.bad && m4.rest.isEmpty) = wb) (hrb : rightQ ⟨n1, n2, ⟨#[]⟩, n3, n4, 0, 0, 0, 0, 0, 0, ⟨#[]⟩⟩ = rb) (OUT : Rq × Int) (hO : OUT = if (wb && rb) = true then (⟨n1, n2, ⟨#[]⟩, n3, n4, 0, 0, 0, 0, 0, 0, ⟨#[]⟩⟩, 0) else (zRq, 171)) :
    Calls Try.prog 13 #[.slice A l.length c] w fun e w' => e = .returned (.tuple #[.agg (rqVals OUT.1).toArray, .int .i64 OUT.2]) ∧ Below w.heap.size w w' := by
  have HO := Aside0.mk hO
  clear hO
  have hb0 : bytes (Mc.mk l false).rest := hby
  have hd1 := numM_bound 9 ⟨l, false⟩ hb0 (by decide)
  have hb1 := numM_bytes 9 ⟨l, false⟩ hb0
  rw [q1] at hd1 hb1
  simp only [] at hd1 hb1
  have C1 := Aside0.mk (fun (t : Nat) (W : World) (k : RT W t (⟨l, false⟩)) => refN_any t ⟨l, false⟩ 9 (by decide) (by decide) W k)
  rw [q1] at C1
  simp only [] at C1
  have hd2 := numM_bound 255 m1 hb1 (by decide)
  have hb2 := numM_bytes 255 m1 hb1
  rw [q2] at hd2 hb2
  simp only [] at hd2 hb2
  have C2 := Aside0.mk (fun (t : Nat) (W : World) (k : RT W t (m1)) => refN_any t m1 255 (by decide) (by decide) W k)
  rw [q2] at C2
  simp only [] at C2
  have hd3 := numM_bound 255 m2 hb2 (by decide)
  have hb3 := numM_bytes 255 m2 hb2
  rw [q3] at hd3 hb3
  simp only [] at hd3 hb3
  have C3 := Aside0.mk (fun (t : Nat) (W : World) (k : RT W t (m2)) => refN_any t m2 255 (by decide) (by decide) W k)
  rw [q3] at C3
  simp only [] at C3
  have hd4 := ruleM_ok m3 hb3
  have hb4 := ruleM_bytes m3 hb3
  rw [q4] at hd4 hb4
  simp only [] at hd4 hb4
  have C4 := Aside0.mk (fun (t : Nat) (W : World) (k : RT W t (m3)) => refrule_any t m3 W k)
  rw [q4] at C4
  simp only [] at C4
  have CR := Aside0.mk (fun W => refright_any ⟨n1, n2, ⟨#[]⟩, n3, n4, 0, 0, 0, 0, 0, 0, ⟨#[]⟩⟩ ⟨hd4, ok0, ok0⟩ W)
  rw [hrb] at CR
  simp only [] at CR
  have CP := Aside0.mk (fun W => part_any n1 W)
  rw [hp] at CP
  clear hb0 hb1 hb2 hb3 hb4 hd1 hd2 hd3 hd4 q1 q2 q3 q4 hrb
  have hC0 := Aside0.mk hC
  clear hC
  go_enter Try.func13, Try.ntmps13
  have hbn := Aside0.mk ((Below.refl w.heap.size w).alloc (Nat.le_refl _) (.cells #[.int .i64 0, .int .i64 0, .string ⟨#[]⟩, .int .i64 0, .int .i64 0, .int .i64 0, .int .i64 0, .int .i64 0, .int .u32 0, .int .u32 0, .int .i64 0, .int .i64 0, .int .i64 0, .int .i64 0, .int .i64 0, .int .u32 0, .int .u32 0, .string ⟨#[]⟩] 36))
  have hbl := Aside0.mk (blk_new w (.cells #[.int .i64 0, .int .i64 0, .string ⟨#[]⟩, .int .i64 0, .int .i64 0, .int .i64 0, .int .i64 0, .int .i64 0, .int .u32 0, .int .u32 0, .int .i64 0, .int .i64 0, .int .i64 0, .int .i64 0, .int .i64 0, .int .u32 0, .int .u32 0, .string ⟨#[]⟩] 36))
  try dsimp only
  repeat ((fail_if_success (show Code.wp _ (Code.seq (Code.region 1 _ _) _) _ _ _)); (first | go_values | go_skip | go_guarded | go_step | go_upon | go_back))
  have hC1 := Aside0.mk (Kd.C_below hC0.out ((Below.refl w.heap.size w).alloc (Nat.le_refl _) (.cells #[.int .i64 0, .int .i64 0, .string ⟨#[]⟩, .int .i64 0, .int .i64 0, .int .i64 0, .int .i64 0, .int .i64 0, .int .u32 0, .int .u32 0, .int .i64 0, .int .i64 0, .int .i64 0, .int .i64 0, .int .i64 0, .int .u32 0, .int .u32 0, .string ⟨#[]⟩] 36)))
  have hs := Aside0.mk (show w.heap.size < (w.alloc (.cells #[.int .i64 0, .int .i64 0, .string ⟨#[]⟩, .int .i64 0, .int .i64 0, .int .i64 0, .int .i64 0, .int .i64 0, .int .u32 0, .int .u32 0, .int .i64 0, .int .i64 0, .int .i64 0, .int .i64 0, .int .i64 0, .int .u32 0, .int .u32 0, .string ⟨#[]⟩] 36)).heap.size from by simp)
  clear hC0
  generalize (w.alloc (.cells #[.int .i64 0, .int .i64 0, .string ⟨#[]⟩, .int .i64 0, .int .i64 0, .int .i64 0, .int .i64 0, .int .i64 0, .int .u32 0, .int .u32 0, .int .i64 0, .int .i64 0, .int .i64 0, .int .i64 0, .int .i64 0, .int .u32 0, .int .u32 0, .string ⟨#[]⟩] 36)) = V0 at *
  try dsimp only
  repeat ((fail_if_success (show Code.wp _ (Code.seq (Code.region 2 _ _) _) _ _ _)); (first | go_values | go_skip | go_guarded | go_step | go_upon | go_back))
  have s0 := hs.out
  have hbm := (Below.refl V0.heap.size V0).alloc (Nat.le_refl _) (.cells #[.slice A l.length c, .int .i64 0, .bool false] 84)
  have T0 := Aside0.mk (show RT (V0.alloc (.cells #[.slice A l.length c, .int .i64 0, .bool false] 84)) V0.heap.size ⟨l, false⟩ from ⟨A, c, l, 0, ⟨blk_new V0 _, Nat.zero_le _, hc, Kd.C_below hC1.out hbm⟩, rfl, hby, BL_of hC1.out⟩)
  have X0 := Aside0.mk (show Mine w (V0.alloc (.cells #[.slice A l.length c, .int .i64 0, .bool false] 84)) V0.heap.size V0.heap.size w.heap.size #[.int .i64 0, .int .i64 0, .string ⟨#[]⟩, .int .i64 0, .int .i64 0, .int .i64 0, .int .i64 0, .int .i64 0, .int .u32 0, .int .u32 0, .int .i64 0, .int .i64 0, .int .i64 0, .int .i64 0, .int .i64 0, .int .u32 0, .int .u32 0, .string ⟨#[]⟩] 36 from ⟨blk_below hbl.out hbm, Nat.le_refl _, rfl, by omega, by omega⟩)
  have K0 := Aside0.mk (show Keep2 V0.heap.size V0.heap.size w (V0.alloc (.cells #[.slice A l.length c, .int .i64 0, .bool false] 84)) from Keep2.of (hbn.out.trans (hbm.mono (by omega))))
  have HT := Aside0.mk (show w.heap.size ≤ V0.heap.size from by omega)
  clear hbm hbl hbn hC1 hs s0 hby
  generalize V0.alloc (.cells #[.slice A l.length c, .int .i64 0, .bool false] 84) = W0 at *
  generalize V0.heap.size = t at *
  replace C1 := Aside0.mk (C1.out t)
  replace C2 := Aside0.mk (C2.out t)
  replace C3 := Aside0.mk (C3.out t)
  replace C4 := Aside0.mk (C4.out t)
  go_wp2_with fail
  refine (C1.out _ T0.out).mono ?_
  rintro e W1 ⟨rfl, ht, hk⟩
  have X1 := Aside0.mk (X0.out.keep hk)
  have K1 := Aside0.mk (K0.out.trans hk)
  have T1 := Aside0.mk ht
  clear ht hk C1 T0 K0 X0
  go_wp2_with fail
  refine (C2.out _ T1.out).mono ?_
  rintro e W2 ⟨rfl, ht, hk⟩
  have X2 := Aside0.mk (X1.out.keep hk)
  have K2 := Aside0.mk (K1.out.trans hk)
  have T2 := Aside0.mk ht
  clear ht hk C2 T1 K1 X1
  have hbn := (Below.refl W2.heap.size W2).alloc (Nat.le_refl _) (.cells #[.int .i64 0, .int .i64 0, .string ⟨#[]⟩, .int .i64 0, .int .i64 0, .int .i64 0, .int .i64 0, .int .i64 0, .int .u32 0, .int .u32 0, .int .i64 0, .int .i64 0, .int .i64 0, .int .i64 0, .int .i64 0, .int .u32 0, .int .u32 0, .string ⟨#[]⟩] 36)
  have Y3 := Aside0.mk (mine_new K2.out T2.out.lt #[.int .i64 0, .int .i64 0, .string ⟨#[]⟩, .int .i64 0, .int .i64 0, .int .i64 0, .int .i64 0, .int .i64 0, .int .u32 0, .int .u32 0, .int .i64 0, .int .i64 0, .int .i64 0, .int .i64 0, .int .i64 0, .int .u32 0, .int .u32 0, .string ⟨#[]⟩] 36 rfl)
  have NEYX := Aside0.mk (show W2.heap.size ≠ w.heap.size from by have := blk_lt X2.out.blk; omega)
  have X3 := Aside0.mk (X2.out.below hbn)
  have T3 := Aside0.mk (T2.out.below hbn)
  have K3 := Aside0.mk (K2.out.alloc (.cells #[.int .i64 0, .int .i64 0, .string ⟨#[]⟩, .int .i64 0, .int .i64 0, .int .i64 0, .int .i64 0, .int .i64 0, .int .u32 0, .int .u32 0, .int .i64 0, .int .i64 0, .int .i64 0, .int .i64 0, .int .i64 0, .int .u32 0, .int .u32 0, .string ⟨#[]⟩] 36))
  clear hbn T2 K2 X2
  try dsimp only
  repeat ((fail_if_success (show Oper.wp _ (Oper.mk none (Op.store _ _ _) _ _ _ _) _ _ _ _)); (first | go_values | go_skip | go_guarded | go_step | go_upon | go_back))
  generalize (W2.alloc (.cells #[.int .i64 0, .int .i64 0, .string ⟨#[]⟩, .int .i64 0, .int .i64 0, .int .i64 0, .int .i64 0, .int .i64 0, .int .u32 0, .int .u32 0, .int .i64 0, .int .i64 0, .int .i64 0, .int .i64 0, .int .i64 0, .int .u32 0, .int .u32 0, .string ⟨#[]⟩] 36)) = W3 at *
  generalize W2.heap.size = b1 at *
  refine wp_store_row (c' := #[.int .i64 n1, .int .i64 n2, .string ⟨#[]⟩, .int .i64 0, .int .i64 0, .int .i64 0, .int .i64 0, .int .i64 0, .int .u32 0, .int .u32 0, .int .i64 0, .int .i64 0, .int .i64 0, .int .i64 0, .int .i64 0, .int .u32 0, .int .u32 0, .string ⟨#[]⟩]) Y3.out.blk rfl rfl rfl rfl (by kernel_rfl) rfl (by simp [Value.oneCell']) ?_
  have Y4 := Aside0.mk (Y3.out.row #[.int .i64 n1, .int .i64 n2, .string ⟨#[]⟩, .int .i64 0, .int .i64 0, .int .i64 0, .int .i64 0, .int .i64 0, .int .u32 0, .int .u32 0, .int .i64 0, .int .i64 0, .int .i64 0, .int .i64 0, .int .i64 0, .int .u32 0, .int .u32 0, .string ⟨#[]⟩] rfl)
  have X4 := Aside0.mk (X3.out.farRow (fun e => NEYX.out e.symm) #[.int .i64 n1, .int .i64 n2, .string ⟨#[]⟩, .int .i64 0, .int .i64 0, .int .i64 0, .int .i64 0, .int .i64 0, .int .u32 0, .int .u32 0, .int .i64 0, .int .i64 0, .int .i64 0, .int .i64 0, .int .i64 0, .int .u32 0, .int .u32 0, .string ⟨#[]⟩] : Mine _ (W3.setRow b1 #[.int .i64 n1, .int .i64 n2, .string ⟨#[]⟩, .int .i64 0, .int .i64 0, .int .i64 0, .int .i64 0, .int .i64 0, .int .u32 0, .int .u32 0, .int .i64 0, .int .i64 0, .int .i64 0, .int .i64 0, .int .i64 0, .int .u32 0, .int .u32 0, .string ⟨#[]⟩]) _ _ _ _ _)
  have T4 := Aside0.mk (T3.out.farRow Y3.out #[.int .i64 n1, .int .i64 n2, .string ⟨#[]⟩, .int .i64 0, .int .i64 0, .int .i64 0, .int .i64 0, .int .i64 0, .int .u32 0, .int .u32 0, .int .i64 0, .int .i64 0, .int .i64 0, .int .i64 0, .int .i64 0, .int .u32 0, .int .u32 0, .string ⟨#[]⟩])
  have K4 := Aside0.mk (K3.out.mineRow Y3.out #[.int .i64 n1, .int .i64 n2, .string ⟨#[]⟩, .int .i64 0, .int .i64 0, .int .i64 0, .int .i64 0, .int .i64 0, .int .u32 0, .int .u32 0, .int .i64 0, .int .i64 0, .int .i64 0, .int .i64 0, .int .i64 0, .int .u32 0, .int .u32 0, .string ⟨#[]⟩])
  clear T3 K3 X3 Y3
  generalize W3.setRow b1 #[.int .i64 n1, .int .i64 n2, .string ⟨#[]⟩, .int .i64 0, .int .i64 0, .int .i64 0, .int .i64 0, .int .i64 0, .int .u32 0, .int .u32 0, .int .i64 0, .int .i64 0, .int .i64 0, .int .i64 0, .int .i64 0, .int .u32 0, .int .u32 0, .string ⟨#[]⟩] = W4 at *
  try dsimp only
  repeat ((fail_if_success (show Code.wp _ (Code.seq (Code.region 3 _ _) _) _ _ _)); (first | go_values | go_skip | go_guarded | go_step | go_upon | go_back))
  have k0 := blk_cell Y4.out.blk 0
  have f0 := blk_frozen Y4.out.blk 0
  go_wp2_with fail
  refine (CP.out W4).mono ?_
  rintro e W5 ⟨rfl, hb⟩
  have X5 := Aside0.mk (X4.out.below hb)
  have Y5 := Aside0.mk (Y4.out.below hb)
  have K5 := Aside0.mk (K4.out.trans (Keep2.of hb))
  have T5 := Aside0.mk (T4.out.below hb)
  clear hb T4 K4 X4 Y4
  clear k0 f0 CP
  unfold ruleVals at C4
  go_wp2_with fail
  refine (C3.out _ T5.out).mono ?_
  rintro e W6 ⟨rfl, ht, hk⟩
  have X6 := Aside0.mk (X5.out.keep hk)
  have Y6 := Aside0.mk (Y5.out.keep hk)
  have K6 := Aside0.mk (K5.out.trans hk)
  have T6 := Aside0.mk ht
  clear ht hk C3 T5 K5 X5 Y5
  have k3 := blk_cell Y6.out.blk 3
  have f3 := blk_frozen Y6.out.blk 3
  try dsimp only
  repeat ((fail_if_success (show Code.wp _ (Code.region 8 _ _) _ _ _)); (first | go_values | go_skip | go_guarded | go_step | go_upon | go_back))
  have Y7 := Aside0.mk (Y6.out.put 3 (.int .i64 n3) rfl #[.int .i64 n1, .int .i64 n2, .string ⟨#[]⟩, .int .i64 n3, .int .i64 0, .int .i64 0, .int .i64 0, .int .i64 0, .int .u32 0, .int .u32 0, .int .i64 0, .int .i64 0, .int .i64 0, .int .i64 0, .int .i64 0, .int .u32 0, .int .u32 0, .string ⟨#[]⟩] (by simp) rfl)
  have X7 := Aside0.mk (X6.out.far (fun e => NEYX.out e.symm) 3 (.int .i64 n3) : Mine _ (W6.setCell ⟨b1, 3, none⟩ (.int .i64 n3)) _ _ _ _ _)
  have T7 := Aside0.mk (T6.out.far Y6.out 3 (.int .i64 n3))
  have K7 := Aside0.mk (K6.out.mine Y6.out 3 (.int .i64 n3))
  clear T6 K6 X6 Y6
  generalize (W6.setCell ⟨b1, 3, none⟩ (.int .i64 n3)) = W7 at *
  clear k3 f3
  go_wp2_with fail
  refine (C4.out _ T7.out).mono ?_
  rintro e W8 ⟨rfl, ht, hk⟩
  have X8 := Aside0.mk (X7.out.keep hk)
  have Y8 := Aside0.mk (Y7.out.keep hk)
  have K8 := Aside0.mk (K7.out.trans hk)
  have T8 := Aside0.mk ht
  clear ht hk C4 T7 K7 X7 Y7
  have k4 := blk_cell Y8.out.blk 4
  have k5 := blk_cell Y8.out.blk 5
  have k6 := blk_cell Y8.out.blk 6
  have k7 := blk_cell Y8.out.blk 7
  have k8 := blk_cell Y8.out.blk 8
  have k9 := blk_cell Y8.out.blk 9
  have k10 := blk_cell Y8.out.blk 10
  have f4 := blk_frozen Y8.out.blk 4
  have f5 := blk_frozen Y8.out.blk 5
  have f6 := blk_frozen Y8.out.blk 6
  have f7 := blk_frozen Y8.out.blk 7
  have f8 := blk_frozen Y8.out.blk 8
  have f9 := blk_frozen Y8.out.blk 9
  have f10 := blk_frozen Y8.out.blk 10
  try dsimp only
  repeat ((fail_if_success (show Code.wp _ (Code.seq (Code.region 17 _ _) _) _ _ _)); (first | go_values | go_skip | go_guarded | go_step | go_upon | go_back))
  have Y9 := Aside0.mk (Y8.out.put 4 (.int .i64 n4.f0) rfl #[.int .i64 n1, .int .i64 n2, .string ⟨#[]⟩, .int .i64 n3, .int .i64 n4.f0, .int .i64 0, .int .i64 0, .int .i64 0, .int .u32 0, .int .u32 0, .int .i64 0, .int .i64 0, .int .i64 0, .int .i64 0, .int .i64 0, .int .u32 0, .int .u32 0, .string ⟨#[]⟩] (by simp) rfl)
  have X9 := Aside0.mk (X8.out.far (fun e => NEYX.out e.symm) 4 (.int .i64 n4.f0) : Mine _ (W8.setCell ⟨b1, 4, none⟩ (.int .i64 n4.f0)) _ _ _ _ _)
  have T9 := Aside0.mk (T8.out.far Y8.out 4 (.int .i64 n4.f0))
  have K9 := Aside0.mk (K8.out.mine Y8.out 4 (.int .i64 n4.f0))
  clear T8 K8 X8 Y8
  generalize (W8.setCell ⟨b1, 4, none⟩ (.int .i64 n4.f0)) = W9 at *
  have Y10 := Aside0.mk (Y9.out.put 5 (.int .i64 n4.f1) rfl #[.int .i64 n1, .int .i64 n2, .string ⟨#[]⟩, .int .i64 n3, .int .i64 n4.f0, .int .i64 n4.f1, .int .i64 0, .int .i64 0, .int .u32 0, .int .u32 0, .int .i64 0, .int .i64 0, .int .i64 0, .int .i64 0, .int .i64 0, .int .u32 0, .int .u32 0, .string ⟨#[]⟩] (by simp) rfl)
  have X10 := Aside0.mk (X9.out.far (fun e => NEYX.out e.symm) 5 (.int .i64 n4.f1) : Mine _ (W9.setCell ⟨b1, 5, none⟩ (.int .i64 n4.f1)) _ _ _ _ _)
  have T10 := Aside0.mk (T9.out.far Y9.out 5 (.int .i64 n4.f1))
  have K10 := Aside0.mk (K9.out.mine Y9.out 5 (.int .i64 n4.f1))
  clear T9 K9 X9 Y9
  generalize (W9.setCell ⟨b1, 5, none⟩ (.int .i64 n4.f1)) = W10 at *
  have Y11 := Aside0.mk (Y10.out.put 6 (.int .i64 n4.f2) rfl #[.int .i64 n1, .int .i64 n2, .string ⟨#[]⟩, .int .i64 n3, .int .i64 n4.f0, .int .i64 n4.f1, .int .i64 n4.f2, .int .i64 0, .int .u32 0, .int .u32 0, .int .i64 0, .int .i64 0, .int .i64 0, .int .i64 0, .int .i64 0, .int .u32 0, .int .u32 0, .string ⟨#[]⟩] (by simp) rfl)
  have X11 := Aside0.mk (X10.out.far (fun e => NEYX.out e.symm) 6 (.int .i64 n4.f2) : Mine _ (W10.setCell ⟨b1, 6, none⟩ (.int .i64 n4.f2)) _ _ _ _ _)
  have T11 := Aside0.mk (T10.out.far Y10.out 6 (.int .i64 n4.f2))
  have K11 := Aside0.mk (K10.out.mine Y10.out 6 (.int .i64 n4.f2))
  clear T10 K10 X10 Y10
  generalize (W10.setCell ⟨b1, 6, none⟩ (.int .i64 n4.f2)) = W11 at *
  have Y12 := Aside0.mk (Y11.out.put 7 (.int .i64 n4.f3) rfl #[.int .i64 n1, .int .i64 n2, .string ⟨#[]⟩, .int .i64 n3, .int .i64 n4.f0, .int .i64 n4.f1, .int .i64 n4.f2, .int .i64 n4.f3, .int .u32 0, .int .u32 0, .int .i64 0, .int .i64 0, .int .i64 0, .int .i64 0, .int .i64 0, .int .u32 0, .int .u32 0, .string ⟨#[]⟩] (by simp) rfl)
  have X12 := Aside0.mk (X11.out.far (fun e => NEYX.out e.symm) 7 (.int .i64 n4.f3) : Mine _ (W11.setCell ⟨b1, 7, none⟩ (.int .i64 n4.f3)) _ _ _ _ _)
  have T12 := Aside0.mk (T11.out.far Y11.out 7 (.int .i64 n4.f3))
  have K12 := Aside0.mk (K11.out.mine Y11.out 7 (.int .i64 n4.f3))
  clear T11 K11 X11 Y11
  generalize (W11.setCell ⟨b1, 7, none⟩ (.int .i64 n4.f3)) = W12 at *
  have Y13 := Aside0.mk (Y12.out.put 8 (.int .u32 n4.f4.f0) rfl #[.int .i64 n1, .int .i64 n2, .string ⟨#[]⟩, .int .i64 n3, .int .i64 n4.f0, .int .i64 n4.f1, .int .i64 n4.f2, .int .i64 n4.f3, .int .u32 n4.f4.f0, .int .u32 0, .int .i64 0, .int .i64 0, .int .i64 0, .int .i64 0, .int .i64 0, .int .u32 0, .int .u32 0, .string ⟨#[]⟩] (by simp) rfl)
  have X13 := Aside0.mk (X12.out.far (fun e => NEYX.out e.symm) 8 (.int .u32 n4.f4.f0) : Mine _ (W12.setCell ⟨b1, 8, none⟩ (.int .u32 n4.f4.f0)) _ _ _ _ _)
  have T13 := Aside0.mk (T12.out.far Y12.out 8 (.int .u32 n4.f4.f0))
  have K13 := Aside0.mk (K12.out.mine Y12.out 8 (.int .u32 n4.f4.f0))
  clear T12 K12 X12 Y12
  generalize (W12.setCell ⟨b1, 8, none⟩ (.int .u32 n4.f4.f0)) = W13 at *
  have Y14 := Aside0.mk (Y13.out.put 9 (.int .u32 n4.f4.f1) rfl #[.int .i64 n1, .int .i64 n2, .string ⟨#[]⟩, .int .i64 n3, .int .i64 n4.f0, .int .i64 n4.f1, .int .i64 n4.f2, .int .i64 n4.f3, .int .u32 n4.f4.f0, .int .u32 n4.f4.f1, .int .i64 0, .int .i64 0, .int .i64 0, .int .i64 0, .int .i64 0, .int .u32 0, .int .u32 0, .string ⟨#[]⟩] (by simp) rfl)
  have X14 := Aside0.mk (X13.out.far (fun e => NEYX.out e.symm) 9 (.int .u32 n4.f4.f1) : Mine _ (W13.setCell ⟨b1, 9, none⟩ (.int .u32 n4.f4.f1)) _ _ _ _ _)
  have T14 := Aside0.mk (T13.out.far Y13.out 9 (.int .u32 n4.f4.f1))
  have K14 := Aside0.mk (K13.out.mine Y13.out 9 (.int .u32 n4.f4.f1))
  clear T13 K13 X13 Y13
  generalize (W13.setCell ⟨b1, 9, none⟩ (.int .u32 n4.f4.f1)) = W14 at *
  have Y15 := Aside0.mk (Y14.out.put 10 (.int .i64 n4.f5) rfl #[.int .i64 n1, .int .i64 n2, .string ⟨#[]⟩, .int .i64 n3, .int .i64 n4.f0, .int .i64 n4.f1, .int .i64 n4.f2, .int .i64 n4.f3, .int .u32 n4.f4.f0, .int .u32 n4.f4.f1, .int .i64 n4.f5, .int .i64 0, .int .i64 0, .int .i64 0, .int .i64 0, .int .u32 0, .int .u32 0, .string ⟨#[]⟩] (by simp) rfl)
  have X15 := Aside0.mk (X14.out.far (fun e => NEYX.out e.symm) 10 (.int .i64 n4.f5) : Mine _ (W14.setCell ⟨b1, 10, none⟩ (.int .i64 n4.f5)) _ _ _ _ _)
  have T15 := Aside0.mk (T14.out.far Y14.out 10 (.int .i64 n4.f5))
  have K15 := Aside0.mk (K14.out.mine Y14.out 10 (.int .i64 n4.f5))
  clear T14 K14 X14 Y14
  generalize (W14.setCell ⟨b1, 10, none⟩ (.int .i64 n4.f5)) = W15 at *
  clear k4 f4 k5 f5 k6 f6 k7 f7 k8 f8 k9 f9 k10 f10
  have CW := Aside0.mk (whole_any t m4 W15 T15.out)
  rw [hB] at CW
  clear hB
  go_wp2_with fail
  refine (CW.out).mono ?_
  rintro e W16 ⟨rfl, hb⟩
  have X16 := Aside0.mk (X15.out.below hb)
  have Y16 := Aside0.mk (Y15.out.below hb)
  have K16 := Aside0.mk (K15.out.trans (Keep2.of hb))
  have T16 := Aside0.mk (T15.out.below hb)
  clear hb T15 K15 X15 Y15
  clear CW
  try dsimp only
  repeat ((fail_if_success (show Oper.wp _ (Oper.mk _ (Op.load 36 _) _ _ _ _) _ _ _ _)); (first | go_values | go_skip | go_guarded | go_step | go_upon | go_back))
  refine wp_load_row Y16.out.blk rfl rfl Try.underlying36 rfl (by kernel_rfl) ?_
  try go_simp
  go_wp2_with fail
  refine (CR.out W16).mono ?_
  rintro e W17 ⟨rfl, hb⟩
  have X17 := Aside0.mk (X16.out.below hb)
  have Y17 := Aside0.mk (Y16.out.below hb)
  have K17 := Aside0.mk (K16.out.trans (Keep2.of hb))
  have T17 := Aside0.mk (T16.out.below hb)
  clear hb T16 K16 X16 Y16
  clear CR
  try dsimp only
  cases wb with
  | false =>
    have HE := Aside0.mk (HO.out.trans (if_neg (by simp)))
    repeat ((fail_if_success (show Oper.wp _ (Oper.mk none (Op.store _ _ _) _ _ _ _) _ _ _ _)); (first | go_values | go_skip | go_guarded | go_step | go_upon | go_back))
    refine wp_store_row (c' := #[.int .i64 0, .int .i64 0, .string ⟨#[]⟩, .int .i64 0, .int .i64 0, .int .i64 0, .int .i64 0, .int .i64 0, .int .u32 0, .int .u32 0, .int .i64 0, .int .i64 0, .int .i64 0, .int .i64 0, .int .i64 0, .int .u32 0, .int .u32 0, .string ⟨#[]⟩]) X17.out.blk rfl rfl rfl rfl (by kernel_rfl) rfl (by simp [Value.oneCell']) ?_
    have X18 := Aside0.mk (X17.out.row #[.int .i64 0, .int .i64 0, .string ⟨#[]⟩, .int .i64 0, .int .i64 0, .int .i64 0, .int .i64 0, .int .i64 0, .int .u32 0, .int .u32 0, .int .i64 0, .int .i64 0, .int .i64 0, .int .i64 0, .int .i64 0, .int .u32 0, .int .u32 0, .string ⟨#[]⟩] rfl)
    have Y18 := Aside0.mk (Y17.out.farRow NEYX.out #[.int .i64 0, .int .i64 0, .string ⟨#[]⟩, .int .i64 0, .int .i64 0, .int .i64 0, .int .i64 0, .int .i64 0, .int .u32 0, .int .u32 0, .int .i64 0, .int .i64 0, .int .i64 0, .int .i64 0, .int .i64 0, .int .u32 0, .int .u32 0, .string ⟨#[]⟩] : Mine _ (W17.setRow w.heap.size #[.int .i64 0, .int .i64 0, .string ⟨#[]⟩, .int .i64 0, .int .i64 0, .int .i64 0, .int .i64 0, .int .i64 0, .int .u32 0, .int .u32 0, .int .i64 0, .int .i64 0, .int .i64 0, .int .i64 0, .int .i64 0, .int .u32 0, .int .u32 0, .string ⟨#[]⟩]) _ _ _ _ _)
    have T18 := Aside0.mk (T17.out.farRow X17.out #[.int .i64 0, .int .i64 0, .string ⟨#[]⟩, .int .i64 0, .int .i64 0, .int .i64 0, .int .i64 0, .int .i64 0, .int .u32 0, .int .u32 0, .int .i64 0, .int .i64 0, .int .i64 0, .int .i64 0, .int .i64 0, .int .u32 0, .int .u32 0, .string ⟨#[]⟩])
    have K18 := Aside0.mk (K17.out.mineRow X17.out #[.int .i64 0, .int .i64 0, .string ⟨#[]⟩, .int .i64 0, .int .i64 0, .int .i64 0, .int .i64 0, .int .i64 0, .int .u32 0, .int .u32 0, .int .i64 0, .int .i64 0, .int .i64 0, .int .i64 0, .int .i64 0, .int .u32 0, .int .u32 0, .string ⟨#[]⟩])
    clear T17 K17 X17 Y17
    generalize W17.setRow w.heap.size #[.int .i64 0, .int .i64 0, .string ⟨#[]⟩, .int .i64 0, .int .i64 0, .int .i64 0, .int .i64 0, .int .i64 0, .int .u32 0, .int .u32 0, .int .i64 0, .int .i64 0, .int .i64 0, .int .i64 0, .int .i64 0, .int .u32 0, .int .u32 0, .string ⟨#[]⟩] = W18 at *
    go_wp2_with fail
    exact bodyPost_ret (v := .tuple #[.agg #[.int .i64 0, .int .i64 0, .string ⟨#[]⟩, .int .i64 0, .int .i64 0, .int .i64 0, .int .i64 0, .int .i64 0, .int .u32 0, .int .u32 0, .int .i64 0, .int .i64 0, .int .i64 0, .int .i64 0, .int .i64 0, .int .u32 0, .int .u32 0, .string ⟨#[]⟩], .int .i64 171]) (results_row rfl rfl rfl X18.out.blk Try.underlying36 rfl (by kernel_rfl)) rfl ⟨by rw [HE.out]; rfl, Keep2.below K18.out (Below.refl w.heap.size w) HT.out HT.out (Nat.le_refl _)⟩
  | true =>
    cases rb with
    | true =>
      have HE := Aside0.mk (HO.out.trans (if_pos rfl))
      repeat ((fail_if_success (show Oper.wp _ (Oper.mk _ (Op.load 36 _) _ _ _ _) _ _ _ _)); (first | go_values | go_skip | go_guarded | go_step | go_upon | go_back))
      refine wp_load_row Y17.out.blk rfl rfl Try.underlying36 rfl (by kernel_rfl) ?_
      try go_simp
      try dsimp only
      repeat ((fail_if_success (show Oper.wp _ (Oper.mk none (Op.store _ _ _) _ _ _ _) _ _ _ _)); (first | go_values | go_skip | go_guarded | go_step | go_upon | go_back))
      refine wp_store_row (c' := #[.int .i64 n1, .int .i64 n2, .string ⟨#[]⟩, .int .i64 n3, .int .i64 n4.f0, .int .i64 n4.f1, .int .i64 n4.f2, .int .i64 n4.f3, .int .u32 n4.f4.f0, .int .u32 n4.f4.f1, .int .i64 n4.f5, .int .i64 0, .int .i64 0, .int .i64 0, .int .i64 0, .int .u32 0, .int .u32 0, .string ⟨#[]⟩]) X17.out.blk rfl rfl rfl rfl (by kernel_rfl) rfl (by simp [Value.oneCell']) ?_
      have X18 := Aside0.mk (X17.out.row #[.int .i64 n1, .int .i64 n2, .string ⟨#[]⟩, .int .i64 n3, .int .i64 n4.f0, .int .i64 n4.f1, .int .i64 n4.f2, .int .i64 n4.f3, .int .u32 n4.f4.f0, .int .u32 n4.f4.f1, .int .i64 n4.f5, .int .i64 0, .int .i64 0, .int .i64 0, .int .i64 0, .int .u32 0, .int .u32 0, .string ⟨#[]⟩] rfl)
      have Y18 := Aside0.mk (Y17.out.farRow NEYX.out #[.int .i64 n1, .int .i64 n2, .string ⟨#[]⟩, .int .i64 n3, .int .i64 n4.f0, .int .i64 n4.f1, .int .i64 n4.f2, .int .i64 n4.f3, .int .u32 n4.f4.f0, .int .u32 n4.f4.f1, .int .i64 n4.f5, .int .i64 0, .int .i64 0, .int .i64 0, .int .i64 0, .int .u32 0, .int .u32 0, .string ⟨#[]⟩] : Mine _ (W17.setRow w.heap.size #[.int .i64 n1, .int .i64 n2, .string ⟨#[]⟩, .int .i64 n3, .int .i64 n4.f0, .int .i64 n4.f1, .int .i64 n4.f2, .int .i64 n4.f3, .int .u32 n4.f4.f0, .int .u32 n4.f4.f1, .int .i64 n4.f5, .int .i64 0, .int .i64 0, .int .i64 0, .int .i64 0, .int .u32 0, .int .u32 0, .string ⟨#[]⟩]) _ _ _ _ _)
      have T18 := Aside0.mk (T17.out.farRow X17.out #[.int .i64 n1, .int .i64 n2, .string ⟨#[]⟩, .int .i64 n3, .int .i64 n4.f0, .int .i64 n4.f1, .int .i64 n4.f2, .int .i64 n4.f3, .int .u32 n4.f4.f0, .int .u32 n4.f4.f1, .int .i64 n4.f5, .int .i64 0, .int .i64 0, .int .i64 0, .int .i64 0, .int .u32 0, .int .u32 0, .string ⟨#[]⟩])
      have K18 := Aside0.mk (K17.out.mineRow X17.out #[.int .i64 n1, .int .i64 n2, .string ⟨#[]⟩, .int .i64 n3, .int .i64 n4.f0, .int .i64 n4.f1, .int .i64 n4.f2, .int .i64 n4.f3, .int .u32 n4.f4.f0, .int .u32 n4.f4.f1, .int .i64 n4.f5, .int .i64 0, .int .i64 0, .int .i64 0, .int .i64 0, .int .u32 0, .int .u32 0, .string ⟨#[]⟩])
      clear T17 K17 X17 Y17
      generalize W17.setRow w.heap.size #[.int .i64 n1, .int .i64 n2, .string ⟨#[]⟩, .int .i64 n3, .int .i64 n4.f0, .int .i64 n4.f1, .int .i64 n4.f2, .int .i64 n4.f3, .int .u32 n4.f4.f0, .int .u32 n4.f4.f1, .int .i64 n4.f5, .int .i64 0, .int .i64 0, .int .i64 0, .int .i64 0, .int .u32 0, .int .u32 0, .string ⟨#[]⟩] = W18 at *
      go_wp2_with fail
      exact bodyPost_ret (v := .tuple #[.agg #[.int .i64 n1, .int .i64 n2, .string ⟨#[]⟩, .int .i64 n3, .int .i64 n4.f0, .int .i64 n4.f1, .int .i64 n4.f2, .int .i64 n4.f3, .int .u32 n4.f4.f0, .int .u32 n4.f4.f1, .int .i64 n4.f5, .int .i64 0, .int .i64 0, .int .i64 0, .int .i64 0, .int .u32 0, .int .u32 0, .string ⟨#[]⟩], .int .i64 0]) (results_row rfl rfl rfl X18.out.blk Try.underlying36 rfl (by kernel_rfl)) rfl ⟨by rw [HE.out]; rfl, Keep2.below K18.out (Below.refl w.heap.size w) HT.out HT.out (Nat.le_refl _)⟩
    | false =>
      have HE := Aside0.mk (HO.out.trans (if_neg (by simp)))
      repeat ((fail_if_success (show Oper.wp _ (Oper.mk none (Op.store _ _ _) _ _ _ _) _ _ _ _)); (first | go_values | go_skip | go_guarded | go_step | go_upon | go_back))
      refine wp_store_row (c' := #[.int .i64 0, .int .i64 0, .string ⟨#[]⟩, .int .i64 0, .int .i64 0, .int .i64 0, .int .i64 0, .int .i64 0, .int .u32 0, .int .u32 0, .int .i64 0, .int .i64 0, .int .i64 0, .int .i64 0, .int .i64 0, .int .u32 0, .int .u32 0, .string ⟨#[]⟩]) X17.out.blk rfl rfl rfl rfl (by kernel_rfl) rfl (by simp [Value.oneCell']) ?_
      have X18 := Aside0.mk (X17.out.row #[.int .i64 0, .int .i64 0, .string ⟨#[]⟩, .int .i64 0, .int .i64 0, .int .i64 0, .int .i64 0, .int .i64 0, .int .u32 0, .int .u32 0, .int .i64 0, .int .i64 0, .int .i64 0, .int .i64 0, .int .i64 0, .int .u32 0, .int .u32 0, .string ⟨#[]⟩] rfl)
      have Y18 := Aside0.mk (Y17.out.farRow NEYX.out #[.int .i64 0, .int .i64 0, .string ⟨#[]⟩, .int .i64 0, .int .i64 0, .int .i64 0, .int .i64 0, .int .i64 0, .int .u32 0, .int .u32 0, .int .i64 0, .int .i64 0, .int .i64 0, .int .i64 0, .int .i64 0, .int .u32 0, .int .u32 0, .string ⟨#[]⟩] : Mine _ (W17.setRow w.heap.size #[.int .i64 0, .int .i64 0, .string ⟨#[]⟩, .int .i64 0, .int .i64 0, .int .i64 0, .int .i64 0, .int .i64 0, .int .u32 0, .int .u32 0, .int .i64 0, .int .i64 0, .int .i64 0, .int .i64 0, .int .i64 0, .int .u32 0, .int .u32 0, .string ⟨#[]⟩]) _ _ _ _ _)
      have T18 := Aside0.mk (T17.out.farRow X17.out #[.int .i64 0, .int .i64 0, .string ⟨#[]⟩, .int .i64 0, .int .i64 0, .int .i64 0, .int .i64 0, .int .i64 0, .int .u32 0, .int .u32 0, .int .i64 0, .int .i64 0, .int .i64 0, .int .i64 0, .int .i64 0, .int .u32 0, .int .u32 0, .string ⟨#[]⟩])
      have K18 := Aside0.mk (K17.out.mineRow X17.out #[.int .i64 0, .int .i64 0, .string ⟨#[]⟩, .int .i64 0, .int .i64 0, .int .i64 0, .int .i64 0, .int .i64 0, .int .u32 0, .int .u32 0, .int .i64 0, .int .i64 0, .int .i64 0, .int .i64 0, .int .i64 0, .int .u32 0, .int .u32 0, .string ⟨#[]⟩])
      clear T17 K17 X17 Y17
      generalize W17.setRow w.heap.size #[.int .i64 0, .int .i64 0, .string ⟨#[]⟩, .int .i64 0, .int .i64 0, .int .i64 0, .int .i64 0, .int .i64 0, .int .u32 0, .int .u32 0, .int .i64 0, .int .i64 0, .int .i64 0, .int .i64 0, .int .i64 0, .int .u32 0, .int .u32 0, .string ⟨#[]⟩] = W18 at *
      go_wp2_with fail
      exact bodyPost_ret (v := .tuple #[.agg #[.int .i64 0, .int .i64 0, .string ⟨#[]⟩, .int .i64 0, .int .i64 0, .int .i64 0, .int .i64 0, .int .i64 0, .int .u32 0, .int .u32 0, .int .i64 0, .int .i64 0, .int .i64 0, .int .i64 0, .int .i64 0, .int .u32 0, .int .u32 0, .string ⟨#[]⟩], .int .i64 171]) (results_row rfl rfl rfl X18.out.blk Try.underlying36 rfl (by kernel_rfl)) rfl ⟨by rw [HE.out]; rfl, Keep2.below K18.out (Below.refl w.heap.size w) HT.out HT.out (Nat.le_refl _)⟩
set_option maxHeartbeats 4000000 in
theorem refdec_3 (A : Option Addr) (c : Nat) (l : List Int) (w : World) (hC : Kd.C (Kd.int .u8) w A l.length l) (hc : l.length ≤ c) (hl : l.length < 140737488355328) (hby : bytes l) (n1 : Int) (m1 : Mc) (q1 : numM 9 (⟨l, false⟩) = (n1, m1)) (n2 : Int) (m2 : Mc) (q2 : numM 255 m1 = (n2, m2)) (n3 : Int) (m3 : Mc) (q3 : numM 255 m2 = (n3, m3)) (n4 : Int) (m4 : Mc) (q4 : numM 255 m3 = (n4, m4)) (n5 : Int) (m5 : Mc) (q5 : numM 255 m4 = (n5, m5)) (n6 : Int) (m6 : Mc) (q6 : numM 255 m5 = (n6, m6)) (n7 : Int) (m7 : Mc) (q7 : numM wideW m6 = (n7, m7)) (n8 : Int) (m8 : Mc) (q8 : numM wideW m7 = (n8, m8)) (n9 : ByteArray) (m9 : Mc) (q9 : textM 40 m8 = (n9, m9)) (hp : partK n1 = 3) (wb rb : Bool) (hB : (!m9.bad && m9.rest.isEmpty) = wb) (hrb : rightQ ⟨n1, n2, ⟨#[]⟩, 0, zRu, n3, n4, n5, n6, n7, n8, n9⟩ = rb) (OUT : Rq × Int) (hO : OUT = if (wb && rb) = true then (⟨n1, n2, ⟨#[]⟩, 0, zRu, n3, n4, n5, n6, n7, n8, n9⟩, 0) else (zRq, 171)) :
    Calls Try.prog 13 #[.slice A l.length c] w fun e w' => e = .returned (.tuple #[.agg (rqVals OUT.1).toArray, .int .i64 OUT.2]) ∧ Below w.heap.size w w' := by
  have HO := Aside0.mk hO
  clear hO
  have hb0 : bytes (Mc.mk l false).rest := hby
  have hd1 := numM_bound 9 ⟨l, false⟩ hb0 (by decide)
  have hb1 := numM_bytes 9 ⟨l, false⟩ hb0
  rw [q1] at hd1 hb1
  simp only [] at hd1 hb1
  have C1 := Aside0.mk (fun (t : Nat) (W : World) (k : RT W t (⟨l, false⟩)) => refN_any t ⟨l, false⟩ 9 (by decide) (by decide) W k)
  rw [q1] at C1
  simp only [] at C1
  have hd2 := numM_bound 255 m1 hb1 (by decide)
  have hb2 := numM_bytes 255 m1 hb1
  rw [q2] at hd2 hb2
  simp only [] at hd2 hb2
  have C2 := Aside0.mk (fun (t : Nat) (W : World) (k : RT W t (m1)) => refN_any t m1 255 (by decide) (by decide) W k)
  rw [q2] at C2
  simp only [] at C2
  have hd3 := numM_bound 255 m2 hb2 (by decide)
  have hb3 := numM_bytes 255 m2 hb2
  rw [q3] at hd3 hb3
  simp only [] at hd3 hb3
  have C3 := Aside0.mk (fun (t : Nat) (W : World) (k : RT W t (m2)) => refN_any t m2 255 (by decide) (by decide) W k)
  rw [q3] at C3
  simp only [] at C3
  have hd4 := numM_bound 255 m3 hb3 (by decide)
  have hb4 := numM_bytes 255 m3 hb3
  rw [q4] at hd4 hb4
  simp only [] at hd4 hb4
  have C4 := Aside0.mk (fun (t : Nat) (W : World) (k : RT W t (m3)) => refN_any t m3 255 (by decide) (by decide) W k)
  rw [q4] at C4
  simp only [] at C4
  have hd5 := numM_bound 255 m4 hb4 (by decide)
  have hb5 := numM_bytes 255 m4 hb4
  rw [q5] at hd5 hb5
  simp only [] at hd5 hb5
  have C5 := Aside0.mk (fun (t : Nat) (W : World) (k : RT W t (m4)) => refN_any t m4 255 (by decide) (by decide) W k)
  rw [q5] at C5
  simp only [] at C5
  have hd6 := numM_bound 255 m5 hb5 (by decide)
  have hb6 := numM_bytes 255 m5 hb5
  rw [q6] at hd6 hb6
  simp only [] at hd6 hb6
  have C6 := Aside0.mk (fun (t : Nat) (W : World) (k : RT W t (m5)) => refN_any t m5 255 (by decide) (by decide) W k)
  rw [q6] at C6
  simp only [] at C6
  have hd7 := numM_bound wideW m6 hb6 (by decide)
  have hb7 := numM_bytes wideW m6 hb6
  rw [q7] at hd7 hb7
  simp only [] at hd7 hb7
  have C7 := Aside0.mk (fun (t : Nat) (W : World) (k : RT W t (m6)) => refN_any t m6 wideW (by decide) (by decide) W k)
  rw [q7] at C7
  simp only [] at C7
  have hd8 := numM_bound wideW m7 hb7 (by decide)
  have hb8 := numM_bytes wideW m7 hb7
  rw [q8] at hd8 hb8
  simp only [] at hd8 hb8
  have C8 := Aside0.mk (fun (t : Nat) (W : World) (k : RT W t (m7)) => refN_any t m7 wideW (by decide) (by decide) W k)
  rw [q8] at C8
  simp only [] at C8
  have hb9 := textM_bytes 40 m8 hb8
  rw [q9] at hb9
  simp only [] at hb9
  have C9 := Aside0.mk (fun (t : Nat) (W : World) (k : RT W t (m8)) => refT_any t m8 W k)
  rw [q9] at C9
  simp only [] at C9
  have hw : wideW = 4294967295 := rfl
  rw [hw] at hd7 hd8 C7 C8
  have e7 : n7 % 4294967296 = n7 := Int.emod_eq_of_lt hd7.1 (by omega)
  have e8 : n8 % 4294967296 = n8 := Int.emod_eq_of_lt hd8.1 (by omega)
  have CR := Aside0.mk (fun W => refright_any ⟨n1, n2, ⟨#[]⟩, 0, zRu, n3, n4, n5, n6, n7, n8, n9⟩ ⟨okRu0, hd7, hd8⟩ W)
  rw [hrb] at CR
  unfold zRu at CR
  simp only [] at CR
  have CP := Aside0.mk (fun W => part_any n1 W)
  rw [hp] at CP
  clear hb0 hb1 hb2 hb3 hb4 hb5 hb6 hb7 hb8 hb9 hd1 hd2 hd3 hd4 hd5 hd6 hd7 hd8 q1 q2 q3 q4 q5 q6 q7 q8 q9 hw hrb
  have hC0 := Aside0.mk hC
  clear hC
  go_enter Try.func13, Try.ntmps13
  have hbn := Aside0.mk ((Below.refl w.heap.size w).alloc (Nat.le_refl _) (.cells #[.int .i64 0, .int .i64 0, .string ⟨#[]⟩, .int .i64 0, .int .i64 0, .int .i64 0, .int .i64 0, .int .i64 0, .int .u32 0, .int .u32 0, .int .i64 0, .int .i64 0, .int .i64 0, .int .i64 0, .int .i64 0, .int .u32 0, .int .u32 0, .string ⟨#[]⟩] 36))
  have hbl := Aside0.mk (blk_new w (.cells #[.int .i64 0, .int .i64 0, .string ⟨#[]⟩, .int .i64 0, .int .i64 0, .int .i64 0, .int .i64 0, .int .i64 0, .int .u32 0, .int .u32 0, .int .i64 0, .int .i64 0, .int .i64 0, .int .i64 0, .int .i64 0, .int .u32 0, .int .u32 0, .string ⟨#[]⟩] 36))
  try dsimp only
  repeat ((fail_if_success (show Code.wp _ (Code.seq (Code.region 1 _ _) _) _ _ _)); (first | go_values | go_skip | go_guarded | go_step | go_upon | go_back))
  have hC1 := Aside0.mk (Kd.C_below hC0.out ((Below.refl w.heap.size w).alloc (Nat.le_refl _) (.cells #[.int .i64 0, .int .i64 0, .string ⟨#[]⟩, .int .i64 0, .int .i64 0, .int .i64 0, .int .i64 0, .int .i64 0, .int .u32 0, .int .u32 0, .int .i64 0, .int .i64 0, .int .i64 0, .int .i64 0, .int .i64 0, .int .u32 0, .int .u32 0, .string ⟨#[]⟩] 36)))
  have hs := Aside0.mk (show w.heap.size < (w.alloc (.cells #[.int .i64 0, .int .i64 0, .string ⟨#[]⟩, .int .i64 0, .int .i64 0, .int .i64 0, .int .i64 0, .int .i64 0, .int .u32 0, .int .u32 0, .int .i64 0, .int .i64 0, .int .i64 0, .int .i64 0, .int .i64 0, .int .u32 0, .int .u32 0, .string ⟨#[]⟩] 36)).heap.size from by simp)
  clear hC0
  generalize (w.alloc (.cells #[.int .i64 0, .int .i64 0, .string ⟨#[]⟩, .int .i64 0, .int .i64 0, .int .i64 0, .int .i64 0, .int .i64 0, .int .u32 0, .int .u32 0, .int .i64 0, .int .i64 0, .int .i64 0, .int .i64 0, .int .i64 0, .int .u32 0, .int .u32 0, .string ⟨#[]⟩] 36)) = V0 at *
  try dsimp only
  repeat ((fail_if_success (show Code.wp _ (Code.seq (Code.region 2 _ _) _) _ _ _)); (first | go_values | go_skip | go_guarded | go_step | go_upon | go_back))
  have s0 := hs.out
  have hbm := (Below.refl V0.heap.size V0).alloc (Nat.le_refl _) (.cells #[.slice A l.length c, .int .i64 0, .bool false] 84)
  have T0 := Aside0.mk (show RT (V0.alloc (.cells #[.slice A l.length c, .int .i64 0, .bool false] 84)) V0.heap.size ⟨l, false⟩ from ⟨A, c, l, 0, ⟨blk_new V0 _, Nat.zero_le _, hc, Kd.C_below hC1.out hbm⟩, rfl, hby, BL_of hC1.out⟩)
  have X0 := Aside0.mk (show Mine w (V0.alloc (.cells #[.slice A l.length c, .int .i64 0, .bool false] 84)) V0.heap.size V0.heap.size w.heap.size #[.int .i64 0, .int .i64 0, .string ⟨#[]⟩, .int .i64 0, .int .i64 0, .int .i64 0, .int .i64 0, .int .i64 0, .int .u32 0, .int .u32 0, .int .i64 0, .int .i64 0, .int .i64 0, .int .i64 0, .int .i64 0, .int .u32 0, .int .u32 0, .string ⟨#[]⟩] 36 from ⟨blk_below hbl.out hbm, Nat.le_refl _, rfl, by omega, by omega⟩)
  have K0 := Aside0.mk (show Keep2 V0.heap.size V0.heap.size w (V0.alloc (.cells #[.slice A l.length c, .int .i64 0, .bool false] 84)) from Keep2.of (hbn.out.trans (hbm.mono (by omega))))
  have HT := Aside0.mk (show w.heap.size ≤ V0.heap.size from by omega)
  clear hbm hbl hbn hC1 hs s0 hby
  generalize V0.alloc (.cells #[.slice A l.length c, .int .i64 0, .bool false] 84) = W0 at *
  generalize V0.heap.size = t at *
  replace C1 := Aside0.mk (C1.out t)
  replace C2 := Aside0.mk (C2.out t)
  replace C3 := Aside0.mk (C3.out t)
  replace C4 := Aside0.mk (C4.out t)
  replace C5 := Aside0.mk (C5.out t)
  replace C6 := Aside0.mk (C6.out t)
  replace C7 := Aside0.mk (C7.out t)
  replace C8 := Aside0.mk (C8.out t)
  replace C9 := Aside0.mk (C9.out t)
  go_wp2_with fail
  refine (C1.out _ T0.out).mono ?_
  rintro e W1 ⟨rfl, ht, hk⟩
  have X1 := Aside0.mk (X0.out.keep hk)
  have K1 := Aside0.mk (K0.out.trans hk)
  have T1 := Aside0.mk ht
  clear ht hk C1 T0 K0 X0
  go_wp2_with fail
  refine (C2.out _ T1.out).mono ?_
  rintro e W2 ⟨rfl, ht, hk⟩
  have X2 := Aside0.mk (X1.out.keep hk)
  have K2 := Aside0.mk (K1.out.trans hk)
  have T2 := Aside0.mk ht
  clear ht hk C2 T1 K1 X1
  have hbn := (Below.refl W2.heap.size W2).alloc (Nat.le_refl _) (.cells #[.int .i64 0, .int .i64 0, .string ⟨#[]⟩, .int .i64 0, .int .i64 0, .int .i64 0, .int .i64 0, .int .i64 0, .int .u32 0, .int .u32 0, .int .i64 0, .int .i64 0, .int .i64 0, .int .i64 0, .int .i64 0, .int .u32 0, .int .u32 0, .string ⟨#[]⟩] 36)
  have Y3 := Aside0.mk (mine_new K2.out T2.out.lt #[.int .i64 0, .int .i64 0, .string ⟨#[]⟩, .int .i64 0, .int .i64 0, .int .i64 0, .int .i64 0, .int .i64 0, .int .u32 0, .int .u32 0, .int .i64 0, .int .i64 0, .int .i64 0, .int .i64 0, .int .i64 0, .int .u32 0, .int .u32 0, .string ⟨#[]⟩] 36 rfl)
  have NEYX := Aside0.mk (show W2.heap.size ≠ w.heap.size from by have := blk_lt X2.out.blk; omega)
  have X3 := Aside0.mk (X2.out.below hbn)
  have T3 := Aside0.mk (T2.out.below hbn)
  have K3 := Aside0.mk (K2.out.alloc (.cells #[.int .i64 0, .int .i64 0, .string ⟨#[]⟩, .int .i64 0, .int .i64 0, .int .i64 0, .int .i64 0, .int .i64 0, .int .u32 0, .int .u32 0, .int .i64 0, .int .i64 0, .int .i64 0, .int .i64 0, .int .i64 0, .int .u32 0, .int .u32 0, .string ⟨#[]⟩] 36))
  clear hbn T2 K2 X2
  try dsimp only
  repeat ((fail_if_success (show Oper.wp _ (Oper.mk none (Op.store _ _ _) _ _ _ _) _ _ _ _)); (first | go_values | go_skip | go_guarded | go_step | go_upon | go_back))
  generalize (W2.alloc (.cells #[.int .i64 0, .int .i64 0, .string ⟨#[]⟩, .int .i64 0, .int .i64 0, .int .i64 0, .int .i64 0, .int .i64 0, .int .u32 0, .int .u32 0, .int .i64 0, .int .i64 0, .int .i64 0, .int .i64 0, .int .i64 0, .int .u32 0, .int .u32 0, .string ⟨#[]⟩] 36)) = W3 at *
  generalize W2.heap.size = b1 at *
  refine wp_store_row (c' := #[.int .i64 n1, .int .i64 n2, .string ⟨#[]⟩, .int .i64 0, .int .i64 0, .int .i64 0, .int .i64 0, .int .i64 0, .int .u32 0, .int .u32 0, .int .i64 0, .int .i64 0, .int .i64 0, .int .i64 0, .int .i64 0, .int .u32 0, .int .u32 0, .string ⟨#[]⟩]) Y3.out.blk rfl rfl rfl rfl (by kernel_rfl) rfl (by simp [Value.oneCell']) ?_
  have Y4 := Aside0.mk (Y3.out.row #[.int .i64 n1, .int .i64 n2, .string ⟨#[]⟩, .int .i64 0, .int .i64 0, .int .i64 0, .int .i64 0, .int .i64 0, .int .u32 0, .int .u32 0, .int .i64 0, .int .i64 0, .int .i64 0, .int .i64 0, .int .i64 0, .int .u32 0, .int .u32 0, .string ⟨#[]⟩] rfl)
  have X4 := Aside0.mk (X3.out.farRow (fun e => NEYX.out e.symm) #[.int .i64 n1, .int .i64 n2, .string ⟨#[]⟩, .int .i64 0, .int .i64 0, .int .i64 0, .int .i64 0, .int .i64 0, .int .u32 0, .int .u32 0, .int .i64 0, .int .i64 0, .int .i64 0, .int .i64 0, .int .i64 0, .int .u32 0, .int .u32 0, .string ⟨#[]⟩] : Mine _ (W3.setRow b1 #[.int .i64 n1, .int .i64 n2, .string ⟨#[]⟩, .int .i64 0, .int .i64 0, .int .i64 0, .int .i64 0, .int .i64 0, .int .u32 0, .int .u32 0, .int .i64 0, .int .i64 0, .int .i64 0, .int .i64 0, .int .i64 0, .int .u32 0, .int .u32 0, .string ⟨#[]⟩]) _ _ _ _ _)
  have T4 := Aside0.mk (T3.out.farRow Y3.out #[.int .i64 n1, .int .i64 n2, .string ⟨#[]⟩, .int .i64 0, .int .i64 0, .int .i64 0, .int .i64 0, .int .i64 0, .int .u32 0, .int .u32 0, .int .i64 0, .int .i64 0, .int .i64 0, .int .i64 0, .int .i64 0, .int .u32 0, .int .u32 0, .string ⟨#[]⟩])
  have K4 := Aside0.mk (K3.out.mineRow Y3.out #[.int .i64 n1, .int .i64 n2, .string ⟨#[]⟩, .int .i64 0, .int .i64 0, .int .i64 0, .int .i64 0, .int .i64 0, .int .u32 0, .int .u32 0, .int .i64 0, .int .i64 0, .int .i64 0, .int .i64 0, .int .i64 0, .int .u32 0, .int .u32 0, .string ⟨#[]⟩])
  clear T3 K3 X3 Y3
  generalize W3.setRow b1 #[.int .i64 n1, .int .i64 n2, .string ⟨#[]⟩, .int .i64 0, .int .i64 0, .int .i64 0, .int .i64 0, .int .i64 0, .int .u32 0, .int .u32 0, .int .i64 0, .int .i64 0, .int .i64 0, .int .i64 0, .int .i64 0, .int .u32 0, .int .u32 0, .string ⟨#[]⟩] = W4 at *
  try dsimp only
  repeat ((fail_if_success (show Code.wp _ (Code.seq (Code.region 3 _ _) _) _ _ _)); (first | go_values | go_skip | go_guarded | go_step | go_upon | go_back))
  have k0 := blk_cell Y4.out.blk 0
  have f0 := blk_frozen Y4.out.blk 0
  go_wp2_with fail
  refine (CP.out W4).mono ?_
  rintro e W5 ⟨rfl, hb⟩
  have X5 := Aside0.mk (X4.out.below hb)
  have Y5 := Aside0.mk (Y4.out.below hb)
  have K5 := Aside0.mk (K4.out.trans (Keep2.of hb))
  have T5 := Aside0.mk (T4.out.below hb)
  clear hb T4 K4 X4 Y4
  clear k0 f0 CP
  go_wp2_with fail
  refine (C3.out _ T5.out).mono ?_
  rintro e W6 ⟨rfl, ht, hk⟩
  have X6 := Aside0.mk (X5.out.keep hk)
  have Y6 := Aside0.mk (Y5.out.keep hk)
  have K6 := Aside0.mk (K5.out.trans hk)
  have T6 := Aside0.mk ht
  clear ht hk C3 T5 K5 X5 Y5
  have k11 := blk_cell Y6.out.blk 11
  have f11 := blk_frozen Y6.out.blk 11
  try dsimp only
  repeat ((fail_if_success (show Code.wp _ (Code.seq (Code.region 11 _ _) _) _ _ _)); (first | go_values | go_skip | go_guarded | go_step | go_upon | go_back))
  have Y7 := Aside0.mk (Y6.out.put 11 (.int .i64 n3) rfl #[.int .i64 n1, .int .i64 n2, .string ⟨#[]⟩, .int .i64 0, .int .i64 0, .int .i64 0, .int .i64 0, .int .i64 0, .int .u32 0, .int .u32 0, .int .i64 0, .int .i64 n3, .int .i64 0, .int .i64 0, .int .i64 0, .int .u32 0, .int .u32 0, .string ⟨#[]⟩] (by simp) rfl)
  have X7 := Aside0.mk (X6.out.far (fun e => NEYX.out e.symm) 11 (.int .i64 n3) : Mine _ (W6.setCell ⟨b1, 11, none⟩ (.int .i64 n3)) _ _ _ _ _)
  have T7 := Aside0.mk (T6.out.far Y6.out 11 (.int .i64 n3))
  have K7 := Aside0.mk (K6.out.mine Y6.out 11 (.int .i64 n3))
  clear T6 K6 X6 Y6
  generalize (W6.setCell ⟨b1, 11, none⟩ (.int .i64 n3)) = W7 at *
  clear k11 f11
  go_wp2_with fail
  refine (C4.out _ T7.out).mono ?_
  rintro e W8 ⟨rfl, ht, hk⟩
  have X8 := Aside0.mk (X7.out.keep hk)
  have Y8 := Aside0.mk (Y7.out.keep hk)
  have K8 := Aside0.mk (K7.out.trans hk)
  have T8 := Aside0.mk ht
  clear ht hk C4 T7 K7 X7 Y7
  have k12 := blk_cell Y8.out.blk 12
  have f12 := blk_frozen Y8.out.blk 12
  try dsimp only
  repeat ((fail_if_success (show Code.wp _ (Code.seq (Code.region 12 _ _) _) _ _ _)); (first | go_values | go_skip | go_guarded | go_step | go_upon | go_back))
  have Y9 := Aside0.mk (Y8.out.put 12 (.int .i64 n4) rfl #[.int .i64 n1, .int .i64 n2, .string ⟨#[]⟩, .int .i64 0, .int .i64 0, .int .i64 0, .int .i64 0, .int .i64 0, .int .u32 0, .int .u32 0, .int .i64 0, .int .i64 n3, .int .i64 n4, .int .i64 0, .int .i64 0, .int .u32 0, .int .u32 0, .string ⟨#[]⟩] (by simp) rfl)
  have X9 := Aside0.mk (X8.out.far (fun e => NEYX.out e.symm) 12 (.int .i64 n4) : Mine _ (W8.setCell ⟨b1, 12, none⟩ (.int .i64 n4)) _ _ _ _ _)
  have T9 := Aside0.mk (T8.out.far Y8.out 12 (.int .i64 n4))
  have K9 := Aside0.mk (K8.out.mine Y8.out 12 (.int .i64 n4))
  clear T8 K8 X8 Y8
  generalize (W8.setCell ⟨b1, 12, none⟩ (.int .i64 n4)) = W9 at *
  clear k12 f12
  go_wp2_with fail
  refine (C5.out _ T9.out).mono ?_
  rintro e W10 ⟨rfl, ht, hk⟩
  have X10 := Aside0.mk (X9.out.keep hk)
  have Y10 := Aside0.mk (Y9.out.keep hk)
  have K10 := Aside0.mk (K9.out.trans hk)
  have T10 := Aside0.mk ht
  clear ht hk C5 T9 K9 X9 Y9
  have k13 := blk_cell Y10.out.blk 13
  have f13 := blk_frozen Y10.out.blk 13
  try dsimp only
  repeat ((fail_if_success (show Code.wp _ (Code.seq (Code.region 13 _ _) _) _ _ _)); (first | go_values | go_skip | go_guarded | go_step | go_upon | go_back))
  have Y11 := Aside0.mk (Y10.out.put 13 (.int .i64 n5) rfl #[.int .i64 n1, .int .i64 n2, .string ⟨#[]⟩, .int .i64 0, .int .i64 0, .int .i64 0, .int .i64 0, .int .i64 0, .int .u32 0, .int .u32 0, .int .i64 0, .int .i64 n3, .int .i64 n4, .int .i64 n5, .int .i64 0, .int .u32 0, .int .u32 0, .string ⟨#[]⟩] (by simp) rfl)
  have X11 := Aside0.mk (X10.out.far (fun e => NEYX.out e.symm) 13 (.int .i64 n5) : Mine _ (W10.setCell ⟨b1, 13, none⟩ (.int .i64 n5)) _ _ _ _ _)
  have T11 := Aside0.mk (T10.out.far Y10.out 13 (.int .i64 n5))
  have K11 := Aside0.mk (K10.out.mine Y10.out 13 (.int .i64 n5))
  clear T10 K10 X10 Y10
  generalize (W10.setCell ⟨b1, 13, none⟩ (.int .i64 n5)) = W11 at *
  clear k13 f13
  go_wp2_with fail
  refine (C6.out _ T11.out).mono ?_
  rintro e W12 ⟨rfl, ht, hk⟩
  have X12 := Aside0.mk (X11.out.keep hk)
  have Y12 := Aside0.mk (Y11.out.keep hk)
  have K12 := Aside0.mk (K11.out.trans hk)
  have T12 := Aside0.mk ht
  clear ht hk C6 T11 K11 X11 Y11
  have k14 := blk_cell Y12.out.blk 14
  have f14 := blk_frozen Y12.out.blk 14
  try dsimp only
  repeat ((fail_if_success (show Code.wp _ (Code.seq (Code.region 14 _ _) _) _ _ _)); (first | go_values | go_skip | go_guarded | go_step | go_upon | go_back))
  have Y13 := Aside0.mk (Y12.out.put 14 (.int .i64 n6) rfl #[.int .i64 n1, .int .i64 n2, .string ⟨#[]⟩, .int .i64 0, .int .i64 0, .int .i64 0, .int .i64 0, .int .i64 0, .int .u32 0, .int .u32 0, .int .i64 0, .int .i64 n3, .int .i64 n4, .int .i64 n5, .int .i64 n6, .int .u32 0, .int .u32 0, .string ⟨#[]⟩] (by simp) rfl)
  have X13 := Aside0.mk (X12.out.far (fun e => NEYX.out e.symm) 14 (.int .i64 n6) : Mine _ (W12.setCell ⟨b1, 14, none⟩ (.int .i64 n6)) _ _ _ _ _)
  have T13 := Aside0.mk (T12.out.far Y12.out 14 (.int .i64 n6))
  have K13 := Aside0.mk (K12.out.mine Y12.out 14 (.int .i64 n6))
  clear T12 K12 X12 Y12
  generalize (W12.setCell ⟨b1, 14, none⟩ (.int .i64 n6)) = W13 at *
  clear k14 f14
  go_wp2_with fail
  refine (C7.out _ T13.out).mono ?_
  rintro e W14 ⟨rfl, ht, hk⟩
  have X14 := Aside0.mk (X13.out.keep hk)
  have Y14 := Aside0.mk (Y13.out.keep hk)
  have K14 := Aside0.mk (K13.out.trans hk)
  have T14 := Aside0.mk ht
  clear ht hk C7 T13 K13 X13 Y13
  have k15 := blk_cell Y14.out.blk 15
  have f15 := blk_frozen Y14.out.blk 15
  try dsimp only
  repeat ((fail_if_success (show Code.wp _ (Code.seq (Code.region 15 _ _) _) _ _ _)); (first | go_values | go_skip | go_guarded | go_step | go_upon | go_back))
  have Y15 := Aside0.mk (Y14.out.put 15 (.int .u32 n7) rfl #[.int .i64 n1, .int .i64 n2, .string ⟨#[]⟩, .int .i64 0, .int .i64 0, .int .i64 0, .int .i64 0, .int .i64 0, .int .u32 0, .int .u32 0, .int .i64 0, .int .i64 n3, .int .i64 n4, .int .i64 n5, .int .i64 n6, .int .u32 n7, .int .u32 0, .string ⟨#[]⟩] (by simp) rfl)
  have X15 := Aside0.mk (X14.out.far (fun e => NEYX.out e.symm) 15 (.int .u32 n7) : Mine _ (W14.setCell ⟨b1, 15, none⟩ (.int .u32 n7)) _ _ _ _ _)
  have T15 := Aside0.mk (T14.out.far Y14.out 15 (.int .u32 n7))
  have K15 := Aside0.mk (K14.out.mine Y14.out 15 (.int .u32 n7))
  clear T14 K14 X14 Y14
  generalize (W14.setCell ⟨b1, 15, none⟩ (.int .u32 n7)) = W15 at *
  clear k15 f15
  go_wp2_with fail
  refine (C8.out _ T15.out).mono ?_
  rintro e W16 ⟨rfl, ht, hk⟩
  have X16 := Aside0.mk (X15.out.keep hk)
  have Y16 := Aside0.mk (Y15.out.keep hk)
  have K16 := Aside0.mk (K15.out.trans hk)
  have T16 := Aside0.mk ht
  clear ht hk C8 T15 K15 X15 Y15
  have k16 := blk_cell Y16.out.blk 16
  have f16 := blk_frozen Y16.out.blk 16
  try dsimp only
  repeat ((fail_if_success (show Code.wp _ (Code.region 16 _ _) _ _ _)); (first | go_values | go_skip | go_guarded | go_step | go_upon | go_back))
  have Y17 := Aside0.mk (Y16.out.put 16 (.int .u32 n8) rfl #[.int .i64 n1, .int .i64 n2, .string ⟨#[]⟩, .int .i64 0, .int .i64 0, .int .i64 0, .int .i64 0, .int .i64 0, .int .u32 0, .int .u32 0, .int .i64 0, .int .i64 n3, .int .i64 n4, .int .i64 n5, .int .i64 n6, .int .u32 n7, .int .u32 n8, .string ⟨#[]⟩] (by simp) rfl)
  have X17 := Aside0.mk (X16.out.far (fun e => NEYX.out e.symm) 16 (.int .u32 n8) : Mine _ (W16.setCell ⟨b1, 16, none⟩ (.int .u32 n8)) _ _ _ _ _)
  have T17 := Aside0.mk (T16.out.far Y16.out 16 (.int .u32 n8))
  have K17 := Aside0.mk (K16.out.mine Y16.out 16 (.int .u32 n8))
  clear T16 K16 X16 Y16
  generalize (W16.setCell ⟨b1, 16, none⟩ (.int .u32 n8)) = W17 at *
  clear k16 f16
  go_wp2_with fail
  refine (C9.out _ T17.out).mono ?_
  rintro e W18 ⟨rfl, ht, hk⟩
  have X18 := Aside0.mk (X17.out.keep hk)
  have Y18 := Aside0.mk (Y17.out.keep hk)
  have K18 := Aside0.mk (K17.out.trans hk)
  have T18 := Aside0.mk ht
  clear ht hk C9 T17 K17 X17 Y17
  have k17 := blk_cell Y18.out.blk 17
  have f17 := blk_frozen Y18.out.blk 17
  try dsimp only
  repeat ((fail_if_success (show Code.wp _ (Code.seq (Code.region 17 _ _) _) _ _ _)); (first | go_values | go_skip | go_guarded | go_step | go_upon | go_back))
  have Y19 := Aside0.mk (Y18.out.put 17 (.string n9) rfl #[.int .i64 n1, .int .i64 n2, .string ⟨#[]⟩, .int .i64 0, .int .i64 0, .int .i64 0, .int .i64 0, .int .i64 0, .int .u32 0, .int .u32 0, .int .i64 0, .int .i64 n3, .int .i64 n4, .int .i64 n5, .int .i64 n6, .int .u32 n7, .int .u32 n8, .string n9] (by simp) rfl)
  have X19 := Aside0.mk (X18.out.far (fun e => NEYX.out e.symm) 17 (.string n9) : Mine _ (W18.setCell ⟨b1, 17, none⟩ (.string n9)) _ _ _ _ _)
  have T19 := Aside0.mk (T18.out.far Y18.out 17 (.string n9))
  have K19 := Aside0.mk (K18.out.mine Y18.out 17 (.string n9))
  clear T18 K18 X18 Y18
  generalize (W18.setCell ⟨b1, 17, none⟩ (.string n9)) = W19 at *
  clear k17 f17
  have CW := Aside0.mk (whole_any t m9 W19 T19.out)
  rw [hB] at CW
  clear hB
  go_wp2_with fail
  refine (CW.out).mono ?_
  rintro e W20 ⟨rfl, hb⟩
  have X20 := Aside0.mk (X19.out.below hb)
  have Y20 := Aside0.mk (Y19.out.below hb)
  have K20 := Aside0.mk (K19.out.trans (Keep2.of hb))
  have T20 := Aside0.mk (T19.out.below hb)
  clear hb T19 K19 X19 Y19
  clear CW
  try dsimp only
  repeat ((fail_if_success (show Oper.wp _ (Oper.mk _ (Op.load 36 _) _ _ _ _) _ _ _ _)); (first | go_values | go_skip | go_guarded | go_step | go_upon | go_back))
  refine wp_load_row Y20.out.blk rfl rfl Try.underlying36 rfl (by kernel_rfl) ?_
  try go_simp
  go_wp2_with fail
  refine (CR.out W20).mono ?_
  rintro e W21 ⟨rfl, hb⟩
  have X21 := Aside0.mk (X20.out.below hb)
  have Y21 := Aside0.mk (Y20.out.below hb)
  have K21 := Aside0.mk (K20.out.trans (Keep2.of hb))
  have T21 := Aside0.mk (T20.out.below hb)
  clear hb T20 K20 X20 Y20
  clear CR
  try dsimp only
  cases wb with
  | false =>
    have HE := Aside0.mk (HO.out.trans (if_neg (by simp)))
    repeat ((fail_if_success (show Oper.wp _ (Oper.mk none (Op.store _ _ _) _ _ _ _) _ _ _ _)); (first | go_values | go_skip | go_guarded | go_step | go_upon | go_back))
    refine wp_store_row (c' := #[.int .i64 0, .int .i64 0, .string ⟨#[]⟩, .int .i64 0, .int .i64 0, .int .i64 0, .int .i64 0, .int .i64 0, .int .u32 0, .int .u32 0, .int .i64 0, .int .i64 0, .int .i64 0, .int .i64 0, .int .i64 0, .int .u32 0, .int .u32 0, .string ⟨#[]⟩]) X21.out.blk rfl rfl rfl rfl (by kernel_rfl) rfl (by simp [Value.oneCell']) ?_
    have X22 := Aside0.mk (X21.out.row #[.int .i64 0, .int .i64 0, .string ⟨#[]⟩, .int .i64 0, .int .i64 0, .int .i64 0, .int .i64 0, .int .i64 0, .int .u32 0, .int .u32 0, .int .i64 0, .int .i64 0, .int .i64 0, .int .i64 0, .int .i64 0, .int .u32 0, .int .u32 0, .string ⟨#[]⟩] rfl)
    have Y22 := Aside0.mk (Y21.out.farRow NEYX.out #[.int .i64 0, .int .i64 0, .string ⟨#[]⟩, .int .i64 0, .int .i64 0, .int .i64 0, .int .i64 0, .int .i64 0, .int .u32 0, .int .u32 0, .int .i64 0, .int .i64 0, .int .i64 0, .int .i64 0, .int .i64 0, .int .u32 0, .int .u32 0, .string ⟨#[]⟩] : Mine _ (W21.setRow w.heap.size #[.int .i64 0, .int .i64 0, .string ⟨#[]⟩, .int .i64 0, .int .i64 0, .int .i64 0, .int .i64 0, .int .i64 0, .int .u32 0, .int .u32 0, .int .i64 0, .int .i64 0, .int .i64 0, .int .i64 0, .int .i64 0, .int .u32 0, .int .u32 0, .string ⟨#[]⟩]) _ _ _ _ _)
    have T22 := Aside0.mk (T21.out.farRow X21.out #[.int .i64 0, .int .i64 0, .string ⟨#[]⟩, .int .i64 0, .int .i64 0, .int .i64 0, .int .i64 0, .int .i64 0, .int .u32 0, .int .u32 0, .int .i64 0, .int .i64 0, .int .i64 0, .int .i64 0, .int .i64 0, .int .u32 0, .int .u32 0, .string ⟨#[]⟩])
    have K22 := Aside0.mk (K21.out.mineRow X21.out #[.int .i64 0, .int .i64 0, .string ⟨#[]⟩, .int .i64 0, .int .i64 0, .int .i64 0, .int .i64 0, .int .i64 0, .int .u32 0, .int .u32 0, .int .i64 0, .int .i64 0, .int .i64 0, .int .i64 0, .int .i64 0, .int .u32 0, .int .u32 0, .string ⟨#[]⟩])
    clear T21 K21 X21 Y21
    generalize W21.setRow w.heap.size #[.int .i64 0, .int .i64 0, .string ⟨#[]⟩, .int .i64 0, .int .i64 0, .int .i64 0, .int .i64 0, .int .i64 0, .int .u32 0, .int .u32 0, .int .i64 0, .int .i64 0, .int .i64 0, .int .i64 0, .int .i64 0, .int .u32 0, .int .u32 0, .string ⟨#[]⟩] = W22 at *
    go_wp2_with fail
    exact bodyPost_ret (v := .tuple #[.agg #[.int .i64 0, .int .i64 0, .string ⟨#[]⟩, .int .i64 0, .int .i64 0, .int .i64 0, .int .i64 0, .int .i64 0, .int .u32 0, .int .u32 0, .int .i64 0, .int .i64 0, .int .i64 0, .int .i64 0, .int .i64 0, .int .u32 0, .int .u32 0, .string ⟨#[]⟩], .int .i64 171]) (results_row rfl rfl rfl X22.out.blk Try.underlying36 rfl (by kernel_rfl)) rfl ⟨by rw [HE.out]; rfl, Keep2.below K22.out (Below.refl w.heap.size w) HT.out HT.out (Nat.le_refl _)⟩
  | true =>
    cases rb with
    | true =>
      have HE := Aside0.mk (HO.out.trans (if_pos rfl))
      repeat ((fail_if_success (show Oper.wp _ (Oper.mk _ (Op.load 36 _) _ _ _ _) _ _ _ _)); (first | go_values | go_skip | go_guarded | go_step | go_upon | go_back))
      refine wp_load_row Y21.out.blk rfl rfl Try.underlying36 rfl (by kernel_rfl) ?_
      try go_simp
      try dsimp only
      repeat ((fail_if_success (show Oper.wp _ (Oper.mk none (Op.store _ _ _) _ _ _ _) _ _ _ _)); (first | go_values | go_skip | go_guarded | go_step | go_upon | go_back))
      refine wp_store_row (c' := #[.int .i64 n1, .int .i64 n2, .string ⟨#[]⟩, .int .i64 0, .int .i64 0, .int .i64 0, .int .i64 0, .int .i64 0, .int .u32 0, .int .u32 0, .int .i64 0, .int .i64 n3, .int .i64 n4, .int .i64 n5, .int .i64 n6, .int .u32 n7, .int .u32 n8, .string n9]) X21.out.blk rfl rfl rfl rfl (by kernel_rfl) rfl (by simp [Value.oneCell']) ?_
      have X22 := Aside0.mk (X21.out.row #[.int .i64 n1, .int .i64 n2, .string ⟨#[]⟩, .int .i64 0, .int .i64 0, .int .i64 0, .int .i64 0, .int .i64 0, .int .u32 0, .int .u32 0, .int .i64 0, .int .i64 n3, .int .i64 n4, .int .i64 n5, .int .i64 n6, .int .u32 n7, .int .u32 n8, .string n9] rfl)
      have Y22 := Aside0.mk (Y21.out.farRow NEYX.out #[.int .i64 n1, .int .i64 n2, .string ⟨#[]⟩, .int .i64 0, .int .i64 0, .int .i64 0, .int .i64 0, .int .i64 0, .int .u32 0, .int .u32 0, .int .i64 0, .int .i64 n3, .int .i64 n4, .int .i64 n5, .int .i64 n6, .int .u32 n7, .int .u32 n8, .string n9] : Mine _ (W21.setRow w.heap.size #[.int .i64 n1, .int .i64 n2, .string ⟨#[]⟩, .int .i64 0, .int .i64 0, .int .i64 0, .int .i64 0, .int .i64 0, .int .u32 0, .int .u32 0, .int .i64 0, .int .i64 n3, .int .i64 n4, .int .i64 n5, .int .i64 n6, .int .u32 n7, .int .u32 n8, .string n9]) _ _ _ _ _)
      have T22 := Aside0.mk (T21.out.farRow X21.out #[.int .i64 n1, .int .i64 n2, .string ⟨#[]⟩, .int .i64 0, .int .i64 0, .int .i64 0, .int .i64 0, .int .i64 0, .int .u32 0, .int .u32 0, .int .i64 0, .int .i64 n3, .int .i64 n4, .int .i64 n5, .int .i64 n6, .int .u32 n7, .int .u32 n8, .string n9])
      have K22 := Aside0.mk (K21.out.mineRow X21.out #[.int .i64 n1, .int .i64 n2, .string ⟨#[]⟩, .int .i64 0, .int .i64 0, .int .i64 0, .int .i64 0, .int .i64 0, .int .u32 0, .int .u32 0, .int .i64 0, .int .i64 n3, .int .i64 n4, .int .i64 n5, .int .i64 n6, .int .u32 n7, .int .u32 n8, .string n9])
      clear T21 K21 X21 Y21
      generalize W21.setRow w.heap.size #[.int .i64 n1, .int .i64 n2, .string ⟨#[]⟩, .int .i64 0, .int .i64 0, .int .i64 0, .int .i64 0, .int .i64 0, .int .u32 0, .int .u32 0, .int .i64 0, .int .i64 n3, .int .i64 n4, .int .i64 n5, .int .i64 n6, .int .u32 n7, .int .u32 n8, .string n9] = W22 at *
      go_wp2_with fail
      exact bodyPost_ret (v := .tuple #[.agg #[.int .i64 n1, .int .i64 n2, .string ⟨#[]⟩, .int .i64 0, .int .i64 0, .int .i64 0, .int .i64 0, .int .i64 0, .int .u32 0, .int .u32 0, .int .i64 0, .int .i64 n3, .int .i64 n4, .int .i64 n5, .int .i64 n6, .int .u32 n7, .int .u32 n8, .string n9], .int .i64 0]) (results_row rfl rfl rfl X22.out.blk Try.underlying36 rfl (by kernel_rfl)) rfl ⟨by rw [HE.out]; rfl, Keep2.below K22.out (Below.refl w.heap.size w) HT.out HT.out (Nat.le_refl _)⟩
    | false =>
      have HE := Aside0.mk (HO.out.trans (if_neg (by simp)))
      repeat ((fail_if_success (show Oper.wp _ (Oper.mk none (Op.store _ _ _) _ _ _ _) _ _ _ _)); (first | go_values | go_skip | go_guarded | go_step | go_upon | go_back))
      refine wp_store_row (c' := #[.int .i64 0, .int .i64 0, .string ⟨#[]⟩, .int .i64 0, .int .i64 0, .int .i64 0, .int .i64 0, .int .i64 0, .int .u32 0, .int .u32 0, .int .i64 0, .int .i64 0, .int .i64 0, .int .i64 0, .int .i64 0, .int .u32 0, .int .u32 0, .string ⟨#[]⟩]) X21.out.blk rfl rfl rfl rfl (by kernel_rfl) rfl (by simp [Value.oneCell']) ?_
      have X22 := Aside0.mk (X21.out.row #[.int .i64 0, .int .i64 0, .string ⟨#[]⟩, .int .i64 0, .int .i64 0, .int .i64 0, .int .i64 0, .int .i64 0, .int .u32 0, .int .u32 0, .int .i64 0, .int .i64 0, .int .i64 0, .int .i64 0, .int .i64 0, .int .u32 0, .int .u32 0, .string ⟨#[]⟩] rfl)
      have Y22 := Aside0.mk (Y21.out.farRow NEYX.out #[.int .i64 0, .int .i64 0, .string ⟨#[]⟩, .int .i64 0, .int .i64 0, .int .i64 0, .int .i64 0, .int .i64 0, .int .u32 0, .int .u32 0, .int .i64 0, .int .i64 0, .int .i64 0, .int .i64 0, .int .i64 0, .int .u32 0, .int .u32 0, .string ⟨#[]⟩] : Mine _ (W21.setRow w.heap.size #[.int .i64 0, .int .i64 0, .string ⟨#[]⟩, .int .i64 0, .int .i64 0, .int .i64 0, .int .i64 0, .int .i64 0, .int .u32 0, .int .u32 0, .int .i64 0, .int .i64 0, .int .i64 0, .int .i64 0, .int .i64 0, .int .u32 0, .int .u32 0, .string ⟨#[]⟩]) _ _ _ _ _)
      have T22 := Aside0.mk (T21.out.farRow X21.out #[.int .i64 0, .int .i64 0, .string ⟨#[]⟩, .int .i64 0, .int .i64 0, .int .i64 0, .int .i64 0, .int .i64 0, .int .u32 0, .int .u32 0, .int .i64 0, .int .i64 0, .int .i64 0, .int .i64 0, .int .i64 0, .int .u32 0, .int .u32 0, .string ⟨#[]⟩])
      have K22 := Aside0.mk (K21.out.mineRow X21.out #[.int .i64 0, .int .i64 0, .string ⟨#[]⟩, .int .i64 0, .int .i64 0, .int .i64 0, .int .i64 0, .int .i64 0, .int .u32 0, .int .u32 0, .int .i64 0, .int .i64 0, .int .i64 0, .int .i64 0, .int .i64 0, .int .u32 0, .int .u32 0, .string ⟨#[]⟩])
      clear T21 K21 X21 Y21
      generalize W21.setRow w.heap.size #[.int .i64 0, .int .i64 0, .string ⟨#[]⟩, .int .i64 0, .int .i64 0, .int .i64 0, .int .i64 0, .int .i64 0, .int .u32 0, .int .u32 0, .int .i64 0, .int .i64 0, .int .i64 0, .int .i64 0, .int .i64 0, .int .u32 0, .int .u32 0, .string ⟨#[]⟩] = W22 at *
      go_wp2_with fail
      exact bodyPost_ret (v := .tuple #[.agg #[.int .i64 0, .int .i64 0, .string ⟨#[]⟩, .int .i64 0, .int .i64 0, .int .i64 0, .int .i64 0, .int .i64 0, .int .u32 0, .int .u32 0, .int .i64 0, .int .i64 0, .int .i64 0, .int .i64 0, .int .i64 0, .int .u32 0, .int .u32 0, .string ⟨#[]⟩], .int .i64 171]) (results_row rfl rfl rfl X22.out.blk Try.underlying36 rfl (by kernel_rfl)) rfl ⟨by rw [HE.out]; rfl, Keep2.below K22.out (Below.refl w.heap.size w) HT.out HT.out (Nat.le_refl _)⟩
theorem refdec_any (A : Option Addr) (c : Nat) (l : List Int) (w : World) (hC : Kd.C (Kd.int .u8) w A l.length l) (hc : l.length ≤ c) (hl : l.length < 140737488355328) (hby : bytes l) :
    Calls Try.prog 13 #[.slice A l.length c] w fun e w' => e = .returned (.tuple #[.agg (rqVals (decOut l).1).toArray, .int .i64 (decOut l).2]) ∧ Below w.heap.size w w' := by
  rcases q1 : numM 9 ⟨l, false⟩ with ⟨n1, m1⟩
  rcases q2 : numM 255 m1 with ⟨n2, m2⟩
  rcases partK_4 n1 with hp | hp | hp | hp
  · have HD : decM l = (⟨n1, n2, ⟨#[]⟩, 0, zRu, 0, 0, 0, 0, 0, 0, ⟨#[]⟩⟩, m2) := by unfold decM; simp only [q1, q2, hp]; simp
    exact refdec_0 A c l w hC hc hl hby n1 m1 q1 n2 m2 q2 hp _ _ rfl rfl _ (by unfold decOut; rw [HD]; exact out_eq m2 _ _ _)
  · rcases q3 : textM 40 m2 with ⟨n3, m3⟩
    have HD : decM l = (⟨n1, n2, n3, 0, zRu, 0, 0, 0, 0, 0, 0, ⟨#[]⟩⟩, m3) := by unfold decM; simp only [q1, q2, q3, hp]; simp
    exact refdec_1 A c l w hC hc hl hby n1 m1 q1 n2 m2 q2 n3 m3 q3 hp _ _ rfl rfl _ (by unfold decOut; rw [HD]; exact out_eq m3 _ _ _)
  · rcases q3 : numM 255 m2 with ⟨n3, m3⟩
    rcases q4 : ruleM m3 with ⟨n4, m4⟩
    have HD : decM l = (⟨n1, n2, ⟨#[]⟩, n3, n4, 0, 0, 0, 0, 0, 0, ⟨#[]⟩⟩, m4) := by unfold decM; simp only [q1, q2, q3, q4, hp]; simp
    exact refdec_2 A c l w hC hc hl hby n1 m1 q1 n2 m2 q2 n3 m3 q3 n4 m4 q4 hp _ _ rfl rfl _ (by unfold decOut; rw [HD]; exact out_eq m4 _ _ _)
  · rcases q3 : numM 255 m2 with ⟨n3, m3⟩
    rcases q4 : numM 255 m3 with ⟨n4, m4⟩
    rcases q5 : numM 255 m4 with ⟨n5, m5⟩
    rcases q6 : numM 255 m5 with ⟨n6, m6⟩
    rcases q7 : numM wideW m6 with ⟨n7, m7⟩
    rcases q8 : numM wideW m7 with ⟨n8, m8⟩
    rcases q9 : textM 40 m8 with ⟨n9, m9⟩
    have HD : decM l = (⟨n1, n2, ⟨#[]⟩, 0, zRu, n3, n4, n5, n6, n7, n8, n9⟩, m9) := by unfold decM; simp only [q1, q2, q3, q4, q5, q6, q7, q8, q9, hp]; simp
    exact refdec_3 A c l w hC hc hl hby n1 m1 q1 n2 m2 q2 n3 m3 q3 n4 m4 q4 n5 m5 q5 n6 m6 q6 n7 m7 q7 n8 m8 q8 n9 m9 q9 hp _ _ rfl rfl _ (by unfold decOut; rw [HD]; exact out_eq m9 _ _ _)
end Go.Proofs.Ytpaknjmcjblahaa.H
