/- Wir5. -/
import Derived.Test.YtpaknjmcjblahaaEWir4
namespace Go.Proofs.Ytpaknjmcjblahaa.H
open Go.RowKit Go.Proofs.Ytpaknjmcjblahaa.P Go.Proofs.YtpaknjmcjblahaaW.PrintWords Go.Proofs.YtpaknjmcjblahaaW.PrintLast Go.Proofs.YtpaknjmcjblahaaW.PrintMore
set_option linter.unusedVariables false
set_option linter.unusedSimpArgs false
set_option maxRecDepth 20000
set_option maxHeartbeats 4000000 in
theorem trule_any (t h : Nat) (m : Mc) (w : World) (k : TK w t h m) :
    Calls Try.prog 33 #[.pointer (some ⟨t, 0, none⟩)] w fun e w' => e = .returned (.agg (ruleVals (ruleM m).1).toArray) ∧ TK w' t h (ruleM m).2 ∧ Keep2 t h w w' := by
  have hby : bytes m.rest := k.bytes
  have hb1 := numM_bound wideW m hby (by decide)
  replace hby := numM_bytes wideW m hby
  rcases q1 : numM wideW m with ⟨n1, m1⟩
  rw [q1] at hb1 hby
  simp only [] at hb1 hby
  have C1 := Aside0.mk (fun W k => tnum_any t h m wideW (by decide) (by decide) W k)
  rw [q1] at C1
  have hb2 := numM_bound wideW m1 hby (by decide)
  replace hby := numM_bytes wideW m1 hby
  rcases q2 : numM wideW m1 with ⟨n2, m2⟩
  rw [q2] at hb2 hby
  simp only [] at hb2 hby
  have C2 := Aside0.mk (fun W k => tnum_any t h m1 wideW (by decide) (by decide) W k)
  rw [q2] at C2
  have hb3 := numM_bound wideW m2 hby (by decide)
  replace hby := numM_bytes wideW m2 hby
  rcases q3 : numM wideW m2 with ⟨n3, m3⟩
  rw [q3] at hb3 hby
  simp only [] at hb3 hby
  have C3 := Aside0.mk (fun W k => tnum_any t h m2 wideW (by decide) (by decide) W k)
  rw [q3] at C3
  have hb4 := numM_bound wideW m3 hby (by decide)
  replace hby := numM_bytes wideW m3 hby
  rcases q4 : numM wideW m3 with ⟨n4, m4⟩
  rw [q4] at hb4 hby
  simp only [] at hb4 hby
  have C4 := Aside0.mk (fun W k => tnum_any t h m3 wideW (by decide) (by decide) W k)
  rw [q4] at C4
  have hb5 := numM_bound wideW m4 hby (by decide)
  replace hby := numM_bytes wideW m4 hby
  rcases q5 : numM wideW m4 with ⟨n5, m5⟩
  rw [q5] at hb5 hby
  simp only [] at hb5 hby
  have C5 := Aside0.mk (fun W k => tnum_any t h m4 wideW (by decide) (by decide) W k)
  rw [q5] at C5
  have hb6 := numM_bound wideW m5 hby (by decide)
  replace hby := numM_bytes wideW m5 hby
  rcases q6 : numM wideW m5 with ⟨n6, m6⟩
  rw [q6] at hb6 hby
  simp only [] at hb6 hby
  have C6 := Aside0.mk (fun W k => tnum_any t h m5 wideW (by decide) (by decide) W k)
  rw [q6] at C6
  have hb7 := numM_bound wideW m6 hby (by decide)
  replace hby := numM_bytes wideW m6 hby
  rcases q7 : numM wideW m6 with ⟨n7, m7⟩
  rw [q7] at hb7 hby
  simp only [] at hb7 hby
  have C7 := Aside0.mk (fun W k => tnum_any t h m6 wideW (by decide) (by decide) W k)
  rw [q7] at C7
  have HR := Aside0.mk (show ruleM m = (⟨n1, n2, n3, n4, ⟨n5, n6⟩, n7⟩, m7) from by unfold ruleM; simp only [q1, q2, q3, q4, q5, q6, q7])
  rw [HR.out]
  have hw : wideW = 4294967295 := rfl
  rw [hw] at hb5 hb6 C1 C2 C3 C4 C5 C6 C7
  have e5 : n5 % 4294967296 = n5 := Int.emod_eq_of_lt hb5.1 (by omega)
  have e6 : n6 % 4294967296 = n6 := Int.emod_eq_of_lt hb6.1 (by omega)
  simp only [] at C1 C2 C3 C4 C5 C6 C7
  clear q1 q2 q3 q4 q5 q6 q7 hw hby hb1 hb2 hb3 hb4 hb5 hb6 hb7 HR
  have K0 := Aside0.mk ((Keep2.refl _ _ w).alloc (.cells #[.int .i64 0, .int .i64 0, .int .i64 0, .int .i64 0, .int .u32 0, .int .u32 0, .int .i64 0] 29) : Keep2 t h w _)
  have X0 := Aside0.mk (mine_new (Keep2.refl _ _ w) k.lt #[.int .i64 0, .int .i64 0, .int .i64 0, .int .i64 0, .int .u32 0, .int .u32 0, .int .i64 0] 29 rfl)
  have T0 := Aside0.mk (k.below ((Below.refl w.heap.size w).alloc (Nat.le_refl _) (.cells #[.int .i64 0, .int .i64 0, .int .i64 0, .int .i64 0, .int .u32 0, .int .u32 0, .int .i64 0] 29)))
  clear k
  go_enter Try.func33, Try.ntmps33
  go_wp2_with fail
  generalize (w.alloc (.cells #[.int .i64 0, .int .i64 0, .int .i64 0, .int .i64 0, .int .u32 0, .int .u32 0, .int .i64 0] 29)) = W0 at *
  refine (C1.out _ T0.out).mono ?_
  rintro e W1 ⟨rfl, ht, hk⟩
  have X1 := Aside0.mk (X0.out.keep hk)
  have K1 := Aside0.mk (K0.out.trans hk)
  have T1 := Aside0.mk ht
  clear ht hk C1 K0 T0 X0
  go_wp2_with fail
  refine (C2.out _ T1.out).mono ?_
  rintro e W2 ⟨rfl, ht, hk⟩
  have X2 := Aside0.mk (X1.out.keep hk)
  have K2 := Aside0.mk (K1.out.trans hk)
  have T2 := Aside0.mk ht
  clear ht hk C2 K1 T1 X1
  go_wp2_with fail
  refine (C3.out _ T2.out).mono ?_
  rintro e W3 ⟨rfl, ht, hk⟩
  have X3 := Aside0.mk (X2.out.keep hk)
  have K3 := Aside0.mk (K2.out.trans hk)
  have T3 := Aside0.mk ht
  clear ht hk C3 K2 T2 X2
  go_wp2_with fail
  refine (C4.out _ T3.out).mono ?_
  rintro e W4 ⟨rfl, ht, hk⟩
  have X4 := Aside0.mk (X3.out.keep hk)
  have K4 := Aside0.mk (K3.out.trans hk)
  have T4 := Aside0.mk ht
  clear ht hk C4 K3 T3 X3
  have hbn := (Below.refl W4.heap.size W4).alloc (Nat.le_refl _) (.cells #[.int .i64 n1, .int .i64 n2, .int .i64 n3, .int .i64 n4, .int .u32 0, .int .u32 0, .int .i64 0] 29)
  have Y5 := Aside0.mk (mine_new K4.out T4.out.lt #[.int .i64 n1, .int .i64 n2, .int .i64 n3, .int .i64 n4, .int .u32 0, .int .u32 0, .int .i64 0] 29 rfl)
  have HNE := Aside0.mk (show W4.heap.size ≠ w.heap.size from by have := blk_lt X4.out.blk; omega)
  have X5 := Aside0.mk (X4.out.below hbn)
  have T5 := Aside0.mk (T4.out.below hbn)
  have K5 := Aside0.mk (K4.out.alloc (.cells #[.int .i64 n1, .int .i64 n2, .int .i64 n3, .int .i64 n4, .int .u32 0, .int .u32 0, .int .i64 0] 29))
  clear hbn X4 T4 K4
  go_wp2_with fail
  generalize (W4.alloc (.cells #[.int .i64 n1, .int .i64 n2, .int .i64 n3, .int .i64 n4, .int .u32 0, .int .u32 0, .int .i64 0] 29)) = W5 at *
  generalize W4.heap.size = b1 at *
  refine (C5.out _ T5.out).mono ?_
  rintro e W6 ⟨rfl, ht, hk⟩
  have X6 := Aside0.mk (X5.out.keep hk)
  have Y6 := Aside0.mk (Y5.out.keep hk)
  have K6 := Aside0.mk (K5.out.trans hk)
  have T6 := Aside0.mk ht
  clear ht hk C5 K5 T5 X5 Y5
  go_wp2_with fail
  refine (C6.out _ T6.out).mono ?_
  rintro e W7 ⟨rfl, ht, hk⟩
  have X7 := Aside0.mk (X6.out.keep hk)
  have Y7 := Aside0.mk (Y6.out.keep hk)
  have K7 := Aside0.mk (K6.out.trans hk)
  have T7 := Aside0.mk ht
  clear ht hk C6 K6 T6 X6 Y6
  have k4 := blk_cell Y7.out.blk 4
  have k5 := blk_cell Y7.out.blk 5
  have f4 := blk_frozen Y7.out.blk 4
  have f5 := blk_frozen Y7.out.blk 5
  try dsimp only
  repeat ((fail_if_success (show Code.wp _ (Code.seq (Code.region 3 _ _) _) _ _ _)); (first | go_values | go_skip | go_guarded | go_step | go_upon | go_back))
  have Y8 := Aside0.mk (Y7.out.put 4 (.int .u32 n5) rfl #[.int .i64 n1, .int .i64 n2, .int .i64 n3, .int .i64 n4, .int .u32 n5, .int .u32 0, .int .i64 0] (by simp) rfl)
  have X8 := Aside0.mk (X7.out.far (fun e => HNE.out e.symm) 4 (.int .u32 n5) : Mine _ (W7.setCell ⟨b1, 4, none⟩ (.int .u32 n5)) _ _ _ _ _)
  have T8 := Aside0.mk (T7.out.far Y7.out 4 (.int .u32 n5))
  have K8 := Aside0.mk (K7.out.mine Y7.out 4 (.int .u32 n5))
  clear X7 Y7 T7 K7
  generalize (W7.setCell ⟨b1, 4, none⟩ (.int .u32 n5)) = W8 at *
  have Y9 := Aside0.mk (Y8.out.put 5 (.int .u32 n6) rfl #[.int .i64 n1, .int .i64 n2, .int .i64 n3, .int .i64 n4, .int .u32 n5, .int .u32 n6, .int .i64 0] (by simp) rfl)
  have X9 := Aside0.mk (X8.out.far (fun e => HNE.out e.symm) 5 (.int .u32 n6) : Mine _ (W8.setCell ⟨b1, 5, none⟩ (.int .u32 n6)) _ _ _ _ _)
  have T9 := Aside0.mk (T8.out.far Y8.out 5 (.int .u32 n6))
  have K9 := Aside0.mk (K8.out.mine Y8.out 5 (.int .u32 n6))
  clear X8 Y8 T8 K8
  generalize (W8.setCell ⟨b1, 5, none⟩ (.int .u32 n6)) = W9 at *
  clear k4 k5 f4 f5
  go_wp2_with fail
  refine (C7.out _ T9.out).mono ?_
  rintro e W10 ⟨rfl, ht, hk⟩
  have X10 := Aside0.mk (X9.out.keep hk)
  have Y10 := Aside0.mk (Y9.out.keep hk)
  have K10 := Aside0.mk (K9.out.trans hk)
  have T10 := Aside0.mk ht
  clear ht hk C7 K9 T9 X9 Y9
  have k6 := blk_cell Y10.out.blk 6
  have f6 := blk_frozen Y10.out.blk 6
  try dsimp only
  repeat ((fail_if_success (show Code.wp _ (Code.seq (Code.region 4 _ _) _) _ _ _)); (first | go_values | go_skip | go_guarded | go_step | go_upon | go_back))
  have Y11 := Aside0.mk (Y10.out.put 6 (.int .i64 n7) rfl #[.int .i64 n1, .int .i64 n2, .int .i64 n3, .int .i64 n4, .int .u32 n5, .int .u32 n6, .int .i64 n7] (by simp) rfl)
  have X11 := Aside0.mk (X10.out.far (fun e => HNE.out e.symm) 6 (.int .i64 n7) : Mine _ (W10.setCell ⟨b1, 6, none⟩ (.int .i64 n7)) _ _ _ _ _)
  have T11 := Aside0.mk (T10.out.far Y10.out 6 (.int .i64 n7))
  have K11 := Aside0.mk (K10.out.mine Y10.out 6 (.int .i64 n7))
  clear X10 Y10 T10 K10
  generalize (W10.setCell ⟨b1, 6, none⟩ (.int .i64 n7)) = W11 at *
  clear k6 f6
  have y0 := blk_cell Y11.out.blk 0
  have x0 := blk_cell X11.out.blk 0
  have g0 := blk_frozen X11.out.blk 0
  have y1 := blk_cell Y11.out.blk 1
  have x1 := blk_cell X11.out.blk 1
  have g1 := blk_frozen X11.out.blk 1
  have y2 := blk_cell Y11.out.blk 2
  have x2 := blk_cell X11.out.blk 2
  have g2 := blk_frozen X11.out.blk 2
  have y3 := blk_cell Y11.out.blk 3
  have x3 := blk_cell X11.out.blk 3
  have g3 := blk_frozen X11.out.blk 3
  have y4 := blk_cell Y11.out.blk 4
  have x4 := blk_cell X11.out.blk 4
  have g4 := blk_frozen X11.out.blk 4
  have y5 := blk_cell Y11.out.blk 5
  have x5 := blk_cell X11.out.blk 5
  have g5 := blk_frozen X11.out.blk 5
  have y6 := blk_cell Y11.out.blk 6
  have x6 := blk_cell X11.out.blk 6
  have g6 := blk_frozen X11.out.blk 6
  go_wp2_with fail
  have r := (blk_set (blk_set (blk_set (blk_set (blk_set (blk_set (blk_set X11.out.blk 0 (.int .i64 n1)) 1 (.int .i64 n2)) 2 (.int .i64 n3)) 3 (.int .i64 n4)) 4 (.int .u32 n5)) 5 (.int .u32 n6)) 6 (.int .i64 n7))
  have r0 := blk_cell r 0
  have r1 := blk_cell r 1
  have r2 := blk_cell r 2
  have r3 := blk_cell r 3
  have r4 := blk_cell r 4
  have r5 := blk_cell r 5
  have r6 := blk_cell r 6
  have Z1 := Aside0.mk (X11.out.put 0 (.int .i64 n1) rfl #[.int .i64 n1, .int .i64 0, .int .i64 0, .int .i64 0, .int .u32 0, .int .u32 0, .int .i64 0] (by simp) rfl)
  have U1 := Aside0.mk (T11.out.far X11.out 0 (.int .i64 n1))
  have V1 := Aside0.mk (K11.out.mine X11.out 0 (.int .i64 n1))
  have Z2 := Aside0.mk (Z1.out.put 1 (.int .i64 n2) rfl #[.int .i64 n1, .int .i64 n2, .int .i64 0, .int .i64 0, .int .u32 0, .int .u32 0, .int .i64 0] (by simp) rfl)
  have U2 := Aside0.mk (U1.out.far Z1.out 1 (.int .i64 n2))
  have V2 := Aside0.mk (V1.out.mine Z1.out 1 (.int .i64 n2))
  have Z3 := Aside0.mk (Z2.out.put 2 (.int .i64 n3) rfl #[.int .i64 n1, .int .i64 n2, .int .i64 n3, .int .i64 0, .int .u32 0, .int .u32 0, .int .i64 0] (by simp) rfl)
  have U3 := Aside0.mk (U2.out.far Z2.out 2 (.int .i64 n3))
  have V3 := Aside0.mk (V2.out.mine Z2.out 2 (.int .i64 n3))
  have Z4 := Aside0.mk (Z3.out.put 3 (.int .i64 n4) rfl #[.int .i64 n1, .int .i64 n2, .int .i64 n3, .int .i64 n4, .int .u32 0, .int .u32 0, .int .i64 0] (by simp) rfl)
  have U4 := Aside0.mk (U3.out.far Z3.out 3 (.int .i64 n4))
  have V4 := Aside0.mk (V3.out.mine Z3.out 3 (.int .i64 n4))
  have Z5 := Aside0.mk (Z4.out.put 4 (.int .u32 n5) rfl #[.int .i64 n1, .int .i64 n2, .int .i64 n3, .int .i64 n4, .int .u32 n5, .int .u32 0, .int .i64 0] (by simp) rfl)
  have U5 := Aside0.mk (U4.out.far Z4.out 4 (.int .u32 n5))
  have V5 := Aside0.mk (V4.out.mine Z4.out 4 (.int .u32 n5))
  have Z6 := Aside0.mk (Z5.out.put 5 (.int .u32 n6) rfl #[.int .i64 n1, .int .i64 n2, .int .i64 n3, .int .i64 n4, .int .u32 n5, .int .u32 n6, .int .i64 0] (by simp) rfl)
  have U6 := Aside0.mk (U5.out.far Z5.out 5 (.int .u32 n6))
  have V6 := Aside0.mk (V5.out.mine Z5.out 5 (.int .u32 n6))
  have Z7 := Aside0.mk (Z6.out.put 6 (.int .i64 n7) rfl #[.int .i64 n1, .int .i64 n2, .int .i64 n3, .int .i64 n4, .int .u32 n5, .int .u32 n6, .int .i64 n7] (by simp) rfl)
  have U7 := Aside0.mk (U6.out.far Z6.out 6 (.int .i64 n7))
  have V7 := Aside0.mk (V6.out.mine Z6.out 6 (.int .i64 n7))
  exact bodyPost_ret (v := .agg #[.int .i64 n1, .int .i64 n2, .int .i64 n3, .int .i64 n4, .int .u32 n5, .int .u32 n6, .int .i64 n7]) (by simp [results, Try.results33, go_sem, r0, r1, r2, r3, r4, r5, r6]) rfl ⟨rfl, U7.out, V7.out⟩
set_option maxHeartbeats 4000000 in
theorem refrule_any (t : Nat) (m : Mc) (w : World) (k : RT w t m) :
    Calls Try.prog 37 #[.pointer (some ⟨t, 0, none⟩)] w fun e w' => e = .returned (.agg (ruleVals (ruleM m).1).toArray) ∧ RT w' t (ruleM m).2 ∧ Keep2 t t w w' := by
  have hby : bytes m.rest := (by obtain ⟨B, d, b, i, hR, hd, hb, _⟩ := k; rw [← hd]; exact bytes_drop hb i)
  have hb1 := numM_bound wideW m hby (by decide)
  replace hby := numM_bytes wideW m hby
  rcases q1 : numM wideW m with ⟨n1, m1⟩
  rw [q1] at hb1 hby
  simp only [] at hb1 hby
  have C1 := Aside0.mk (fun W k => refN_any t m wideW (by decide) (by decide) W k)
  rw [q1] at C1
  have hb2 := numM_bound wideW m1 hby (by decide)
  replace hby := numM_bytes wideW m1 hby
  rcases q2 : numM wideW m1 with ⟨n2, m2⟩
  rw [q2] at hb2 hby
  simp only [] at hb2 hby
  have C2 := Aside0.mk (fun W k => refN_any t m1 wideW (by decide) (by decide) W k)
  rw [q2] at C2
  have hb3 := numM_bound wideW m2 hby (by decide)
  replace hby := numM_bytes wideW m2 hby
  rcases q3 : numM wideW m2 with ⟨n3, m3⟩
  rw [q3] at hb3 hby
  simp only [] at hb3 hby
  have C3 := Aside0.mk (fun W k => refN_any t m2 wideW (by decide) (by decide) W k)
  rw [q3] at C3
  have hb4 := numM_bound wideW m3 hby (by decide)
  replace hby := numM_bytes wideW m3 hby
  rcases q4 : numM wideW m3 with ⟨n4, m4⟩
  rw [q4] at hb4 hby
  simp only [] at hb4 hby
  have C4 := Aside0.mk (fun W k => refN_any t m3 wideW (by decide) (by decide) W k)
  rw [q4] at C4
  have hb5 := numM_bound wideW m4 hby (by decide)
  replace hby := numM_bytes wideW m4 hby
  rcases q5 : numM wideW m4 with ⟨n5, m5⟩
  rw [q5] at hb5 hby
  simp only [] at hb5 hby
  have C5 := Aside0.mk (fun W k => refN_any t m4 wideW (by decide) (by decide) W k)
  rw [q5] at C5
  have hb6 := numM_bound wideW m5 hby (by decide)
  replace hby := numM_bytes wideW m5 hby
  rcases q6 : numM wideW m5 with ⟨n6, m6⟩
  rw [q6] at hb6 hby
  simp only [] at hb6 hby
  have C6 := Aside0.mk (fun W k => refN_any t m5 wideW (by decide) (by decide) W k)
  rw [q6] at C6
  have hb7 := numM_bound wideW m6 hby (by decide)
  replace hby := numM_bytes wideW m6 hby
  rcases q7 : numM wideW m6 with ⟨n7, m7⟩
  rw [q7] at hb7 hby
  simp only [] at hb7 hby
  have C7 := Aside0.mk (fun W k => refN_any t m6 wideW (by decide) (by decide) W k)
  rw [q7] at C7
  have HR := Aside0.mk (show ruleM m = (⟨n1, n2, n3, n4, ⟨n5, n6⟩, n7⟩, m7) from by unfold ruleM; simp only [q1, q2, q3, q4, q5, q6, q7])
  rw [HR.out]
  have hw : wideW = 4294967295 := rfl
  rw [hw] at hb5 hb6 C1 C2 C3 C4 C5 C6 C7
  have e5 : n5 % 4294967296 = n5 := Int.emod_eq_of_lt hb5.1 (by omega)
  have e6 : n6 % 4294967296 = n6 := Int.emod_eq_of_lt hb6.1 (by omega)
  simp only [] at C1 C2 C3 C4 C5 C6 C7
  clear q1 q2 q3 q4 q5 q6 q7 hw hby hb1 hb2 hb3 hb4 hb5 hb6 hb7 HR
  have K0 := Aside0.mk ((Keep2.refl _ _ w).alloc (.cells #[.int .i64 0, .int .i64 0, .int .i64 0, .int .i64 0, .int .u32 0, .int .u32 0, .int .i64 0] 29) : Keep2 t t w _)
  have X0 := Aside0.mk (mine_new (Keep2.refl _ _ w) k.lt #[.int .i64 0, .int .i64 0, .int .i64 0, .int .i64 0, .int .u32 0, .int .u32 0, .int .i64 0] 29 rfl)
  have T0 := Aside0.mk (k.below ((Below.refl w.heap.size w).alloc (Nat.le_refl _) (.cells #[.int .i64 0, .int .i64 0, .int .i64 0, .int .i64 0, .int .u32 0, .int .u32 0, .int .i64 0] 29)))
  clear k
  go_enter Try.func37, Try.ntmps37
  go_wp2_with fail
  generalize (w.alloc (.cells #[.int .i64 0, .int .i64 0, .int .i64 0, .int .i64 0, .int .u32 0, .int .u32 0, .int .i64 0] 29)) = W0 at *
  refine (C1.out _ T0.out).mono ?_
  rintro e W1 ⟨rfl, ht, hk⟩
  have X1 := Aside0.mk (X0.out.keep hk)
  have K1 := Aside0.mk (K0.out.trans hk)
  have T1 := Aside0.mk ht
  clear ht hk C1 K0 T0 X0
  go_wp2_with fail
  refine (C2.out _ T1.out).mono ?_
  rintro e W2 ⟨rfl, ht, hk⟩
  have X2 := Aside0.mk (X1.out.keep hk)
  have K2 := Aside0.mk (K1.out.trans hk)
  have T2 := Aside0.mk ht
  clear ht hk C2 K1 T1 X1
  go_wp2_with fail
  refine (C3.out _ T2.out).mono ?_
  rintro e W3 ⟨rfl, ht, hk⟩
  have X3 := Aside0.mk (X2.out.keep hk)
  have K3 := Aside0.mk (K2.out.trans hk)
  have T3 := Aside0.mk ht
  clear ht hk C3 K2 T2 X2
  go_wp2_with fail
  refine (C4.out _ T3.out).mono ?_
  rintro e W4 ⟨rfl, ht, hk⟩
  have X4 := Aside0.mk (X3.out.keep hk)
  have K4 := Aside0.mk (K3.out.trans hk)
  have T4 := Aside0.mk ht
  clear ht hk C4 K3 T3 X3
  have hbn := (Below.refl W4.heap.size W4).alloc (Nat.le_refl _) (.cells #[.int .i64 n1, .int .i64 n2, .int .i64 n3, .int .i64 n4, .int .u32 0, .int .u32 0, .int .i64 0] 29)
  have Y5 := Aside0.mk (mine_new K4.out T4.out.lt #[.int .i64 n1, .int .i64 n2, .int .i64 n3, .int .i64 n4, .int .u32 0, .int .u32 0, .int .i64 0] 29 rfl)
  have HNE := Aside0.mk (show W4.heap.size ≠ w.heap.size from by have := blk_lt X4.out.blk; omega)
  have X5 := Aside0.mk (X4.out.below hbn)
  have T5 := Aside0.mk (T4.out.below hbn)
  have K5 := Aside0.mk (K4.out.alloc (.cells #[.int .i64 n1, .int .i64 n2, .int .i64 n3, .int .i64 n4, .int .u32 0, .int .u32 0, .int .i64 0] 29))
  clear hbn X4 T4 K4
  go_wp2_with fail
  generalize (W4.alloc (.cells #[.int .i64 n1, .int .i64 n2, .int .i64 n3, .int .i64 n4, .int .u32 0, .int .u32 0, .int .i64 0] 29)) = W5 at *
  generalize W4.heap.size = b1 at *
  refine (C5.out _ T5.out).mono ?_
  rintro e W6 ⟨rfl, ht, hk⟩
  have X6 := Aside0.mk (X5.out.keep hk)
  have Y6 := Aside0.mk (Y5.out.keep hk)
  have K6 := Aside0.mk (K5.out.trans hk)
  have T6 := Aside0.mk ht
  clear ht hk C5 K5 T5 X5 Y5
  have k4 := blk_cell Y6.out.blk 4
  have f4 := blk_frozen Y6.out.blk 4
  try dsimp only
  repeat ((fail_if_success (show Code.wp _ (Code.seq (Code.region 3 _ _) _) _ _ _)); (first | go_values | go_skip | go_guarded | go_step | go_upon | go_back))
  have Y7 := Aside0.mk (Y6.out.put 4 (.int .u32 n5) rfl #[.int .i64 n1, .int .i64 n2, .int .i64 n3, .int .i64 n4, .int .u32 n5, .int .u32 0, .int .i64 0] (by simp) rfl)
  have X7 := Aside0.mk (X6.out.far (fun e => HNE.out e.symm) 4 (.int .u32 n5) : Mine _ (W6.setCell ⟨b1, 4, none⟩ (.int .u32 n5)) _ _ _ _ _)
  have T7 := Aside0.mk (T6.out.far Y6.out 4 (.int .u32 n5))
  have K7 := Aside0.mk (K6.out.mine Y6.out 4 (.int .u32 n5))
  clear X6 Y6 T6 K6
  generalize (W6.setCell ⟨b1, 4, none⟩ (.int .u32 n5)) = W7 at *
  clear k4 f4
  go_wp2_with fail
  refine (C6.out _ T7.out).mono ?_
  rintro e W8 ⟨rfl, ht, hk⟩
  have X8 := Aside0.mk (X7.out.keep hk)
  have Y8 := Aside0.mk (Y7.out.keep hk)
  have K8 := Aside0.mk (K7.out.trans hk)
  have T8 := Aside0.mk ht
  clear ht hk C6 K7 T7 X7 Y7
  have k5 := blk_cell Y8.out.blk 5
  have f5 := blk_frozen Y8.out.blk 5
  try dsimp only
  repeat ((fail_if_success (show Code.wp _ (Code.seq (Code.region 4 _ _) _) _ _ _)); (first | go_values | go_skip | go_guarded | go_step | go_upon | go_back))
  have Y9 := Aside0.mk (Y8.out.put 5 (.int .u32 n6) rfl #[.int .i64 n1, .int .i64 n2, .int .i64 n3, .int .i64 n4, .int .u32 n5, .int .u32 n6, .int .i64 0] (by simp) rfl)
  have X9 := Aside0.mk (X8.out.far (fun e => HNE.out e.symm) 5 (.int .u32 n6) : Mine _ (W8.setCell ⟨b1, 5, none⟩ (.int .u32 n6)) _ _ _ _ _)
  have T9 := Aside0.mk (T8.out.far Y8.out 5 (.int .u32 n6))
  have K9 := Aside0.mk (K8.out.mine Y8.out 5 (.int .u32 n6))
  clear X8 Y8 T8 K8
  generalize (W8.setCell ⟨b1, 5, none⟩ (.int .u32 n6)) = W9 at *
  clear k5 f5
  go_wp2_with fail
  refine (C7.out _ T9.out).mono ?_
  rintro e W10 ⟨rfl, ht, hk⟩
  have X10 := Aside0.mk (X9.out.keep hk)
  have Y10 := Aside0.mk (Y9.out.keep hk)
  have K10 := Aside0.mk (K9.out.trans hk)
  have T10 := Aside0.mk ht
  clear ht hk C7 K9 T9 X9 Y9
  have k6 := blk_cell Y10.out.blk 6
  have f6 := blk_frozen Y10.out.blk 6
  try dsimp only
  repeat ((fail_if_success (show Code.wp _ (Code.seq (Code.region 5 _ _) _) _ _ _)); (first | go_values | go_skip | go_guarded | go_step | go_upon | go_back))
  have Y11 := Aside0.mk (Y10.out.put 6 (.int .i64 n7) rfl #[.int .i64 n1, .int .i64 n2, .int .i64 n3, .int .i64 n4, .int .u32 n5, .int .u32 n6, .int .i64 n7] (by simp) rfl)
  have X11 := Aside0.mk (X10.out.far (fun e => HNE.out e.symm) 6 (.int .i64 n7) : Mine _ (W10.setCell ⟨b1, 6, none⟩ (.int .i64 n7)) _ _ _ _ _)
  have T11 := Aside0.mk (T10.out.far Y10.out 6 (.int .i64 n7))
  have K11 := Aside0.mk (K10.out.mine Y10.out 6 (.int .i64 n7))
  clear X10 Y10 T10 K10
  generalize (W10.setCell ⟨b1, 6, none⟩ (.int .i64 n7)) = W11 at *
  clear k6 f6
  have y0 := blk_cell Y11.out.blk 0
  have x0 := blk_cell X11.out.blk 0
  have g0 := blk_frozen X11.out.blk 0
  have y1 := blk_cell Y11.out.blk 1
  have x1 := blk_cell X11.out.blk 1
  have g1 := blk_frozen X11.out.blk 1
  have y2 := blk_cell Y11.out.blk 2
  have x2 := blk_cell X11.out.blk 2
  have g2 := blk_frozen X11.out.blk 2
  have y3 := blk_cell Y11.out.blk 3
  have x3 := blk_cell X11.out.blk 3
  have g3 := blk_frozen X11.out.blk 3
  have y4 := blk_cell Y11.out.blk 4
  have x4 := blk_cell X11.out.blk 4
  have g4 := blk_frozen X11.out.blk 4
  have y5 := blk_cell Y11.out.blk 5
  have x5 := blk_cell X11.out.blk 5
  have g5 := blk_frozen X11.out.blk 5
  have y6 := blk_cell Y11.out.blk 6
  have x6 := blk_cell X11.out.blk 6
  have g6 := blk_frozen X11.out.blk 6
  go_wp2_with fail
  have r := (blk_set (blk_set (blk_set (blk_set (blk_set (blk_set (blk_set X11.out.blk 0 (.int .i64 n1)) 1 (.int .i64 n2)) 2 (.int .i64 n3)) 3 (.int .i64 n4)) 4 (.int .u32 n5)) 5 (.int .u32 n6)) 6 (.int .i64 n7))
  have r0 := blk_cell r 0
  have r1 := blk_cell r 1
  have r2 := blk_cell r 2
  have r3 := blk_cell r 3
  have r4 := blk_cell r 4
  have r5 := blk_cell r 5
  have r6 := blk_cell r 6
  have Z1 := Aside0.mk (X11.out.put 0 (.int .i64 n1) rfl #[.int .i64 n1, .int .i64 0, .int .i64 0, .int .i64 0, .int .u32 0, .int .u32 0, .int .i64 0] (by simp) rfl)
  have U1 := Aside0.mk (T11.out.far X11.out 0 (.int .i64 n1))
  have V1 := Aside0.mk (K11.out.mine X11.out 0 (.int .i64 n1))
  have Z2 := Aside0.mk (Z1.out.put 1 (.int .i64 n2) rfl #[.int .i64 n1, .int .i64 n2, .int .i64 0, .int .i64 0, .int .u32 0, .int .u32 0, .int .i64 0] (by simp) rfl)
  have U2 := Aside0.mk (U1.out.far Z1.out 1 (.int .i64 n2))
  have V2 := Aside0.mk (V1.out.mine Z1.out 1 (.int .i64 n2))
  have Z3 := Aside0.mk (Z2.out.put 2 (.int .i64 n3) rfl #[.int .i64 n1, .int .i64 n2, .int .i64 n3, .int .i64 0, .int .u32 0, .int .u32 0, .int .i64 0] (by simp) rfl)
  have U3 := Aside0.mk (U2.out.far Z2.out 2 (.int .i64 n3))
  have V3 := Aside0.mk (V2.out.mine Z2.out 2 (.int .i64 n3))
  have Z4 := Aside0.mk (Z3.out.put 3 (.int .i64 n4) rfl #[.int .i64 n1, .int .i64 n2, .int .i64 n3, .int .i64 n4, .int .u32 0, .int .u32 0, .int .i64 0] (by simp) rfl)
  have U4 := Aside0.mk (U3.out.far Z3.out 3 (.int .i64 n4))
  have V4 := Aside0.mk (V3.out.mine Z3.out 3 (.int .i64 n4))
  have Z5 := Aside0.mk (Z4.out.put 4 (.int .u32 n5) rfl #[.int .i64 n1, .int .i64 n2, .int .i64 n3, .int .i64 n4, .int .u32 n5, .int .u32 0, .int .i64 0] (by simp) rfl)
  have U5 := Aside0.mk (U4.out.far Z4.out 4 (.int .u32 n5))
  have V5 := Aside0.mk (V4.out.mine Z4.out 4 (.int .u32 n5))
  have Z6 := Aside0.mk (Z5.out.put 5 (.int .u32 n6) rfl #[.int .i64 n1, .int .i64 n2, .int .i64 n3, .int .i64 n4, .int .u32 n5, .int .u32 n6, .int .i64 0] (by simp) rfl)
  have U6 := Aside0.mk (U5.out.far Z5.out 5 (.int .u32 n6))
  have V6 := Aside0.mk (V5.out.mine Z5.out 5 (.int .u32 n6))
  have Z7 := Aside0.mk (Z6.out.put 6 (.int .i64 n7) rfl #[.int .i64 n1, .int .i64 n2, .int .i64 n3, .int .i64 n4, .int .u32 n5, .int .u32 n6, .int .i64 n7] (by simp) rfl)
  have U7 := Aside0.mk (U6.out.far Z6.out 6 (.int .i64 n7))
  have V7 := Aside0.mk (V6.out.mine Z6.out 6 (.int .i64 n7))
  exact bodyPost_ret (v := .agg #[.int .i64 n1, .int .i64 n2, .int .i64 n3, .int .i64 n4, .int .u32 n5, .int .u32 n6, .int .i64 n7]) (by simp [results, Try.results37, go_sem, r0, r1, r2, r3, r4, r5, r6]) rfl ⟨rfl, U7.out, V7.out⟩
end Go.Proofs.Ytpaknjmcjblahaa.H
