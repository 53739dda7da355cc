/- Ex4. -/
import Derived.Test.YtckjhdlpbfcaiaaDEdtP
import Derived.Test.YtckjhdlpbfcaiaaDEx1
namespace Go.Proofs.Ytckjhdlpbfcaiaa.E
open Go.Proofs.Ytckjhdlpbfcaiaa.P
open Go.RowKit Go.Proofs.YtckjhdlpbfcaiaaW.PrintWords Go.Proofs.YtckjhdlpbfcaiaaW.PrintLast Go.Proofs.YtckjhdlpbfcaiaaW.PrintMore
set_option linter.unusedVariables false
set_option linter.unusedSimpArgs false
attribute [local go_sem high] eqA35
mutual
def edit_Diff.l0 : Nat → List (S35) → List (S35) → List (S37) → Option ((List (S37)))
  | 0, _, _, _ => none
  | k + 1, x0, x1, x5 => if (wrap64 ((x0.length : Int) + (x1.length : Int))) > 0 then (if (x1.length : Int) = 0 then (edit_Diff.j1 k x0 x1 x5 true) else (if (x0.length : Int) > 0 then (if 0 < (x0.length : Int) then (if 0 < (x1.length : Int) then (edit_Diff.j1 k x0 x1 x5 (decide (((rd_T35 x0 0).f0) < ((rd_T35 x1 0).f0)))) else (none)) else (none)) else (edit_Diff.j1 k x0 x1 x5 false))) else (some x5)
def edit_Diff.j1 : Nat → List (S35) → List (S35) → List (S37) → Bool → Option ((List (S37)))
  | 0, _, _, _, _ => none
  | k + 1, x0, x1, x5, x30 => if x30 = true then (if 0 < (x0.length : Int) then (if x5.length < 2513169434916 then (if 1 ≤ (x0.length : Int) then (edit_Diff.l0 k (x0.drop 1) x1 (x5 ++ [(⟨1, (⟨(rd_T35 x0 0).f0, (rd_T35 x0 0).f1, (rd_T35 x0 0).f2, (rd_T35 x0 0).f3, (⟨(rd_T35 x0 0).f4.f0, (rd_T35 x0 0).f4.f1⟩ : S33), (rd_T35 x0 0).f5⟩ : S35)⟩ : S37)])) else (none)) else (none)) else (none)) else (if (x0.length : Int) = 0 then (edit_Diff.j2 k x0 x1 x5 true) else (if 0 < (x1.length : Int) then (if 0 < (x0.length : Int) then (edit_Diff.j2 k x0 x1 x5 (decide (((rd_T35 x1 0).f0) < ((rd_T35 x0 0).f0)))) else (none)) else (none)))
def edit_Diff.j2 : Nat → List (S35) → List (S35) → List (S37) → Bool → Option ((List (S37)))
  | 0, _, _, _, _ => none
  | k + 1, x0, x1, x5, x59 => if x59 = true then (if 0 < (x1.length : Int) then (if x5.length < 2513169434916 then (if 1 ≤ (x1.length : Int) then (edit_Diff.l0 k x0 (x1.drop 1) (x5 ++ [(⟨0, (⟨(rd_T35 x1 0).f0, (rd_T35 x1 0).f1, (rd_T35 x1 0).f2, (rd_T35 x1 0).f3, (⟨(rd_T35 x1 0).f4.f0, (rd_T35 x1 0).f4.f1⟩ : S33), (rd_T35 x1 0).f5⟩ : S35)⟩ : S37)])) else (none)) else (none)) else (none)) else (if 0 < (x0.length : Int) then (if 0 < (x1.length : Int) then (if (!(((rd_T35 x0 0).f0) == ((rd_T35 x1 0).f0)) || (!(((rd_T35 x0 0).f1) == ((rd_T35 x1 0).f1)) || (!(((rd_T35 x0 0).f2) == ((rd_T35 x1 0).f2)) || (!(((rd_T35 x0 0).f3) == ((rd_T35 x1 0).f3)) || ((!(((rd_T35 x0 0).f4.f0) == ((rd_T35 x1 0).f4.f0)) || (!(((rd_T35 x0 0).f4.f1) == ((rd_T35 x1 0).f4.f1)))) || (!(((rd_T35 x0 0).f5) == ((rd_T35 x1 0).f5)))))))) = true then (if x5.length < 2513169434916 then (if 1 ≤ (x0.length : Int) then (if 1 ≤ (x1.length : Int) then (edit_Diff.l0 k (x0.drop 1) (x1.drop 1) (x5 ++ [(⟨2, (⟨(rd_T35 x1 0).f0, (rd_T35 x1 0).f1, (rd_T35 x1 0).f2, (rd_T35 x1 0).f3, (⟨(rd_T35 x1 0).f4.f0, (rd_T35 x1 0).f4.f1⟩ : S33), (rd_T35 x1 0).f5⟩ : S35)⟩ : S37)])) else (none)) else (none)) else (none)) else (if 1 ≤ (x0.length : Int) then (if 1 ≤ (x1.length : Int) then (edit_Diff.l0 k (x0.drop 1) (x1.drop 1) x5) else (none)) else (none))) else (none)) else (none))
end
def edit_Diff.f (k : Nat) (l0 : List (S35)) (l1 : List (S35)) : Option ((List (S37))) := edit_Diff.l0 k l0 l1 ([] : List (S37))
theorem edit_Diff.mono_l : ∀ k, (∀ y0 y1 y2, LeO (edit_Diff.l0 k y0 y1 y2) (edit_Diff.l0 (k + 1) y0 y1 y2)) ∧ (∀ y0 y1 y2 y3, LeO (edit_Diff.j1 k y0 y1 y2 y3) (edit_Diff.j1 (k + 1) y0 y1 y2 y3)) ∧ (∀ y0 y1 y2 y3, LeO (edit_Diff.j2 k y0 y1 y2 y3) (edit_Diff.j2 (k + 1) y0 y1 y2 y3))
  | 0 => ⟨fun _ _ _ r h => by simp [edit_Diff.l0] at h, fun _ _ _ _ r h => by simp [edit_Diff.j1] at h, fun _ _ _ _ r h => by simp [edit_Diff.j2] at h⟩
  | k + 1 => by
    obtain ⟨ih0, ih1, ih2⟩ := edit_Diff.mono_l k
    refine ⟨?_, ?_, ?_⟩
    · intro y0 y1 y2
      unfold edit_Diff.l0
      repeat' first
      | (with_reducible exact ih0 _ _ _)
      | (with_reducible exact ih1 _ _ _ _)
      | (with_reducible exact ih2 _ _ _ _)
      | (with_reducible exact LeO.refl _)
      | (with_reducible exact LeO.none _)
      | (with_reducible refine LeO.ite ?_ ?_)
      | (with_reducible refine LeO.bind ?_ (fun _ => ?_))
      | exact ih0 _ _ _
      | exact ih1 _ _ _ _
      | exact ih2 _ _ _ _
      | exact LeO.none _
      | refine LeO.ite ?_ ?_
      | refine LeO.bind ?_ (fun _ => ?_)
    · intro y0 y1 y2 y3
      unfold edit_Diff.j1
      repeat' first
      | (with_reducible exact ih0 _ _ _)
      | (with_reducible exact ih1 _ _ _ _)
      | (with_reducible exact ih2 _ _ _ _)
      | (with_reducible exact LeO.refl _)
      | (with_reducible exact LeO.none _)
      | (with_reducible refine LeO.ite ?_ ?_)
      | (with_reducible refine LeO.bind ?_ (fun _ => ?_))
      | exact ih0 _ _ _
      | exact ih1 _ _ _ _
      | exact ih2 _ _ _ _
      | exact LeO.none _
      | refine LeO.ite ?_ ?_
      | refine LeO.bind ?_ (fun _ => ?_)
    · intro y0 y1 y2 y3
      unfold edit_Diff.j2
      repeat' first
      | (with_reducible exact ih0 _ _ _)
      | (with_reducible exact ih1 _ _ _ _)
      | (with_reducible exact ih2 _ _ _ _)
      | (with_reducible exact LeO.refl _)
      | (with_reducible exact LeO.none _)
      | (with_reducible refine LeO.ite ?_ ?_)
      | (with_reducible refine LeO.bind ?_ (fun _ => ?_))
      | exact ih0 _ _ _
      | exact ih1 _ _ _ _
      | exact ih2 _ _ _ _
      | exact LeO.none _
      | refine LeO.ite ?_ ?_
      | refine LeO.bind ?_ (fun _ => ?_)
theorem edit_Diff.mono : ∀ a0 a1 k, LeO (edit_Diff.f k a0 a1) (edit_Diff.f (k + 1) a0 a1) := by
  intro a0 a1 k
  obtain ⟨ih0, ih1, ih2⟩ := edit_Diff.mono_l k
  unfold edit_Diff.f
  repeat' first
      | (with_reducible exact ih0 _ _ _)
      | (with_reducible exact ih1 _ _ _ _)
      | (with_reducible exact ih2 _ _ _ _)
      | (with_reducible exact LeO.refl _)
      | (with_reducible exact LeO.none _)
      | (with_reducible refine LeO.ite ?_ ?_)
      | (with_reducible refine LeO.bind ?_ (fun _ => ?_))
      | exact ih0 _ _ _
      | exact ih1 _ _ _ _
      | exact ih2 _ _ _ _
      | exact LeO.none _
      | refine LeO.ite ?_ ?_
      | refine LeO.bind ?_ (fun _ => ?_)
set_option maxHeartbeats 8000000 in
set_option maxRecDepth 100000 in
theorem edit_Diff.calls (k : Nat) (P0_ : Nat → Prop) (A0 : Option Addr) (c0 : Nat) (l0 : List (S35)) (P1_ : Nat → Prop) (A1 : Option Addr) (c1 : Nat) (l1 : List (S35)) (r : List (S37)) (w : World) (hs0 : Kd.V k35 35 w w.heap.size (fun k_ => P0_ k_) (.slice A0 l0.length c0) l0) (hs1 : Kd.V k35 35 w w.heap.size (fun k_ => P1_ k_) (.slice A1 l1.length c1) l1) (h : edit_Diff.f k l0 l1 = some r) :
    Calls Try.prog 11 #[.slice A0 l0.length c0, .slice A1 l1.length c1] w fun e w' => ∃ v0_ : Value, e = .returned (v0_) ∧ Kd.R k37 37 w' w.heap.size (fun k_ => (w.heap.size ≤ k_)) v0_ r ∧ Below w.heap.size w w' := by
  have hu35 := Try.underlying35
  have hu37 := Try.underlying37
  have HO0 := Aside0.mk (show Kd.V k35 35 w w.heap.size (fun k_ => ((P0_ k_ ∨ P1_ k_) ∨ w.heap.size ≤ k_)) (.slice A0 l0.length c0) l0 from Kd.V_mono hs0 (fun k_ hk => .inl (.inl hk)))
  have HO1 := Aside0.mk (show Kd.V k35 35 w w.heap.size (fun k_ => ((P0_ k_ ∨ P1_ k_) ∨ w.heap.size ≤ k_)) (.slice A1 l1.length c1) l1 from Kd.V_mono hs1 (fun k_ hk => .inl (.inr hk)))
  have HB := Aside0.mk (Below.refl w.heap.size w)
  have H : (edit_Diff.l0 k l0 l1 ([] : List (S37))) = some r := h
  clear h
  have H' := Aside0.mk H
  clear H
  go_enter Try.func11, Try.ntmps11
  go_wp2
  repeat (go_quiet (fail); try go_wp2)
  go_loopg [0, 1, 5] k (fun kq v0 v1 v5 w' => ∃ (x0_1 : List (S35)) (x1_1 : List (S35)) (x5_1 : List (S37)), Aside0 (edit_Diff.l0 kq x0_1 x1_1 x5_1 = some r) ∧ Aside0 (kq ≤ k) ∧ Aside0 (Kd.V k35 35 w' w.heap.size (fun k_ => ((P0_ k_ ∨ P1_ k_) ∨ w.heap.size ≤ k_) ∧ some k_ ≠ (v5 : Value).ownBlock) v0 x0_1) ∧ Aside0 (Kd.V k35 35 w' w.heap.size (fun k_ => ((P0_ k_ ∨ P1_ k_) ∨ w.heap.size ≤ k_) ∧ some k_ ≠ (v5 : Value).ownBlock) v1 x1_1) ∧ Aside0 (Kd.R k37 37 w' w.heap.size (fun k_ => (w.heap.size ≤ k_)) v5 x5_1) ∧ Aside0 (Below w.heap.size w w'))
  case atStart => exact ⟨(l0), (l1), (([] : List (S37))), H', ⟨Nat.le_refl _⟩, ⟨by (with_reducible repeat (first | apply Kd.V_alloc | apply Kd.V_drewN | apply Kd.V_drew)); exact Kd.V_mono HO0.out (fun _ hk => ⟨hk, (by simp [Value.ownBlock])⟩)⟩, ⟨by (with_reducible repeat (first | apply Kd.V_alloc | apply Kd.V_drewN | apply Kd.V_drew)); exact Kd.V_mono HO1.out (fun _ hk => ⟨hk, (by simp [Value.ownBlock])⟩)⟩, ⟨by first | exact Kd.R_nil _ _ _ _ _ | exact Kd.N_nil _ _ _ _ _ | exact Kd.V_nil _ _ _ _ _ | exact Kd.Q_nil _ _ _ _ _ | exact Kd.S_nil _ _ _ _ _⟩, ⟨by repeat (first | (with_reducible first | exact HB.out | apply below_alloc | apply pw_below_drewN | apply below_drew1) | exact HB.out)⟩⟩
  case round =>
    clear H'
    try clear c1
    try clear p2
    obtain ⟨x0_1, x1_1, x5_1, HA, HK1, HO_0, HO_1, HO_5, HB⟩ := hrel
    cases gk with
    | zero => exact absurd HA.out (by simp [edit_Diff.l0])
    | succ k1 =>
      have H := HA.out
      clear HA
      simp only [edit_Diff.l0] at H
      by_cases c3 : (wrap64 ((x0_1.length : Int) + (x1_1.length : Int))) > 0
      · rw [if_pos c3] at H
        have c3b0 : decide (0 < (wrap64 ((x0_1.length : Int) + (x1_1.length : Int)))) = true := decide_eq_true c3
        clear c3
        have HC4 := Aside0.mk H
        clear H
        obtain ⟨Ao5, co5, eo5⟩ := Kd.V_slice HO_0.out
        subst eo5
        obtain ⟨Ao6, co6, eo6⟩ := Kd.V_slice HO_1.out
        subst eo6
        go_upto_region 6 with (fail)
        repeat (go_quiet (fail); go_upto_region 6 with (fail))
        go_cut [30] (fun v30 wc => ∃ (kq : Nat) (x30_3 : Bool), v30 = .bool x30_3 ∧ Aside0 (edit_Diff.j1 kq x0_1 x1_1 x5_1 x30_3 = some r) ∧ Aside0 (kq ≤ k1) ∧ Aside0 (Kd.V k35 35 wc w.heap.size (fun k_ => ((P0_ k_ ∨ P1_ k_) ∨ w.heap.size ≤ k_) ∧ some k_ ≠ (u5 : Value).ownBlock) (.slice Ao5 x0_1.length co5) x0_1) ∧ Aside0 (Kd.V k35 35 wc w.heap.size (fun k_ => ((P0_ k_ ∨ P1_ k_) ∨ w.heap.size ≤ k_) ∧ some k_ ≠ (u5 : Value).ownBlock) (.slice Ao6 x1_1.length co6) x1_1) ∧ Aside0 (Kd.R k37 37 wc w.heap.size (fun k_ => (w.heap.size ≤ k_)) u5 x5_1) ∧ Aside0 (Below w.heap.size w wc))
        case first =>
          have H := HC4.out
          clear HC4
          by_cases c7 : (x1_1.length : Int) = 0
          · rw [if_pos c7] at H
            have c7b0 : ((x1_1.length : Int) == 0) = true := beq_iff_eq.mpr c7
            have c7b1 : ((x1_1.length : Int) != 0) = false := bne_eq_false_iff_eq.mpr c7
            clear c7
            (first | rw [c7b0] | (simp only [i64_w, i32_w]; rw [c7b0]) | skip)
            have H' := Aside0.mk H
            clear H
            go_wp2
            repeat (go_quiet (fail); try go_wp2)
            go_meet
            case rel => exact ⟨_, (true), (by first | rfl | (simp; done) | (simp [*]; done)), H', ⟨by have := HK1.out; first | omega | exact Nat.le_refl _⟩, ⟨by (with_reducible repeat (first | apply Kd.V_alloc | apply Kd.V_drewN | apply Kd.V_drew)); exact HO_0.out⟩, ⟨by (with_reducible repeat (first | apply Kd.V_alloc | apply Kd.V_drewN | apply Kd.V_drew)); exact HO_1.out⟩, ⟨by (with_reducible repeat (first | apply Kd.R_alloc | apply Kd.R_drewN | apply Kd.R_drew)); exact HO_5.out⟩, ⟨by repeat (first | (with_reducible first | exact HB.out | apply below_alloc | apply pw_below_drewN | apply below_drew1) | exact HB.out)⟩⟩
          · rw [if_neg c7] at H
            have c7b0 : ((x1_1.length : Int) == 0) = false := beq_eq_false_iff_ne.mpr c7
            have c7b1 : ((x1_1.length : Int) != 0) = true := bne_iff_ne.mpr c7
            have c7b2 : ¬ (x1_1 = []) := fun h_ => c7 (by rw [h_]; rfl)
            (first | rw [c7b0] | (simp only [i64_w, i32_w]; rw [c7b0]) | skip)
            by_cases c8 : (x0_1.length : Int) > 0
            · rw [if_pos c8] at H
              have c8b0 : decide (0 < (x0_1.length : Int)) = true := decide_eq_true c8
              have c8b1 : decide (0 < x0_1.length) = true := decide_eq_true (by omega)
              clear c8
              by_cases c9 : 0 < (x0_1.length : Int)
              · rw [if_pos c9] at H
                have c9b0 : decide (0 < (x0_1.length : Int)) = true := decide_eq_true c9
                have c9b1 : decide (0 < x0_1.length) = true := decide_eq_true (by omega)
                clear c9
                by_cases c10 : 0 < (x1_1.length : Int)
                · rw [if_pos c10] at H
                  have c10b0 : decide (0 < (x1_1.length : Int)) = true := decide_eq_true c10
                  have c10b1 : decide (0 < x1_1.length) = true := decide_eq_true (by omega)
                  clear c10
                  have H' := Aside0.mk H
                  clear H
                  have p106 : 0 ≤ (0 : Int) := (by omega)
                  have q106 : 0 < (x0_1.length : Int) := of_decide_eq_true (by first | (with_reducible assumption) | assumption)
                  obtain ⟨ad106, e106, hx106_0, hx106_1, hx106_2, hx106_3, hx106_4, hx106_5, hx106_6⟩ := at_T35 (Kd.V_reads' HO_0.out).2.2 0 p106 q106
                  cases e106
                  have qi106 : (0 < x0_1.length) = True := eq_true (by omega)
                  (try rw [show ((0 : Int)).toNat = 0 from rfl] at hx106_0)
                  (try rw [show 0 * 7 = 0 from rfl] at hx106_0)
                  (try rw [Addr.add_zero'] at hx106_0)
                  (try rw [show ((0 : Int)).toNat = 0 from rfl] at hx106_1)
                  (try rw [show 0 * 7 = 0 from rfl] at hx106_1)
                  (try rw [Addr.add_zero'] at hx106_1)
                  (try rw [show ((0 : Int)).toNat = 0 from rfl] at hx106_2)
                  (try rw [show 0 * 7 = 0 from rfl] at hx106_2)
                  (try rw [Addr.add_zero'] at hx106_2)
                  (try rw [show ((0 : Int)).toNat = 0 from rfl] at hx106_3)
                  (try rw [show 0 * 7 = 0 from rfl] at hx106_3)
                  (try rw [Addr.add_zero'] at hx106_3)
                  (try rw [show ((0 : Int)).toNat = 0 from rfl] at hx106_4)
                  (try rw [show 0 * 7 = 0 from rfl] at hx106_4)
                  (try rw [Addr.add_zero'] at hx106_4)
                  (try rw [show ((0 : Int)).toNat = 0 from rfl] at hx106_5)
                  (try rw [show 0 * 7 = 0 from rfl] at hx106_5)
                  (try rw [Addr.add_zero'] at hx106_5)
                  (try rw [show ((0 : Int)).toNat = 0 from rfl] at hx106_6)
                  (try rw [show 0 * 7 = 0 from rfl] at hx106_6)
                  (try rw [Addr.add_zero'] at hx106_6)
                  replace p106 := eq_true p106
                  replace q106 := eq_true q106
                  have p107 : 0 ≤ (0 : Int) := (by omega)
                  have q107 : 0 < (x1_1.length : Int) := of_decide_eq_true (by first | (with_reducible assumption) | assumption)
                  obtain ⟨ad107, e107, hx107_0, hx107_1, hx107_2, hx107_3, hx107_4, hx107_5, hx107_6⟩ := at_T35 (Kd.V_reads' HO_1.out).2.2 0 p107 q107
                  cases e107
                  have qi107 : (0 < x1_1.length) = True := eq_true (by omega)
                  (try rw [show ((0 : Int)).toNat = 0 from rfl] at hx107_0)
                  (try rw [show 0 * 7 = 0 from rfl] at hx107_0)
                  (try rw [Addr.add_zero'] at hx107_0)
                  (try rw [show ((0 : Int)).toNat = 0 from rfl] at hx107_1)
                  (try rw [show 0 * 7 = 0 from rfl] at hx107_1)
                  (try rw [Addr.add_zero'] at hx107_1)
                  (try rw [show ((0 : Int)).toNat = 0 from rfl] at hx107_2)
                  (try rw [show 0 * 7 = 0 from rfl] at hx107_2)
                  (try rw [Addr.add_zero'] at hx107_2)
                  (try rw [show ((0 : Int)).toNat = 0 from rfl] at hx107_3)
                  (try rw [show 0 * 7 = 0 from rfl] at hx107_3)
                  (try rw [Addr.add_zero'] at hx107_3)
                  (try rw [show ((0 : Int)).toNat = 0 from rfl] at hx107_4)
                  (try rw [show 0 * 7 = 0 from rfl] at hx107_4)
                  (try rw [Addr.add_zero'] at hx107_4)
                  (try rw [show ((0 : Int)).toNat = 0 from rfl] at hx107_5)
                  (try rw [show 0 * 7 = 0 from rfl] at hx107_5)
                  (try rw [Addr.add_zero'] at hx107_5)
                  (try rw [show ((0 : Int)).toNat = 0 from rfl] at hx107_6)
                  (try rw [show 0 * 7 = 0 from rfl] at hx107_6)
                  (try rw [Addr.add_zero'] at hx107_6)
                  replace p107 := eq_true p107
                  replace q107 := eq_true q107
                  go_wp2
                  repeat (go_quiet (fail); try go_wp2)
                  go_meet
                  case rel => exact ⟨_, (decide (((rd_T35 x0_1 0).f0) < ((rd_T35 x1_1 0).f0))), (by first | rfl | (simp; done) | (simp [*]; done)), H', ⟨by have := HK1.out; first | omega | exact Nat.le_refl _⟩, ⟨by (with_reducible repeat (first | apply Kd.V_alloc | apply Kd.V_drewN | apply Kd.V_drew)); exact HO_0.out⟩, ⟨by (with_reducible repeat (first | apply Kd.V_alloc | apply Kd.V_drewN | apply Kd.V_drew)); exact HO_1.out⟩, ⟨by (with_reducible repeat (first | apply Kd.R_alloc | apply Kd.R_drewN | apply Kd.R_drew)); exact HO_5.out⟩, ⟨by repeat (first | (with_reducible first | exact HB.out | apply below_alloc | apply pw_below_drewN | apply below_drew1) | exact HB.out)⟩⟩
                · rw [if_neg c10] at H
                  exact absurd H (by simp)
              · rw [if_neg c9] at H
                exact absurd H (by simp)
            · rw [if_neg c8] at H
              have c8b0 : decide (0 < (x0_1.length : Int)) = false := decide_eq_false c8
              have c8b1 : decide (0 < x0_1.length) = false := decide_eq_false (by omega)
              clear c8
              have H' := Aside0.mk H
              clear H
              go_wp2
              repeat (go_quiet (fail); try go_wp2)
              go_meet
              case rel => exact ⟨_, (false), (by first | rfl | (simp; done) | (simp [*]; done)), H', ⟨by have := HK1.out; first | omega | exact Nat.le_refl _⟩, ⟨by (with_reducible repeat (first | apply Kd.V_alloc | apply Kd.V_drewN | apply Kd.V_drew)); exact HO_0.out⟩, ⟨by (with_reducible repeat (first | apply Kd.V_alloc | apply Kd.V_drewN | apply Kd.V_drew)); exact HO_1.out⟩, ⟨by (with_reducible repeat (first | apply Kd.R_alloc | apply Kd.R_drewN | apply Kd.R_drew)); exact HO_5.out⟩, ⟨by repeat (first | (with_reducible first | exact HB.out | apply below_alloc | apply pw_below_drewN | apply below_drew1) | exact HB.out)⟩⟩
        case rest =>
          clear HC4
          try clear c1
          try clear p1
          try clear q1
          try clear hx1
          try clear qi1
          try clear p2
          try clear c3
          try clear c3b0
          try clear p6
          try clear c7
          try clear c7b0
          try clear c7b1
          try clear c7b2
          try clear c8
          try clear c8b0
          try clear c8b1
          try clear c9
          try clear c9b0
          try clear c9b1
          try clear c10
          try clear c10b0
          try clear c10b1
          try clear p10
          try clear q10
          try clear hx10
          try clear qi10
          try clear hx106_0
          try clear hx106_1
          try clear hx106_2
          try clear hx106_3
          try clear hx106_4
          try clear hx106_5
          try clear hx106_6
          try clear hx107_0
          try clear hx107_1
          try clear hx107_2
          try clear hx107_3
          try clear hx107_4
          try clear hx107_5
          try clear hx107_6
          try clear p106
          try clear p107
          try clear p2
          try clear q106
          try clear q107
          obtain ⟨kq, x30_3, rfl, HA, HJ3, HO_0, HO_1, HO_5, HB⟩ := hcut
          cases kq with
          | zero => exact absurd HA.out (by simp [edit_Diff.j1])
          | succ kj3 =>
            have H := HA.out
            clear HA
            simp only [edit_Diff.j1] at H
            by_cases c11 : x30_3 = true
            · subst c11
              have H1 : (if 0 < (x0_1.length : Int) then (if x5_1.length < 2513169434916 then (if 1 ≤ (x0_1.length : Int) then (edit_Diff.l0 kj3 (x0_1.drop 1) x1_1 (x5_1 ++ [(⟨1, (⟨(rd_T35 x0_1 0).f0, (rd_T35 x0_1 0).f1, (rd_T35 x0_1 0).f2, (rd_T35 x0_1 0).f3, (⟨(rd_T35 x0_1 0).f4.f0, (rd_T35 x0_1 0).f4.f1⟩ : S33), (rd_T35 x0_1 0).f5⟩ : S35)⟩ : S37)])) else (none)) else (none)) else (none)) = some r := by rw [if_pos rfl] at H; exact H
              clear H
              have H := H1
              clear H1
              by_cases c12 : 0 < (x0_1.length : Int)
              · rw [if_pos c12] at H
                have c12b0 : decide (0 < (x0_1.length : Int)) = true := decide_eq_true c12
                have c12b1 : decide (0 < x0_1.length) = true := decide_eq_true (by omega)
                clear c12
                by_cases c13 : x5_1.length < 2513169434916
                · rw [if_pos c13] at H
                  have LMc13 := Aside0.mk c13
                  clear c13
                  obtain ⟨y109, hy109⟩ : ∃ y_ : List (S37), y_ = (x5_1 ++ [(⟨1, (⟨(rd_T35 x0_1 0).f0, (rd_T35 x0_1 0).f1, (rd_T35 x0_1 0).f2, (rd_T35 x0_1 0).f3, (⟨(rd_T35 x0_1 0).f4.f0, (rd_T35 x0_1 0).f4.f1⟩ : S33), (rd_T35 x0_1 0).f5⟩ : S35)⟩ : S37)]) := ⟨_, rfl⟩
                  replace H : (if 1 ≤ (x0_1.length : Int) then (edit_Diff.l0 kj3 (x0_1.drop 1) x1_1 y109) else (none)) = some r := by first | (rw [hy109]; with_reducible exact H) | (have H2_ := (Option.bind_some _ _).symm.trans H; rw [hy109]; with_reducible exact H2_) | (have H2_ := (Option.bind_some _ _).symm.trans H; with_reducible exact H2_) | with_reducible exact H | (rw [hy109]; exact H) | exact H
                  have Ny109 := Aside0.mk hy109
                  clear hy109
                  by_cases c14 : 1 ≤ (x0_1.length : Int)
                  · rw [if_pos c14] at H
                    have c14b0 := eq_true c14
                    have c14b1 : decide (1 ≤ (x0_1.length : Int)) = true := decide_eq_true c14
                    clear c14
                    obtain ⟨y112, hy112⟩ : ∃ y_ : List (S35), y_ = (x0_1.drop 1) := ⟨_, rfl⟩
                    replace H : (edit_Diff.l0 kj3 y112 x1_1 y109) = some r := by first | (rw [hy112]; with_reducible exact H) | (have H2_ := (Option.bind_some _ _).symm.trans H; rw [hy112]; with_reducible exact H2_) | (have H2_ := (Option.bind_some _ _).symm.trans H; with_reducible exact H2_) | with_reducible exact H | (rw [hy112]; exact H) | exact H
                    have Ny112 := Aside0.mk hy112
                    clear hy112
                    have H' := Aside0.mk H
                    clear H
                    have p108 : 0 ≤ (0 : Int) := (by omega)
                    have q108 : 0 < (x0_1.length : Int) := of_decide_eq_true (by first | (with_reducible assumption) | assumption)
                    obtain ⟨ad108, e108, hx108_0, hx108_1, hx108_2, hx108_3, hx108_4, hx108_5, hx108_6⟩ := at_T35 (Kd.V_reads' HO_0.out).2.2 0 p108 q108
                    cases e108
                    have qi108 : (0 < x0_1.length) = True := eq_true (by omega)
                    (try rw [show ((0 : Int)).toNat = 0 from rfl] at hx108_0)
                    (try rw [show 0 * 7 = 0 from rfl] at hx108_0)
                    (try rw [Addr.add_zero'] at hx108_0)
                    (try rw [show ((0 : Int)).toNat = 0 from rfl] at hx108_1)
                    (try rw [show 0 * 7 = 0 from rfl] at hx108_1)
                    (try rw [Addr.add_zero'] at hx108_1)
                    (try rw [show ((0 : Int)).toNat = 0 from rfl] at hx108_2)
                    (try rw [show 0 * 7 = 0 from rfl] at hx108_2)
                    (try rw [Addr.add_zero'] at hx108_2)
                    (try rw [show ((0 : Int)).toNat = 0 from rfl] at hx108_3)
                    (try rw [show 0 * 7 = 0 from rfl] at hx108_3)
                    (try rw [Addr.add_zero'] at hx108_3)
                    (try rw [show ((0 : Int)).toNat = 0 from rfl] at hx108_4)
                    (try rw [show 0 * 7 = 0 from rfl] at hx108_4)
                    (try rw [Addr.add_zero'] at hx108_4)
                    (try rw [show ((0 : Int)).toNat = 0 from rfl] at hx108_5)
                    (try rw [show 0 * 7 = 0 from rfl] at hx108_5)
                    (try rw [Addr.add_zero'] at hx108_5)
                    (try rw [show ((0 : Int)).toNat = 0 from rfl] at hx108_6)
                    (try rw [show 0 * 7 = 0 from rfl] at hx108_6)
                    (try rw [Addr.add_zero'] at hx108_6)
                    replace p108 := eq_true p108
                    replace q108 := eq_true q108
                    go_wp2_with (first | ((with_reducible refine gate_builtin (b := .append) (xs := #[.tmp 50, .tmp 55]) rfl ?_); (try (refine gate_guard (by rfl) ?_; dsimp only)); at_builtin; refine Kd.R_append k37 (w0 := w) w.heap.size rfl (.tmp 50) (.tmp 55) 26 37 (.agg #[(.int .i64 0), (.int .i64 0), (.int .i64 0), (.int .i64 0), (.int .i64 0), (.int .u32 0), (.int .u32 0), (.int .i64 0)]) 56 rfl Try.underlying26 info37 rfl (by decide) (by omega) u5 x5_1 (⟨1, (⟨(rd_T35 x0_1 0).f0, (rd_T35 x0_1 0).f1, (rd_T35 x0_1 0).f2, (rd_T35 x0_1 0).f3, (⟨(rd_T35 x0_1 0).f4.f0, (rd_T35 x0_1 0).f4.f1⟩ : S33), (rd_T35 x0_1 0).f5⟩ : S35)⟩ : S37) [.int .i64 1, .int .i64 ((rd_T35 x0_1 0).f0), .int .i64 ((rd_T35 x0_1 0).f1), .int .i64 ((rd_T35 x0_1 0).f2), .int .i64 ((rd_T35 x0_1 0).f3), .int .u32 ((rd_T35 x0_1 0).f4.f0), .int .u32 ((rd_T35 x0_1 0).f4.f1), .int .i64 ((rd_T35 x0_1 0).f5)] (fun k_ => (w.heap.size ≤ k_)) (fun _ => False) rfl rfl ?aP (fun _ hk => hk.elim) ?aF ?aO ?aB ?aS ?aL ?_; (case aP => exact k37_mkM _ _ _ (⟨1, (⟨(rd_T35 x0_1 0).f0, (rd_T35 x0_1 0).f1, (rd_T35 x0_1 0).f2, (rd_T35 x0_1 0).f3, (⟨(rd_T35 x0_1 0).f4.f0, (rd_T35 x0_1 0).f4.f1⟩ : S33), (rd_T35 x0_1 0).f5⟩ : S35)⟩ : S37)); (case aB => exact (by repeat (first | (with_reducible first | exact HB.out | apply below_alloc | apply pw_below_drewN | apply below_drew1) | exact HB.out))); (case aF => exact (fun k_ hk => (Nat.le_trans (below_size (by repeat (first | (with_reducible first | exact HB.out | apply below_alloc | apply pw_below_drewN | apply below_drew1) | exact HB.out))) hk))); (case aO => exact (by (with_reducible repeat (first | apply Kd.R_alloc | apply Kd.R_drewN | apply Kd.R_drew)); exact HO_5.out)); (case aS => exact (below_size (by repeat (first | (with_reducible first | exact HB.out | apply below_alloc | apply pw_below_drewN | apply below_drew1) | exact HB.out)))); (case aL => have := LMc13.out; omega); intro v110 w15 ho hb hg hat; rw [← Ny109.out] at ho; have n0_ := Aside0.mk (Kd.V_afterv (ok := (fun k_ => ((P0_ k_ ∨ P1_ k_) ∨ w.heap.size ≤ k_))) (by (with_reducible repeat (first | apply Kd.V_alloc | apply Kd.V_drewN | apply Kd.V_drew)); exact HO_0.out) hg hat); have n1_ := Aside0.mk (Kd.V_afterv (ok := (fun k_ => ((P0_ k_ ∨ P1_ k_) ∨ w.heap.size ≤ k_))) (by (with_reducible repeat (first | apply Kd.V_alloc | apply Kd.V_drewN | apply Kd.V_drew)); exact HO_1.out) hg hat); have n2_ := Aside0.mk (hb); have n3_ := Aside0.mk (ho); clear HO_0; clear HO_1; clear HB; clear HO_5; have HO_0 := n0_; have HO_1 := n1_; have HB := n2_; have HO111 := n3_; clear n0_ n1_ n2_ n3_; clear ho hb hg hat; have q16 : (1 : Int) ≤ ((x0_1.length : Int) : Int) := of_decide_eq_true (by first | (with_reducible assumption) | assumption); obtain ⟨i016, hi016, _, hsz16, _⟩ := info_parts info35; have hroom16 : x0_1.length ≤ co5 := (Kd.V_reads' HO_0.out).2.1; have hC16 : Kd.F k35 _ _ (some ad108) x0_1.length x0_1 := (Kd.V_at (base := w.heap.size) HO_0.out).2.2; have hcut16 := cut_from (P := Try.prog) 22 35 .i64 Try.underlying22 hi016 7 hsz16 (some ad108) x0_1.length co5 1 (by omega) q16; have hr16 := Kd.F_cut (m := (1 : Int).toNat) (c := co5) hC16 (by omega) hroom16; obtain ⟨A16, hA16⟩ : ∃ A1, A1 = (if co5 = (1 : Int).toNat then (some ad108) else ((some ad108) : Option Addr).map (·.add ((1 : Int).toNat * 7))) := ⟨_, rfl⟩; obtain ⟨c16, hc16⟩ : ∃ c1, c1 = co5 - (1 : Int).toNat := ⟨_, rfl⟩; have hy16 : y112.length = x0_1.length - (1 : Int).toNat := (by rw [Ny112.out, List.length_drop] <;> omega); rw [show (x0_1).drop (1 : Int).toNat = y112 from Ny112.out.symm] at hr16; replace hr16 : Kd.F k35 _ _ A16 y112.length y112 := (by rw [hA16]; exact hr16); rw [← hy16, ← hA16, ← hc16] at hcut16; have HO116 := Aside0.mk (show Kd.V k35 35 _ w.heap.size _ (.slice A16 y112.length c16) y112 from Kd.V_mk (by rw [hy16, hc16]; exact Nat.sub_le_sub_right hroom16 _) hr16); have HC116 := Aside0.mk (show y112.length ≤ c16 from by rw [hy16, hc16]; exact Nat.sub_le_sub_right hroom16 _); clear hr16 hC16 hroom16 hi016 hsz16 hc16; have KY16 := Aside0.mk hy16; have KA16 := Aside0.mk hA16; clear hy16 hA16; replace q16 := eq_true q16))
                    repeat (go_quiet (first | ((with_reducible refine gate_builtin (b := .append) (xs := #[.tmp 50, .tmp 55]) rfl ?_); (try (refine gate_guard (by rfl) ?_; dsimp only)); at_builtin; refine Kd.R_append k37 (w0 := w) w.heap.size rfl (.tmp 50) (.tmp 55) 26 37 (.agg #[(.int .i64 0), (.int .i64 0), (.int .i64 0), (.int .i64 0), (.int .i64 0), (.int .u32 0), (.int .u32 0), (.int .i64 0)]) 56 rfl Try.underlying26 info37 rfl (by decide) (by omega) u5 x5_1 (⟨1, (⟨(rd_T35 x0_1 0).f0, (rd_T35 x0_1 0).f1, (rd_T35 x0_1 0).f2, (rd_T35 x0_1 0).f3, (⟨(rd_T35 x0_1 0).f4.f0, (rd_T35 x0_1 0).f4.f1⟩ : S33), (rd_T35 x0_1 0).f5⟩ : S35)⟩ : S37) [.int .i64 1, .int .i64 ((rd_T35 x0_1 0).f0), .int .i64 ((rd_T35 x0_1 0).f1), .int .i64 ((rd_T35 x0_1 0).f2), .int .i64 ((rd_T35 x0_1 0).f3), .int .u32 ((rd_T35 x0_1 0).f4.f0), .int .u32 ((rd_T35 x0_1 0).f4.f1), .int .i64 ((rd_T35 x0_1 0).f5)] (fun k_ => (w.heap.size ≤ k_)) (fun _ => False) rfl rfl ?aP (fun _ hk => hk.elim) ?aF ?aO ?aB ?aS ?aL ?_; (case aP => exact k37_mkM _ _ _ (⟨1, (⟨(rd_T35 x0_1 0).f0, (rd_T35 x0_1 0).f1, (rd_T35 x0_1 0).f2, (rd_T35 x0_1 0).f3, (⟨(rd_T35 x0_1 0).f4.f0, (rd_T35 x0_1 0).f4.f1⟩ : S33), (rd_T35 x0_1 0).f5⟩ : S35)⟩ : S37)); (case aB => exact (by repeat (first | (with_reducible first | exact HB.out | apply below_alloc | apply pw_below_drewN | apply below_drew1) | exact HB.out))); (case aF => exact (fun k_ hk => (Nat.le_trans (below_size (by repeat (first | (with_reducible first | exact HB.out | apply below_alloc | apply pw_below_drewN | apply below_drew1) | exact HB.out))) hk))); (case aO => exact (by (with_reducible repeat (first | apply Kd.R_alloc | apply Kd.R_drewN | apply Kd.R_drew)); exact HO_5.out)); (case aS => exact (below_size (by repeat (first | (with_reducible first | exact HB.out | apply below_alloc | apply pw_below_drewN | apply below_drew1) | exact HB.out)))); (case aL => have := LMc13.out; omega); intro v110 w15 ho hb hg hat; rw [← Ny109.out] at ho; have n0_ := Aside0.mk (Kd.V_afterv (ok := (fun k_ => ((P0_ k_ ∨ P1_ k_) ∨ w.heap.size ≤ k_))) (by (with_reducible repeat (first | apply Kd.V_alloc | apply Kd.V_drewN | apply Kd.V_drew)); exact HO_0.out) hg hat); have n1_ := Aside0.mk (Kd.V_afterv (ok := (fun k_ => ((P0_ k_ ∨ P1_ k_) ∨ w.heap.size ≤ k_))) (by (with_reducible repeat (first | apply Kd.V_alloc | apply Kd.V_drewN | apply Kd.V_drew)); exact HO_1.out) hg hat); have n2_ := Aside0.mk (hb); have n3_ := Aside0.mk (ho); clear HO_0; clear HO_1; clear HB; clear HO_5; have HO_0 := n0_; have HO_1 := n1_; have HB := n2_; have HO111 := n3_; clear n0_ n1_ n2_ n3_; clear ho hb hg hat; have q16 : (1 : Int) ≤ ((x0_1.length : Int) : Int) := of_decide_eq_true (by first | (with_reducible assumption) | assumption); obtain ⟨i016, hi016, _, hsz16, _⟩ := info_parts info35; have hroom16 : x0_1.length ≤ co5 := (Kd.V_reads' HO_0.out).2.1; have hC16 : Kd.F k35 _ _ (some ad108) x0_1.length x0_1 := (Kd.V_at (base := w.heap.size) HO_0.out).2.2; have hcut16 := cut_from (P := Try.prog) 22 35 .i64 Try.underlying22 hi016 7 hsz16 (some ad108) x0_1.length co5 1 (by omega) q16; have hr16 := Kd.F_cut (m := (1 : Int).toNat) (c := co5) hC16 (by omega) hroom16; obtain ⟨A16, hA16⟩ : ∃ A1, A1 = (if co5 = (1 : Int).toNat then (some ad108) else ((some ad108) : Option Addr).map (·.add ((1 : Int).toNat * 7))) := ⟨_, rfl⟩; obtain ⟨c16, hc16⟩ : ∃ c1, c1 = co5 - (1 : Int).toNat := ⟨_, rfl⟩; have hy16 : y112.length = x0_1.length - (1 : Int).toNat := (by rw [Ny112.out, List.length_drop] <;> omega); rw [show (x0_1).drop (1 : Int).toNat = y112 from Ny112.out.symm] at hr16; replace hr16 : Kd.F k35 _ _ A16 y112.length y112 := (by rw [hA16]; exact hr16); rw [← hy16, ← hA16, ← hc16] at hcut16; have HO116 := Aside0.mk (show Kd.V k35 35 _ w.heap.size _ (.slice A16 y112.length c16) y112 from Kd.V_mk (by rw [hy16, hc16]; exact Nat.sub_le_sub_right hroom16 _) hr16); have HC116 := Aside0.mk (show y112.length ≤ c16 from by rw [hy16, hc16]; exact Nat.sub_le_sub_right hroom16 _); clear hr16 hC16 hroom16 hi016 hsz16 hc16; have KY16 := Aside0.mk hy16; have KA16 := Aside0.mk hA16; clear hy16 hA16; replace q16 := eq_true q16)); try go_wp2_with (first | ((with_reducible refine gate_builtin (b := .append) (xs := #[.tmp 50, .tmp 55]) rfl ?_); (try (refine gate_guard (by rfl) ?_; dsimp only)); at_builtin; refine Kd.R_append k37 (w0 := w) w.heap.size rfl (.tmp 50) (.tmp 55) 26 37 (.agg #[(.int .i64 0), (.int .i64 0), (.int .i64 0), (.int .i64 0), (.int .i64 0), (.int .u32 0), (.int .u32 0), (.int .i64 0)]) 56 rfl Try.underlying26 info37 rfl (by decide) (by omega) u5 x5_1 (⟨1, (⟨(rd_T35 x0_1 0).f0, (rd_T35 x0_1 0).f1, (rd_T35 x0_1 0).f2, (rd_T35 x0_1 0).f3, (⟨(rd_T35 x0_1 0).f4.f0, (rd_T35 x0_1 0).f4.f1⟩ : S33), (rd_T35 x0_1 0).f5⟩ : S35)⟩ : S37) [.int .i64 1, .int .i64 ((rd_T35 x0_1 0).f0), .int .i64 ((rd_T35 x0_1 0).f1), .int .i64 ((rd_T35 x0_1 0).f2), .int .i64 ((rd_T35 x0_1 0).f3), .int .u32 ((rd_T35 x0_1 0).f4.f0), .int .u32 ((rd_T35 x0_1 0).f4.f1), .int .i64 ((rd_T35 x0_1 0).f5)] (fun k_ => (w.heap.size ≤ k_)) (fun _ => False) rfl rfl ?aP (fun _ hk => hk.elim) ?aF ?aO ?aB ?aS ?aL ?_; (case aP => exact k37_mkM _ _ _ (⟨1, (⟨(rd_T35 x0_1 0).f0, (rd_T35 x0_1 0).f1, (rd_T35 x0_1 0).f2, (rd_T35 x0_1 0).f3, (⟨(rd_T35 x0_1 0).f4.f0, (rd_T35 x0_1 0).f4.f1⟩ : S33), (rd_T35 x0_1 0).f5⟩ : S35)⟩ : S37)); (case aB => exact (by repeat (first | (with_reducible first | exact HB.out | apply below_alloc | apply pw_below_drewN | apply below_drew1) | exact HB.out))); (case aF => exact (fun k_ hk => (Nat.le_trans (below_size (by repeat (first | (with_reducible first | exact HB.out | apply below_alloc | apply pw_below_drewN | apply below_drew1) | exact HB.out))) hk))); (case aO => exact (by (with_reducible repeat (first | apply Kd.R_alloc | apply Kd.R_drewN | apply Kd.R_drew)); exact HO_5.out)); (case aS => exact (below_size (by repeat (first | (with_reducible first | exact HB.out | apply below_alloc | apply pw_below_drewN | apply below_drew1) | exact HB.out)))); (case aL => have := LMc13.out; omega); intro v110 w15 ho hb hg hat; rw [← Ny109.out] at ho; have n0_ := Aside0.mk (Kd.V_afterv (ok := (fun k_ => ((P0_ k_ ∨ P1_ k_) ∨ w.heap.size ≤ k_))) (by (with_reducible repeat (first | apply Kd.V_alloc | apply Kd.V_drewN | apply Kd.V_drew)); exact HO_0.out) hg hat); have n1_ := Aside0.mk (Kd.V_afterv (ok := (fun k_ => ((P0_ k_ ∨ P1_ k_) ∨ w.heap.size ≤ k_))) (by (with_reducible repeat (first | apply Kd.V_alloc | apply Kd.V_drewN | apply Kd.V_drew)); exact HO_1.out) hg hat); have n2_ := Aside0.mk (hb); have n3_ := Aside0.mk (ho); clear HO_0; clear HO_1; clear HB; clear HO_5; have HO_0 := n0_; have HO_1 := n1_; have HB := n2_; have HO111 := n3_; clear n0_ n1_ n2_ n3_; clear ho hb hg hat; have q16 : (1 : Int) ≤ ((x0_1.length : Int) : Int) := of_decide_eq_true (by first | (with_reducible assumption) | assumption); obtain ⟨i016, hi016, _, hsz16, _⟩ := info_parts info35; have hroom16 : x0_1.length ≤ co5 := (Kd.V_reads' HO_0.out).2.1; have hC16 : Kd.F k35 _ _ (some ad108) x0_1.length x0_1 := (Kd.V_at (base := w.heap.size) HO_0.out).2.2; have hcut16 := cut_from (P := Try.prog) 22 35 .i64 Try.underlying22 hi016 7 hsz16 (some ad108) x0_1.length co5 1 (by omega) q16; have hr16 := Kd.F_cut (m := (1 : Int).toNat) (c := co5) hC16 (by omega) hroom16; obtain ⟨A16, hA16⟩ : ∃ A1, A1 = (if co5 = (1 : Int).toNat then (some ad108) else ((some ad108) : Option Addr).map (·.add ((1 : Int).toNat * 7))) := ⟨_, rfl⟩; obtain ⟨c16, hc16⟩ : ∃ c1, c1 = co5 - (1 : Int).toNat := ⟨_, rfl⟩; have hy16 : y112.length = x0_1.length - (1 : Int).toNat := (by rw [Ny112.out, List.length_drop] <;> omega); rw [show (x0_1).drop (1 : Int).toNat = y112 from Ny112.out.symm] at hr16; replace hr16 : Kd.F k35 _ _ A16 y112.length y112 := (by rw [hA16]; exact hr16); rw [← hy16, ← hA16, ← hc16] at hcut16; have HO116 := Aside0.mk (show Kd.V k35 35 _ w.heap.size _ (.slice A16 y112.length c16) y112 from Kd.V_mk (by rw [hy16, hc16]; exact Nat.sub_le_sub_right hroom16 _) hr16); have HC116 := Aside0.mk (show y112.length ≤ c16 from by rw [hy16, hc16]; exact Nat.sub_le_sub_right hroom16 _); clear hr16 hC16 hroom16 hi016 hsz16 hc16; have KY16 := Aside0.mk hy16; have KA16 := Aside0.mk hA16; clear hy16 hA16; replace q16 := eq_true q16)))
                    go_roundg kj3
                    case measure => have := HK1.out; have := HJ3.out; omega
                    case rel => exact ⟨(y112), (x1_1), (y109), H', ⟨by have := HK1.out; have := HJ3.out; omega⟩, ⟨by (with_reducible repeat (first | apply Kd.V_alloc | apply Kd.V_drewN | apply Kd.V_drew)); exact HO116.out⟩, ⟨by (with_reducible repeat (first | apply Kd.V_alloc | apply Kd.V_drewN | apply Kd.V_drew)); exact HO_1.out⟩, ⟨by (with_reducible repeat (first | apply Kd.R_alloc | apply Kd.R_drewN | apply Kd.R_drew)); exact HO111.out⟩, ⟨by repeat (first | (with_reducible first | exact HB.out | apply below_alloc | apply pw_below_drewN | apply below_drew1) | exact HB.out)⟩⟩
                  · rw [if_neg c14] at H
                    exact absurd H (by simp)
                · rw [if_neg c13] at H
                  exact absurd H (by simp)
              · rw [if_neg c12] at H
                exact absurd H (by simp)
            · replace c11 := Bool.eq_false_iff.mpr c11
              subst c11
              have H1 : (if (x0_1.length : Int) = 0 then (edit_Diff.j2 kj3 x0_1 x1_1 x5_1 true) else (if 0 < (x1_1.length : Int) then (if 0 < (x0_1.length : Int) then (edit_Diff.j2 kj3 x0_1 x1_1 x5_1 (decide (((rd_T35 x1_1 0).f0) < ((rd_T35 x0_1 0).f0)))) else (none)) else (none))) = some r := by rw [if_neg (show ¬ (false = true) by decide)] at H; exact H
              clear H
              have H := H1
              clear H1
              have HC17 := Aside0.mk H
              clear H
              go_upto_region 9 with (fail)
              repeat (go_quiet (fail); go_upto_region 9 with (fail))
              go_cut [59] (fun v59 wc => ∃ (kq : Nat) (x59_16 : Bool), v59 = .bool x59_16 ∧ Aside0 (edit_Diff.j2 kq x0_1 x1_1 x5_1 x59_16 = some r) ∧ Aside0 (kq ≤ kj3) ∧ Aside0 (Kd.V k35 35 wc w.heap.size (fun k_ => ((P0_ k_ ∨ P1_ k_) ∨ w.heap.size ≤ k_) ∧ some k_ ≠ (u5 : Value).ownBlock) (.slice Ao5 x0_1.length co5) x0_1) ∧ Aside0 (Kd.V k35 35 wc w.heap.size (fun k_ => ((P0_ k_ ∨ P1_ k_) ∨ w.heap.size ≤ k_) ∧ some k_ ≠ (u5 : Value).ownBlock) (.slice Ao6 x1_1.length co6) x1_1) ∧ Aside0 (Kd.R k37 37 wc w.heap.size (fun k_ => (w.heap.size ≤ k_)) u5 x5_1) ∧ Aside0 (Below w.heap.size w wc))
              case first =>
                have H := HC17.out
                clear HC17
                by_cases c18 : (x0_1.length : Int) = 0
                · rw [if_pos c18] at H
                  have c18b0 : ((x0_1.length : Int) == 0) = true := beq_iff_eq.mpr c18
                  have c18b1 : ((x0_1.length : Int) != 0) = false := bne_eq_false_iff_eq.mpr c18
                  clear c18
                  (first | rw [c18b0] | (simp only [i64_w, i32_w]; rw [c18b0]) | skip)
                  have H' := Aside0.mk H
                  clear H
                  go_wp2
                  repeat (go_quiet (fail); try go_wp2)
                  go_meet
                  case rel => exact ⟨_, (true), (by first | rfl | (simp; done) | (simp [*]; done)), H', ⟨by have := HK1.out; have := HJ3.out; first | omega | exact Nat.le_refl _⟩, ⟨by (with_reducible repeat (first | apply Kd.V_alloc | apply Kd.V_drewN | apply Kd.V_drew)); exact HO_0.out⟩, ⟨by (with_reducible repeat (first | apply Kd.V_alloc | apply Kd.V_drewN | apply Kd.V_drew)); exact HO_1.out⟩, ⟨by (with_reducible repeat (first | apply Kd.R_alloc | apply Kd.R_drewN | apply Kd.R_drew)); exact HO_5.out⟩, ⟨by repeat (first | (with_reducible first | exact HB.out | apply below_alloc | apply pw_below_drewN | apply below_drew1) | exact HB.out)⟩⟩
                · rw [if_neg c18] at H
                  have c18b0 : ((x0_1.length : Int) == 0) = false := beq_eq_false_iff_ne.mpr c18
                  have c18b1 : ((x0_1.length : Int) != 0) = true := bne_iff_ne.mpr c18
                  have c18b2 : ¬ (x0_1 = []) := fun h_ => c18 (by rw [h_]; rfl)
                  (first | rw [c18b0] | (simp only [i64_w, i32_w]; rw [c18b0]) | skip)
                  by_cases c19 : 0 < (x1_1.length : Int)
                  · rw [if_pos c19] at H
                    have c19b0 : decide (0 < (x1_1.length : Int)) = true := decide_eq_true c19
                    have c19b1 : decide (0 < x1_1.length) = true := decide_eq_true (by omega)
                    clear c19
                    by_cases c20 : 0 < (x0_1.length : Int)
                    · rw [if_pos c20] at H
                      have c20b0 : decide (0 < (x0_1.length : Int)) = true := decide_eq_true c20
                      have c20b1 : decide (0 < x0_1.length) = true := decide_eq_true (by omega)
                      clear c20
                      have H' := Aside0.mk H
                      clear H
                      have p117 : 0 ≤ (0 : Int) := (by omega)
                      have q117 : 0 < (x1_1.length : Int) := of_decide_eq_true (by first | (with_reducible assumption) | assumption)
                      obtain ⟨ad117, e117, hx117_0, hx117_1, hx117_2, hx117_3, hx117_4, hx117_5, hx117_6⟩ := at_T35 (Kd.V_reads' HO_1.out).2.2 0 p117 q117
                      cases e117
                      have qi117 : (0 < x1_1.length) = True := eq_true (by omega)
                      (try rw [show ((0 : Int)).toNat = 0 from rfl] at hx117_0)
                      (try rw [show 0 * 7 = 0 from rfl] at hx117_0)
                      (try rw [Addr.add_zero'] at hx117_0)
                      (try rw [show ((0 : Int)).toNat = 0 from rfl] at hx117_1)
                      (try rw [show 0 * 7 = 0 from rfl] at hx117_1)
                      (try rw [Addr.add_zero'] at hx117_1)
                      (try rw [show ((0 : Int)).toNat = 0 from rfl] at hx117_2)
                      (try rw [show 0 * 7 = 0 from rfl] at hx117_2)
                      (try rw [Addr.add_zero'] at hx117_2)
                      (try rw [show ((0 : Int)).toNat = 0 from rfl] at hx117_3)
                      (try rw [show 0 * 7 = 0 from rfl] at hx117_3)
                      (try rw [Addr.add_zero'] at hx117_3)
                      (try rw [show ((0 : Int)).toNat = 0 from rfl] at hx117_4)
                      (try rw [show 0 * 7 = 0 from rfl] at hx117_4)
                      (try rw [Addr.add_zero'] at hx117_4)
                      (try rw [show ((0 : Int)).toNat = 0 from rfl] at hx117_5)
                      (try rw [show 0 * 7 = 0 from rfl] at hx117_5)
                      (try rw [Addr.add_zero'] at hx117_5)
                      (try rw [show ((0 : Int)).toNat = 0 from rfl] at hx117_6)
                      (try rw [show 0 * 7 = 0 from rfl] at hx117_6)
                      (try rw [Addr.add_zero'] at hx117_6)
                      replace p117 := eq_true p117
                      replace q117 := eq_true q117
                      have p118 : 0 ≤ (0 : Int) := (by omega)
                      have q118 : 0 < (x0_1.length : Int) := of_decide_eq_true (by first | (with_reducible assumption) | assumption)
                      obtain ⟨ad118, e118, hx118_0, hx118_1, hx118_2, hx118_3, hx118_4, hx118_5, hx118_6⟩ := at_T35 (Kd.V_reads' HO_0.out).2.2 0 p118 q118
                      cases e118
                      have qi118 : (0 < x0_1.length) = True := eq_true (by omega)
                      (try rw [show ((0 : Int)).toNat = 0 from rfl] at hx118_0)
                      (try rw [show 0 * 7 = 0 from rfl] at hx118_0)
                      (try rw [Addr.add_zero'] at hx118_0)
                      (try rw [show ((0 : Int)).toNat = 0 from rfl] at hx118_1)
                      (try rw [show 0 * 7 = 0 from rfl] at hx118_1)
                      (try rw [Addr.add_zero'] at hx118_1)
                      (try rw [show ((0 : Int)).toNat = 0 from rfl] at hx118_2)
                      (try rw [show 0 * 7 = 0 from rfl] at hx118_2)
                      (try rw [Addr.add_zero'] at hx118_2)
                      (try rw [show ((0 : Int)).toNat = 0 from rfl] at hx118_3)
                      (try rw [show 0 * 7 = 0 from rfl] at hx118_3)
                      (try rw [Addr.add_zero'] at hx118_3)
                      (try rw [show ((0 : Int)).toNat = 0 from rfl] at hx118_4)
                      (try rw [show 0 * 7 = 0 from rfl] at hx118_4)
                      (try rw [Addr.add_zero'] at hx118_4)
                      (try rw [show ((0 : Int)).toNat = 0 from rfl] at hx118_5)
                      (try rw [show 0 * 7 = 0 from rfl] at hx118_5)
                      (try rw [Addr.add_zero'] at hx118_5)
                      (try rw [show ((0 : Int)).toNat = 0 from rfl] at hx118_6)
                      (try rw [show 0 * 7 = 0 from rfl] at hx118_6)
                      (try rw [Addr.add_zero'] at hx118_6)
                      replace p118 := eq_true p118
                      replace q118 := eq_true q118
                      go_wp2
                      repeat (go_quiet (fail); try go_wp2)
                      go_meet
                      case rel => exact ⟨_, (decide (((rd_T35 x1_1 0).f0) < ((rd_T35 x0_1 0).f0))), (by first | rfl | (simp; done) | (simp [*]; done)), H', ⟨by have := HK1.out; have := HJ3.out; first | omega | exact Nat.le_refl _⟩, ⟨by (with_reducible repeat (first | apply Kd.V_alloc | apply Kd.V_drewN | apply Kd.V_drew)); exact HO_0.out⟩, ⟨by (with_reducible repeat (first | apply Kd.V_alloc | apply Kd.V_drewN | apply Kd.V_drew)); exact HO_1.out⟩, ⟨by (with_reducible repeat (first | apply Kd.R_alloc | apply Kd.R_drewN | apply Kd.R_drew)); exact HO_5.out⟩, ⟨by repeat (first | (with_reducible first | exact HB.out | apply below_alloc | apply pw_below_drewN | apply below_drew1) | exact HB.out)⟩⟩
                    · rw [if_neg c20] at H
                      exact absurd H (by simp)
                  · rw [if_neg c19] at H
                    exact absurd H (by simp)
              case rest =>
                clear HC17
                try clear c1
                try clear p1
                try clear q1
                try clear hx1
                try clear qi1
                try clear c2
                try clear p2
                try clear c3
                try clear c3b0
                try clear p6
                try clear c7
                try clear c7b0
                try clear c7b1
                try clear c7b2
                try clear c8
                try clear c8b0
                try clear c8b1
                try clear c9
                try clear c9b0
                try clear c9b1
                try clear c10
                try clear c10b0
                try clear c10b1
                try clear p10
                try clear q10
                try clear hx10
                try clear qi10
                try clear c11
                try clear p11
                try clear q11
                try clear hx11
                try clear qi11
                try clear c12
                try clear c12b0
                try clear c12b1
                try clear c13
                try clear c14
                try clear c14b0
                try clear c14b1
                try clear c16
                try clear q16
                try clear c18
                try clear c18b0
                try clear c18b1
                try clear c18b2
                try clear c19
                try clear c19b0
                try clear c19b1
                try clear c20
                try clear c20b0
                try clear c20b1
                try clear hx106_0
                try clear hx106_1
                try clear hx106_2
                try clear hx106_3
                try clear hx106_4
                try clear hx106_5
                try clear hx106_6
                try clear hx107_0
                try clear hx107_1
                try clear hx107_2
                try clear hx107_3
                try clear hx107_4
                try clear hx107_5
                try clear hx107_6
                try clear hx108_0
                try clear hx108_1
                try clear hx108_2
                try clear hx108_3
                try clear hx108_4
                try clear hx108_5
                try clear hx108_6
                try clear hx117_0
                try clear hx117_1
                try clear hx117_2
                try clear hx117_3
                try clear hx117_4
                try clear hx117_5
                try clear hx117_6
                try clear hx118_0
                try clear hx118_1
                try clear hx118_2
                try clear hx118_3
                try clear hx118_4
                try clear hx118_5
                try clear hx118_6
                try clear p1
                try clear p10
                try clear p106
                try clear p107
                try clear p108
                try clear p117
                try clear p118
                try clear p2
                try clear p6
                try clear q1
                try clear q10
                try clear q106
                try clear q107
                try clear q108
                try clear q117
                try clear q118
                try clear q16
                obtain ⟨kq, x59_16, rfl, HA, HJ16, HO_0, HO_1, HO_5, HB⟩ := hcut
                cases kq with
                | zero => exact absurd HA.out (by simp [edit_Diff.j2])
                | succ kj16 =>
                  have H := HA.out
                  clear HA
                  simp only [edit_Diff.j2] at H
                  by_cases c21 : x59_16 = true
                  · subst c21
                    have H1 : (if 0 < (x1_1.length : Int) then (if x5_1.length < 2513169434916 then (if 1 ≤ (x1_1.length : Int) then (edit_Diff.l0 kj16 x0_1 (x1_1.drop 1) (x5_1 ++ [(⟨0, (⟨(rd_T35 x1_1 0).f0, (rd_T35 x1_1 0).f1, (rd_T35 x1_1 0).f2, (rd_T35 x1_1 0).f3, (⟨(rd_T35 x1_1 0).f4.f0, (rd_T35 x1_1 0).f4.f1⟩ : S33), (rd_T35 x1_1 0).f5⟩ : S35)⟩ : S37)])) else (none)) else (none)) else (none)) = some r := by rw [if_pos rfl] at H; exact H
                    clear H
                    have H := H1
                    clear H1
                    by_cases c22 : 0 < (x1_1.length : Int)
                    · rw [if_pos c22] at H
                      have c22b0 : decide (0 < (x1_1.length : Int)) = true := decide_eq_true c22
                      have c22b1 : decide (0 < x1_1.length) = true := decide_eq_true (by omega)
                      clear c22
                      by_cases c23 : x5_1.length < 2513169434916
                      · rw [if_pos c23] at H
                        have LMc23 := Aside0.mk c23
                        clear c23
                        obtain ⟨y120, hy120⟩ : ∃ y_ : List (S37), y_ = (x5_1 ++ [(⟨0, (⟨(rd_T35 x1_1 0).f0, (rd_T35 x1_1 0).f1, (rd_T35 x1_1 0).f2, (rd_T35 x1_1 0).f3, (⟨(rd_T35 x1_1 0).f4.f0, (rd_T35 x1_1 0).f4.f1⟩ : S33), (rd_T35 x1_1 0).f5⟩ : S35)⟩ : S37)]) := ⟨_, rfl⟩
                        replace H : (if 1 ≤ (x1_1.length : Int) then (edit_Diff.l0 kj16 x0_1 (x1_1.drop 1) y120) else (none)) = some r := by first | (rw [hy120]; with_reducible exact H) | (have H2_ := (Option.bind_some _ _).symm.trans H; rw [hy120]; with_reducible exact H2_) | (have H2_ := (Option.bind_some _ _).symm.trans H; with_reducible exact H2_) | with_reducible exact H | (rw [hy120]; exact H) | exact H
                        have Ny120 := Aside0.mk hy120
                        clear hy120
                        by_cases c24 : 1 ≤ (x1_1.length : Int)
                        · rw [if_pos c24] at H
                          have c24b0 := eq_true c24
                          have c24b1 : decide (1 ≤ (x1_1.length : Int)) = true := decide_eq_true c24
                          clear c24
                          obtain ⟨y123, hy123⟩ : ∃ y_ : List (S35), y_ = (x1_1.drop 1) := ⟨_, rfl⟩
                          replace H : (edit_Diff.l0 kj16 x0_1 y123 y120) = some r := by first | (rw [hy123]; with_reducible exact H) | (have H2_ := (Option.bind_some _ _).symm.trans H; rw [hy123]; with_reducible exact H2_) | (have H2_ := (Option.bind_some _ _).symm.trans H; with_reducible exact H2_) | with_reducible exact H | (rw [hy123]; exact H) | exact H
                          have Ny123 := Aside0.mk hy123
                          clear hy123
                          have H' := Aside0.mk H
                          clear H
                          have p119 : 0 ≤ (0 : Int) := (by omega)
                          have q119 : 0 < (x1_1.length : Int) := of_decide_eq_true (by first | (with_reducible assumption) | assumption)
                          obtain ⟨ad119, e119, hx119_0, hx119_1, hx119_2, hx119_3, hx119_4, hx119_5, hx119_6⟩ := at_T35 (Kd.V_reads' HO_1.out).2.2 0 p119 q119
                          cases e119
                          have qi119 : (0 < x1_1.length) = True := eq_true (by omega)
                          (try rw [show ((0 : Int)).toNat = 0 from rfl] at hx119_0)
                          (try rw [show 0 * 7 = 0 from rfl] at hx119_0)
                          (try rw [Addr.add_zero'] at hx119_0)
                          (try rw [show ((0 : Int)).toNat = 0 from rfl] at hx119_1)
                          (try rw [show 0 * 7 = 0 from rfl] at hx119_1)
                          (try rw [Addr.add_zero'] at hx119_1)
                          (try rw [show ((0 : Int)).toNat = 0 from rfl] at hx119_2)
                          (try rw [show 0 * 7 = 0 from rfl] at hx119_2)
                          (try rw [Addr.add_zero'] at hx119_2)
                          (try rw [show ((0 : Int)).toNat = 0 from rfl] at hx119_3)
                          (try rw [show 0 * 7 = 0 from rfl] at hx119_3)
                          (try rw [Addr.add_zero'] at hx119_3)
                          (try rw [show ((0 : Int)).toNat = 0 from rfl] at hx119_4)
                          (try rw [show 0 * 7 = 0 from rfl] at hx119_4)
                          (try rw [Addr.add_zero'] at hx119_4)
                          (try rw [show ((0 : Int)).toNat = 0 from rfl] at hx119_5)
                          (try rw [show 0 * 7 = 0 from rfl] at hx119_5)
                          (try rw [Addr.add_zero'] at hx119_5)
                          (try rw [show ((0 : Int)).toNat = 0 from rfl] at hx119_6)
                          (try rw [show 0 * 7 = 0 from rfl] at hx119_6)
                          (try rw [Addr.add_zero'] at hx119_6)
                          replace p119 := eq_true p119
                          replace q119 := eq_true q119
                          go_wp2_with (first | ((with_reducible refine gate_builtin (b := .append) (xs := #[.tmp 74, .tmp 79]) rfl ?_); (try (refine gate_guard (by rfl) ?_; dsimp only)); at_builtin; refine Kd.R_append k37 (w0 := w) w.heap.size rfl (.tmp 74) (.tmp 79) 26 37 (.agg #[(.int .i64 0), (.int .i64 0), (.int .i64 0), (.int .i64 0), (.int .i64 0), (.int .u32 0), (.int .u32 0), (.int .i64 0)]) 56 rfl Try.underlying26 info37 rfl (by decide) (by omega) u5 x5_1 (⟨0, (⟨(rd_T35 x1_1 0).f0, (rd_T35 x1_1 0).f1, (rd_T35 x1_1 0).f2, (rd_T35 x1_1 0).f3, (⟨(rd_T35 x1_1 0).f4.f0, (rd_T35 x1_1 0).f4.f1⟩ : S33), (rd_T35 x1_1 0).f5⟩ : S35)⟩ : S37) [.int .i64 0, .int .i64 ((rd_T35 x1_1 0).f0), .int .i64 ((rd_T35 x1_1 0).f1), .int .i64 ((rd_T35 x1_1 0).f2), .int .i64 ((rd_T35 x1_1 0).f3), .int .u32 ((rd_T35 x1_1 0).f4.f0), .int .u32 ((rd_T35 x1_1 0).f4.f1), .int .i64 ((rd_T35 x1_1 0).f5)] (fun k_ => (w.heap.size ≤ k_)) (fun _ => False) rfl rfl ?aP (fun _ hk => hk.elim) ?aF ?aO ?aB ?aS ?aL ?_; (case aP => exact k37_mkM _ _ _ (⟨0, (⟨(rd_T35 x1_1 0).f0, (rd_T35 x1_1 0).f1, (rd_T35 x1_1 0).f2, (rd_T35 x1_1 0).f3, (⟨(rd_T35 x1_1 0).f4.f0, (rd_T35 x1_1 0).f4.f1⟩ : S33), (rd_T35 x1_1 0).f5⟩ : S35)⟩ : S37)); (case aB => exact (by repeat (first | (with_reducible first | exact HB.out | apply below_alloc | apply pw_below_drewN | apply below_drew1) | exact HB.out))); (case aF => exact (fun k_ hk => (Nat.le_trans (below_size (by repeat (first | (with_reducible first | exact HB.out | apply below_alloc | apply pw_below_drewN | apply below_drew1) | exact HB.out))) hk))); (case aO => exact (by (with_reducible repeat (first | apply Kd.R_alloc | apply Kd.R_drewN | apply Kd.R_drew)); exact HO_5.out)); (case aS => exact (below_size (by repeat (first | (with_reducible first | exact HB.out | apply below_alloc | apply pw_below_drewN | apply below_drew1) | exact HB.out)))); (case aL => have := LMc23.out; omega); intro v121 w25 ho hb hg hat; rw [← Ny120.out] at ho; have n0_ := Aside0.mk (Kd.V_afterv (ok := (fun k_ => ((P0_ k_ ∨ P1_ k_) ∨ w.heap.size ≤ k_))) (by (with_reducible repeat (first | apply Kd.V_alloc | apply Kd.V_drewN | apply Kd.V_drew)); exact HO_0.out) hg hat); have n1_ := Aside0.mk (Kd.V_afterv (ok := (fun k_ => ((P0_ k_ ∨ P1_ k_) ∨ w.heap.size ≤ k_))) (by (with_reducible repeat (first | apply Kd.V_alloc | apply Kd.V_drewN | apply Kd.V_drew)); exact HO_1.out) hg hat); have n2_ := Aside0.mk (hb); have n3_ := Aside0.mk (ho); clear HO_0; clear HO_1; clear HB; clear HO_5; have HO_0 := n0_; have HO_1 := n1_; have HB := n2_; have HO122 := n3_; clear n0_ n1_ n2_ n3_; clear ho hb hg hat; have q26 : (1 : Int) ≤ ((x1_1.length : Int) : Int) := of_decide_eq_true (by first | (with_reducible assumption) | assumption); obtain ⟨i026, hi026, _, hsz26, _⟩ := info_parts info35; have hroom26 : x1_1.length ≤ co6 := (Kd.V_reads' HO_1.out).2.1; have hC26 : Kd.F k35 _ _ (some ad119) x1_1.length x1_1 := (Kd.V_at (base := w.heap.size) HO_1.out).2.2; have hcut26 := cut_from (P := Try.prog) 22 35 .i64 Try.underlying22 hi026 7 hsz26 (some ad119) x1_1.length co6 1 (by omega) q26; have hr26 := Kd.F_cut (m := (1 : Int).toNat) (c := co6) hC26 (by omega) hroom26; obtain ⟨A26, hA26⟩ : ∃ A1, A1 = (if co6 = (1 : Int).toNat then (some ad119) else ((some ad119) : Option Addr).map (·.add ((1 : Int).toNat * 7))) := ⟨_, rfl⟩; obtain ⟨c26, hc26⟩ : ∃ c1, c1 = co6 - (1 : Int).toNat := ⟨_, rfl⟩; have hy26 : y123.length = x1_1.length - (1 : Int).toNat := (by rw [Ny123.out, List.length_drop] <;> omega); rw [show (x1_1).drop (1 : Int).toNat = y123 from Ny123.out.symm] at hr26; replace hr26 : Kd.F k35 _ _ A26 y123.length y123 := (by rw [hA26]; exact hr26); rw [← hy26, ← hA26, ← hc26] at hcut26; have HO127 := Aside0.mk (show Kd.V k35 35 _ w.heap.size _ (.slice A26 y123.length c26) y123 from Kd.V_mk (by rw [hy26, hc26]; exact Nat.sub_le_sub_right hroom26 _) hr26); have HC127 := Aside0.mk (show y123.length ≤ c26 from by rw [hy26, hc26]; exact Nat.sub_le_sub_right hroom26 _); clear hr26 hC26 hroom26 hi026 hsz26 hc26; have KY26 := Aside0.mk hy26; have KA26 := Aside0.mk hA26; clear hy26 hA26; replace q26 := eq_true q26))
                          repeat (go_quiet (first | ((with_reducible refine gate_builtin (b := .append) (xs := #[.tmp 74, .tmp 79]) rfl ?_); (try (refine gate_guard (by rfl) ?_; dsimp only)); at_builtin; refine Kd.R_append k37 (w0 := w) w.heap.size rfl (.tmp 74) (.tmp 79) 26 37 (.agg #[(.int .i64 0), (.int .i64 0), (.int .i64 0), (.int .i64 0), (.int .i64 0), (.int .u32 0), (.int .u32 0), (.int .i64 0)]) 56 rfl Try.underlying26 info37 rfl (by decide) (by omega) u5 x5_1 (⟨0, (⟨(rd_T35 x1_1 0).f0, (rd_T35 x1_1 0).f1, (rd_T35 x1_1 0).f2, (rd_T35 x1_1 0).f3, (⟨(rd_T35 x1_1 0).f4.f0, (rd_T35 x1_1 0).f4.f1⟩ : S33), (rd_T35 x1_1 0).f5⟩ : S35)⟩ : S37) [.int .i64 0, .int .i64 ((rd_T35 x1_1 0).f0), .int .i64 ((rd_T35 x1_1 0).f1), .int .i64 ((rd_T35 x1_1 0).f2), .int .i64 ((rd_T35 x1_1 0).f3), .int .u32 ((rd_T35 x1_1 0).f4.f0), .int .u32 ((rd_T35 x1_1 0).f4.f1), .int .i64 ((rd_T35 x1_1 0).f5)] (fun k_ => (w.heap.size ≤ k_)) (fun _ => False) rfl rfl ?aP (fun _ hk => hk.elim) ?aF ?aO ?aB ?aS ?aL ?_; (case aP => exact k37_mkM _ _ _ (⟨0, (⟨(rd_T35 x1_1 0).f0, (rd_T35 x1_1 0).f1, (rd_T35 x1_1 0).f2, (rd_T35 x1_1 0).f3, (⟨(rd_T35 x1_1 0).f4.f0, (rd_T35 x1_1 0).f4.f1⟩ : S33), (rd_T35 x1_1 0).f5⟩ : S35)⟩ : S37)); (case aB => exact (by repeat (first | (with_reducible first | exact HB.out | apply below_alloc | apply pw_below_drewN | apply below_drew1) | exact HB.out))); (case aF => exact (fun k_ hk => (Nat.le_trans (below_size (by repeat (first | (with_reducible first | exact HB.out | apply below_alloc | apply pw_below_drewN | apply below_drew1) | exact HB.out))) hk))); (case aO => exact (by (with_reducible repeat (first | apply Kd.R_alloc | apply Kd.R_drewN | apply Kd.R_drew)); exact HO_5.out)); (case aS => exact (below_size (by repeat (first | (with_reducible first | exact HB.out | apply below_alloc | apply pw_below_drewN | apply below_drew1) | exact HB.out)))); (case aL => have := LMc23.out; omega); intro v121 w25 ho hb hg hat; rw [← Ny120.out] at ho; have n0_ := Aside0.mk (Kd.V_afterv (ok := (fun k_ => ((P0_ k_ ∨ P1_ k_) ∨ w.heap.size ≤ k_))) (by (with_reducible repeat (first | apply Kd.V_alloc | apply Kd.V_drewN | apply Kd.V_drew)); exact HO_0.out) hg hat); have n1_ := Aside0.mk (Kd.V_afterv (ok := (fun k_ => ((P0_ k_ ∨ P1_ k_) ∨ w.heap.size ≤ k_))) (by (with_reducible repeat (first | apply Kd.V_alloc | apply Kd.V_drewN | apply Kd.V_drew)); exact HO_1.out) hg hat); have n2_ := Aside0.mk (hb); have n3_ := Aside0.mk (ho); clear HO_0; clear HO_1; clear HB; clear HO_5; have HO_0 := n0_; have HO_1 := n1_; have HB := n2_; have HO122 := n3_; clear n0_ n1_ n2_ n3_; clear ho hb hg hat; have q26 : (1 : Int) ≤ ((x1_1.length : Int) : Int) := of_decide_eq_true (by first | (with_reducible assumption) | assumption); obtain ⟨i026, hi026, _, hsz26, _⟩ := info_parts info35; have hroom26 : x1_1.length ≤ co6 := (Kd.V_reads' HO_1.out).2.1; have hC26 : Kd.F k35 _ _ (some ad119) x1_1.length x1_1 := (Kd.V_at (base := w.heap.size) HO_1.out).2.2; have hcut26 := cut_from (P := Try.prog) 22 35 .i64 Try.underlying22 hi026 7 hsz26 (some ad119) x1_1.length co6 1 (by omega) q26; have hr26 := Kd.F_cut (m := (1 : Int).toNat) (c := co6) hC26 (by omega) hroom26; obtain ⟨A26, hA26⟩ : ∃ A1, A1 = (if co6 = (1 : Int).toNat then (some ad119) else ((some ad119) : Option Addr).map (·.add ((1 : Int).toNat * 7))) := ⟨_, rfl⟩; obtain ⟨c26, hc26⟩ : ∃ c1, c1 = co6 - (1 : Int).toNat := ⟨_, rfl⟩; have hy26 : y123.length = x1_1.length - (1 : Int).toNat := (by rw [Ny123.out, List.length_drop] <;> omega); rw [show (x1_1).drop (1 : Int).toNat = y123 from Ny123.out.symm] at hr26; replace hr26 : Kd.F k35 _ _ A26 y123.length y123 := (by rw [hA26]; exact hr26); rw [← hy26, ← hA26, ← hc26] at hcut26; have HO127 := Aside0.mk (show Kd.V k35 35 _ w.heap.size _ (.slice A26 y123.length c26) y123 from Kd.V_mk (by rw [hy26, hc26]; exact Nat.sub_le_sub_right hroom26 _) hr26); have HC127 := Aside0.mk (show y123.length ≤ c26 from by rw [hy26, hc26]; exact Nat.sub_le_sub_right hroom26 _); clear hr26 hC26 hroom26 hi026 hsz26 hc26; have KY26 := Aside0.mk hy26; have KA26 := Aside0.mk hA26; clear hy26 hA26; replace q26 := eq_true q26)); try go_wp2_with (first | ((with_reducible refine gate_builtin (b := .append) (xs := #[.tmp 74, .tmp 79]) rfl ?_); (try (refine gate_guard (by rfl) ?_; dsimp only)); at_builtin; refine Kd.R_append k37 (w0 := w) w.heap.size rfl (.tmp 74) (.tmp 79) 26 37 (.agg #[(.int .i64 0), (.int .i64 0), (.int .i64 0), (.int .i64 0), (.int .i64 0), (.int .u32 0), (.int .u32 0), (.int .i64 0)]) 56 rfl Try.underlying26 info37 rfl (by decide) (by omega) u5 x5_1 (⟨0, (⟨(rd_T35 x1_1 0).f0, (rd_T35 x1_1 0).f1, (rd_T35 x1_1 0).f2, (rd_T35 x1_1 0).f3, (⟨(rd_T35 x1_1 0).f4.f0, (rd_T35 x1_1 0).f4.f1⟩ : S33), (rd_T35 x1_1 0).f5⟩ : S35)⟩ : S37) [.int .i64 0, .int .i64 ((rd_T35 x1_1 0).f0), .int .i64 ((rd_T35 x1_1 0).f1), .int .i64 ((rd_T35 x1_1 0).f2), .int .i64 ((rd_T35 x1_1 0).f3), .int .u32 ((rd_T35 x1_1 0).f4.f0), .int .u32 ((rd_T35 x1_1 0).f4.f1), .int .i64 ((rd_T35 x1_1 0).f5)] (fun k_ => (w.heap.size ≤ k_)) (fun _ => False) rfl rfl ?aP (fun _ hk => hk.elim) ?aF ?aO ?aB ?aS ?aL ?_; (case aP => exact k37_mkM _ _ _ (⟨0, (⟨(rd_T35 x1_1 0).f0, (rd_T35 x1_1 0).f1, (rd_T35 x1_1 0).f2, (rd_T35 x1_1 0).f3, (⟨(rd_T35 x1_1 0).f4.f0, (rd_T35 x1_1 0).f4.f1⟩ : S33), (rd_T35 x1_1 0).f5⟩ : S35)⟩ : S37)); (case aB => exact (by repeat (first | (with_reducible first | exact HB.out | apply below_alloc | apply pw_below_drewN | apply below_drew1) | exact HB.out))); (case aF => exact (fun k_ hk => (Nat.le_trans (below_size (by repeat (first | (with_reducible first | exact HB.out | apply below_alloc | apply pw_below_drewN | apply below_drew1) | exact HB.out))) hk))); (case aO => exact (by (with_reducible repeat (first | apply Kd.R_alloc | apply Kd.R_drewN | apply Kd.R_drew)); exact HO_5.out)); (case aS => exact (below_size (by repeat (first | (with_reducible first | exact HB.out | apply below_alloc | apply pw_below_drewN | apply below_drew1) | exact HB.out)))); (case aL => have := LMc23.out; omega); intro v121 w25 ho hb hg hat; rw [← Ny120.out] at ho; have n0_ := Aside0.mk (Kd.V_afterv (ok := (fun k_ => ((P0_ k_ ∨ P1_ k_) ∨ w.heap.size ≤ k_))) (by (with_reducible repeat (first | apply Kd.V_alloc | apply Kd.V_drewN | apply Kd.V_drew)); exact HO_0.out) hg hat); have n1_ := Aside0.mk (Kd.V_afterv (ok := (fun k_ => ((P0_ k_ ∨ P1_ k_) ∨ w.heap.size ≤ k_))) (by (with_reducible repeat (first | apply Kd.V_alloc | apply Kd.V_drewN | apply Kd.V_drew)); exact HO_1.out) hg hat); have n2_ := Aside0.mk (hb); have n3_ := Aside0.mk (ho); clear HO_0; clear HO_1; clear HB; clear HO_5; have HO_0 := n0_; have HO_1 := n1_; have HB := n2_; have HO122 := n3_; clear n0_ n1_ n2_ n3_; clear ho hb hg hat; have q26 : (1 : Int) ≤ ((x1_1.length : Int) : Int) := of_decide_eq_true (by first | (with_reducible assumption) | assumption); obtain ⟨i026, hi026, _, hsz26, _⟩ := info_parts info35; have hroom26 : x1_1.length ≤ co6 := (Kd.V_reads' HO_1.out).2.1; have hC26 : Kd.F k35 _ _ (some ad119) x1_1.length x1_1 := (Kd.V_at (base := w.heap.size) HO_1.out).2.2; have hcut26 := cut_from (P := Try.prog) 22 35 .i64 Try.underlying22 hi026 7 hsz26 (some ad119) x1_1.length co6 1 (by omega) q26; have hr26 := Kd.F_cut (m := (1 : Int).toNat) (c := co6) hC26 (by omega) hroom26; obtain ⟨A26, hA26⟩ : ∃ A1, A1 = (if co6 = (1 : Int).toNat then (some ad119) else ((some ad119) : Option Addr).map (·.add ((1 : Int).toNat * 7))) := ⟨_, rfl⟩; obtain ⟨c26, hc26⟩ : ∃ c1, c1 = co6 - (1 : Int).toNat := ⟨_, rfl⟩; have hy26 : y123.length = x1_1.length - (1 : Int).toNat := (by rw [Ny123.out, List.length_drop] <;> omega); rw [show (x1_1).drop (1 : Int).toNat = y123 from Ny123.out.symm] at hr26; replace hr26 : Kd.F k35 _ _ A26 y123.length y123 := (by rw [hA26]; exact hr26); rw [← hy26, ← hA26, ← hc26] at hcut26; have HO127 := Aside0.mk (show Kd.V k35 35 _ w.heap.size _ (.slice A26 y123.length c26) y123 from Kd.V_mk (by rw [hy26, hc26]; exact Nat.sub_le_sub_right hroom26 _) hr26); have HC127 := Aside0.mk (show y123.length ≤ c26 from by rw [hy26, hc26]; exact Nat.sub_le_sub_right hroom26 _); clear hr26 hC26 hroom26 hi026 hsz26 hc26; have KY26 := Aside0.mk hy26; have KA26 := Aside0.mk hA26; clear hy26 hA26; replace q26 := eq_true q26)))
                          go_roundg kj16
                          case measure => have := HK1.out; have := HJ3.out; have := HJ16.out; omega
                          case rel => exact ⟨(x0_1), (y123), (y120), H', ⟨by have := HK1.out; have := HJ3.out; have := HJ16.out; omega⟩, ⟨by (with_reducible repeat (first | apply Kd.V_alloc | apply Kd.V_drewN | apply Kd.V_drew)); exact HO_0.out⟩, ⟨by (with_reducible repeat (first | apply Kd.V_alloc | apply Kd.V_drewN | apply Kd.V_drew)); exact HO127.out⟩, ⟨by (with_reducible repeat (first | apply Kd.R_alloc | apply Kd.R_drewN | apply Kd.R_drew)); exact HO122.out⟩, ⟨by repeat (first | (with_reducible first | exact HB.out | apply below_alloc | apply pw_below_drewN | apply below_drew1) | exact HB.out)⟩⟩
                        · rw [if_neg c24] at H
                          exact absurd H (by simp)
                      · rw [if_neg c23] at H
                        exact absurd H (by simp)
                    · rw [if_neg c22] at H
                      exact absurd H (by simp)
                  · replace c21 := Bool.eq_false_iff.mpr c21
                    subst c21
                    have H1 : (if 0 < (x0_1.length : Int) then (if 0 < (x1_1.length : Int) then (if (!(((rd_T35 x0_1 0).f0) == ((rd_T35 x1_1 0).f0)) || (!(((rd_T35 x0_1 0).f1) == ((rd_T35 x1_1 0).f1)) || (!(((rd_T35 x0_1 0).f2) == ((rd_T35 x1_1 0).f2)) || (!(((rd_T35 x0_1 0).f3) == ((rd_T35 x1_1 0).f3)) || ((!(((rd_T35 x0_1 0).f4.f0) == ((rd_T35 x1_1 0).f4.f0)) || (!(((rd_T35 x0_1 0).f4.f1) == ((rd_T35 x1_1 0).f4.f1)))) || (!(((rd_T35 x0_1 0).f5) == ((rd_T35 x1_1 0).f5)))))))) = true then (if x5_1.length < 2513169434916 then (if 1 ≤ (x0_1.length : Int) then (if 1 ≤ (x1_1.length : Int) then (edit_Diff.l0 kj16 (x0_1.drop 1) (x1_1.drop 1) (x5_1 ++ [(⟨2, (⟨(rd_T35 x1_1 0).f0, (rd_T35 x1_1 0).f1, (rd_T35 x1_1 0).f2, (rd_T35 x1_1 0).f3, (⟨(rd_T35 x1_1 0).f4.f0, (rd_T35 x1_1 0).f4.f1⟩ : S33), (rd_T35 x1_1 0).f5⟩ : S35)⟩ : S37)])) else (none)) else (none)) else (none)) else (if 1 ≤ (x0_1.length : Int) then (if 1 ≤ (x1_1.length : Int) then (edit_Diff.l0 kj16 (x0_1.drop 1) (x1_1.drop 1) x5_1) else (none)) else (none))) else (none)) else (none)) = some r := by rw [if_neg (show ¬ (false = true) by decide)] at H; exact H
                    clear H
                    have H := H1
                    clear H1
                    by_cases c27 : 0 < (x0_1.length : Int)
                    · rw [if_pos c27] at H
                      have c27b0 : decide (0 < (x0_1.length : Int)) = true := decide_eq_true c27
                      have c27b1 : decide (0 < x0_1.length) = true := decide_eq_true (by omega)
                      clear c27
                      by_cases c28 : 0 < (x1_1.length : Int)
                      · rw [if_pos c28] at H
                        have c28b0 : decide (0 < (x1_1.length : Int)) = true := decide_eq_true c28
                        have c28b1 : decide (0 < x1_1.length) = true := decide_eq_true (by omega)
                        clear c28
                        by_cases c29 : (!(((rd_T35 x0_1 0).f0) == ((rd_T35 x1_1 0).f0)) || (!(((rd_T35 x0_1 0).f1) == ((rd_T35 x1_1 0).f1)) || (!(((rd_T35 x0_1 0).f2) == ((rd_T35 x1_1 0).f2)) || (!(((rd_T35 x0_1 0).f3) == ((rd_T35 x1_1 0).f3)) || ((!(((rd_T35 x0_1 0).f4.f0) == ((rd_T35 x1_1 0).f4.f0)) || (!(((rd_T35 x0_1 0).f4.f1) == ((rd_T35 x1_1 0).f4.f1)))) || (!(((rd_T35 x0_1 0).f5) == ((rd_T35 x1_1 0).f5)))))))) = true
                        · rw [if_pos c29] at H
                          have c29b0 : (!(((rd_T35 x0_1 0).f0) == ((rd_T35 x1_1 0).f0)) || (!(((rd_T35 x0_1 0).f1) == ((rd_T35 x1_1 0).f1)) || (!(((rd_T35 x0_1 0).f2) == ((rd_T35 x1_1 0).f2)) || (!(((rd_T35 x0_1 0).f3) == ((rd_T35 x1_1 0).f3)) || ((!(((rd_T35 x0_1 0).f4.f0) == ((rd_T35 x1_1 0).f4.f0)) || (!(((rd_T35 x0_1 0).f4.f1) == ((rd_T35 x1_1 0).f4.f1)))) || (!(((rd_T35 x0_1 0).f5) == ((rd_T35 x1_1 0).f5)))))))) = true := c29
                          clear c29
                          by_cases c30 : x5_1.length < 2513169434916
                          · rw [if_pos c30] at H
                            have LMc30 := Aside0.mk c30
                            clear c30
                            obtain ⟨y131, hy131⟩ : ∃ y_ : List (S37), y_ = (x5_1 ++ [(⟨2, (⟨(rd_T35 x1_1 0).f0, (rd_T35 x1_1 0).f1, (rd_T35 x1_1 0).f2, (rd_T35 x1_1 0).f3, (⟨(rd_T35 x1_1 0).f4.f0, (rd_T35 x1_1 0).f4.f1⟩ : S33), (rd_T35 x1_1 0).f5⟩ : S35)⟩ : S37)]) := ⟨_, rfl⟩
                            replace H : (if 1 ≤ (x0_1.length : Int) then (if 1 ≤ (x1_1.length : Int) then (edit_Diff.l0 kj16 (x0_1.drop 1) (x1_1.drop 1) y131) else (none)) else (none)) = some r := by first | (rw [hy131]; with_reducible exact H) | (have H2_ := (Option.bind_some _ _).symm.trans H; rw [hy131]; with_reducible exact H2_) | (have H2_ := (Option.bind_some _ _).symm.trans H; with_reducible exact H2_) | with_reducible exact H | (rw [hy131]; exact H) | exact H
                            have Ny131 := Aside0.mk hy131
                            clear hy131
                            by_cases c31 : 1 ≤ (x0_1.length : Int)
                            · rw [if_pos c31] at H
                              have c31b0 := eq_true c31
                              have c31b1 : decide (1 ≤ (x0_1.length : Int)) = true := decide_eq_true c31
                              clear c31
                              obtain ⟨y134, hy134⟩ : ∃ y_ : List (S35), y_ = (x0_1.drop 1) := ⟨_, rfl⟩
                              replace H : (if 1 ≤ (x1_1.length : Int) then (edit_Diff.l0 kj16 y134 (x1_1.drop 1) y131) else (none)) = some r := by first | (rw [hy134]; with_reducible exact H) | (have H2_ := (Option.bind_some _ _).symm.trans H; rw [hy134]; with_reducible exact H2_) | (have H2_ := (Option.bind_some _ _).symm.trans H; with_reducible exact H2_) | with_reducible exact H | (rw [hy134]; exact H) | exact H
                              have Ny134 := Aside0.mk hy134
                              clear hy134
                              by_cases c32 : 1 ≤ (x1_1.length : Int)
                              · rw [if_pos c32] at H
                                have c32b0 := eq_true c32
                                have c32b1 : decide (1 ≤ (x1_1.length : Int)) = true := decide_eq_true c32
                                clear c32
                                obtain ⟨y139, hy139⟩ : ∃ y_ : List (S35), y_ = (x1_1.drop 1) := ⟨_, rfl⟩
                                replace H : (edit_Diff.l0 kj16 y134 y139 y131) = some r := by first | (rw [hy139]; with_reducible exact H) | (have H2_ := (Option.bind_some _ _).symm.trans H; rw [hy139]; with_reducible exact H2_) | (have H2_ := (Option.bind_some _ _).symm.trans H; with_reducible exact H2_) | with_reducible exact H | (rw [hy139]; exact H) | exact H
                                have Ny139 := Aside0.mk hy139
                                clear hy139
                                have H' := Aside0.mk H
                                clear H
                                have p128 : 0 ≤ (0 : Int) := (by omega)
                                have q128 : 0 < (x0_1.length : Int) := of_decide_eq_true (by first | (with_reducible assumption) | assumption)
                                obtain ⟨ad128, e128, hx128_0, hx128_1, hx128_2, hx128_3, hx128_4, hx128_5, hx128_6⟩ := at_T35 (Kd.V_reads' HO_0.out).2.2 0 p128 q128
                                cases e128
                                have qi128 : (0 < x0_1.length) = True := eq_true (by omega)
                                (try rw [show ((0 : Int)).toNat = 0 from rfl] at hx128_0)
                                (try rw [show 0 * 7 = 0 from rfl] at hx128_0)
                                (try rw [Addr.add_zero'] at hx128_0)
                                (try rw [show ((0 : Int)).toNat = 0 from rfl] at hx128_1)
                                (try rw [show 0 * 7 = 0 from rfl] at hx128_1)
                                (try rw [Addr.add_zero'] at hx128_1)
                                (try rw [show ((0 : Int)).toNat = 0 from rfl] at hx128_2)
                                (try rw [show 0 * 7 = 0 from rfl] at hx128_2)
                                (try rw [Addr.add_zero'] at hx128_2)
                                (try rw [show ((0 : Int)).toNat = 0 from rfl] at hx128_3)
                                (try rw [show 0 * 7 = 0 from rfl] at hx128_3)
                                (try rw [Addr.add_zero'] at hx128_3)
                                (try rw [show ((0 : Int)).toNat = 0 from rfl] at hx128_4)
                                (try rw [show 0 * 7 = 0 from rfl] at hx128_4)
                                (try rw [Addr.add_zero'] at hx128_4)
                                (try rw [show ((0 : Int)).toNat = 0 from rfl] at hx128_5)
                                (try rw [show 0 * 7 = 0 from rfl] at hx128_5)
                                (try rw [Addr.add_zero'] at hx128_5)
                                (try rw [show ((0 : Int)).toNat = 0 from rfl] at hx128_6)
                                (try rw [show 0 * 7 = 0 from rfl] at hx128_6)
                                (try rw [Addr.add_zero'] at hx128_6)
                                replace p128 := eq_true p128
                                replace q128 := eq_true q128
                                have p129 : 0 ≤ (0 : Int) := (by omega)
                                have q129 : 0 < (x1_1.length : Int) := of_decide_eq_true (by first | (with_reducible assumption) | assumption)
                                obtain ⟨ad129, e129, hx129_0, hx129_1, hx129_2, hx129_3, hx129_4, hx129_5, hx129_6⟩ := at_T35 (Kd.V_reads' HO_1.out).2.2 0 p129 q129
                                cases e129
                                have qi129 : (0 < x1_1.length) = True := eq_true (by omega)
                                (try rw [show ((0 : Int)).toNat = 0 from rfl] at hx129_0)
                                (try rw [show 0 * 7 = 0 from rfl] at hx129_0)
                                (try rw [Addr.add_zero'] at hx129_0)
                                (try rw [show ((0 : Int)).toNat = 0 from rfl] at hx129_1)
                                (try rw [show 0 * 7 = 0 from rfl] at hx129_1)
                                (try rw [Addr.add_zero'] at hx129_1)
                                (try rw [show ((0 : Int)).toNat = 0 from rfl] at hx129_2)
                                (try rw [show 0 * 7 = 0 from rfl] at hx129_2)
                                (try rw [Addr.add_zero'] at hx129_2)
                                (try rw [show ((0 : Int)).toNat = 0 from rfl] at hx129_3)
                                (try rw [show 0 * 7 = 0 from rfl] at hx129_3)
                                (try rw [Addr.add_zero'] at hx129_3)
                                (try rw [show ((0 : Int)).toNat = 0 from rfl] at hx129_4)
                                (try rw [show 0 * 7 = 0 from rfl] at hx129_4)
                                (try rw [Addr.add_zero'] at hx129_4)
                                (try rw [show ((0 : Int)).toNat = 0 from rfl] at hx129_5)
                                (try rw [show 0 * 7 = 0 from rfl] at hx129_5)
                                (try rw [Addr.add_zero'] at hx129_5)
                                (try rw [show ((0 : Int)).toNat = 0 from rfl] at hx129_6)
                                (try rw [show 0 * 7 = 0 from rfl] at hx129_6)
                                (try rw [Addr.add_zero'] at hx129_6)
                                replace p129 := eq_true p129
                                replace q129 := eq_true q129
                                have p130 : 0 ≤ (0 : Int) := (by omega)
                                have q130 : 0 < (x1_1.length : Int) := of_decide_eq_true (by first | (with_reducible assumption) | assumption)
                                obtain ⟨ad130, e130, hx130_0, hx130_1, hx130_2, hx130_3, hx130_4, hx130_5, hx130_6⟩ := at_T35 (Kd.V_reads' HO_1.out).2.2 0 p130 q130
                                obtain rfl : ad129 = ad130 := (by injection e130)
                                have qi130 : (0 < x1_1.length) = True := eq_true (by omega)
                                (try rw [show ((0 : Int)).toNat = 0 from rfl] at hx130_0)
                                (try rw [show 0 * 7 = 0 from rfl] at hx130_0)
                                (try rw [Addr.add_zero'] at hx130_0)
                                (try rw [show ((0 : Int)).toNat = 0 from rfl] at hx130_1)
                                (try rw [show 0 * 7 = 0 from rfl] at hx130_1)
                                (try rw [Addr.add_zero'] at hx130_1)
                                (try rw [show ((0 : Int)).toNat = 0 from rfl] at hx130_2)
                                (try rw [show 0 * 7 = 0 from rfl] at hx130_2)
                                (try rw [Addr.add_zero'] at hx130_2)
                                (try rw [show ((0 : Int)).toNat = 0 from rfl] at hx130_3)
                                (try rw [show 0 * 7 = 0 from rfl] at hx130_3)
                                (try rw [Addr.add_zero'] at hx130_3)
                                (try rw [show ((0 : Int)).toNat = 0 from rfl] at hx130_4)
                                (try rw [show 0 * 7 = 0 from rfl] at hx130_4)
                                (try rw [Addr.add_zero'] at hx130_4)
                                (try rw [show ((0 : Int)).toNat = 0 from rfl] at hx130_5)
                                (try rw [show 0 * 7 = 0 from rfl] at hx130_5)
                                (try rw [Addr.add_zero'] at hx130_5)
                                (try rw [show ((0 : Int)).toNat = 0 from rfl] at hx130_6)
                                (try rw [show 0 * 7 = 0 from rfl] at hx130_6)
                                (try rw [Addr.add_zero'] at hx130_6)
                                replace p130 := eq_true p130
                                replace q130 := eq_true q130
                                go_wp2_with (first | ((with_reducible refine gate_builtin (b := .append) (xs := #[.tmp 19, .tmp 24]) rfl ?_); (try (refine gate_guard (by rfl) ?_; dsimp only)); at_builtin; refine Kd.R_append k37 (w0 := w) w.heap.size rfl (.tmp 19) (.tmp 24) 26 37 (.agg #[(.int .i64 0), (.int .i64 0), (.int .i64 0), (.int .i64 0), (.int .i64 0), (.int .u32 0), (.int .u32 0), (.int .i64 0)]) 56 rfl Try.underlying26 info37 rfl (by decide) (by omega) u5 x5_1 (⟨2, (⟨(rd_T35 x1_1 0).f0, (rd_T35 x1_1 0).f1, (rd_T35 x1_1 0).f2, (rd_T35 x1_1 0).f3, (⟨(rd_T35 x1_1 0).f4.f0, (rd_T35 x1_1 0).f4.f1⟩ : S33), (rd_T35 x1_1 0).f5⟩ : S35)⟩ : S37) [.int .i64 2, .int .i64 ((rd_T35 x1_1 0).f0), .int .i64 ((rd_T35 x1_1 0).f1), .int .i64 ((rd_T35 x1_1 0).f2), .int .i64 ((rd_T35 x1_1 0).f3), .int .u32 ((rd_T35 x1_1 0).f4.f0), .int .u32 ((rd_T35 x1_1 0).f4.f1), .int .i64 ((rd_T35 x1_1 0).f5)] (fun k_ => (w.heap.size ≤ k_)) (fun _ => False) rfl rfl ?aP (fun _ hk => hk.elim) ?aF ?aO ?aB ?aS ?aL ?_; (case aP => exact k37_mkM _ _ _ (⟨2, (⟨(rd_T35 x1_1 0).f0, (rd_T35 x1_1 0).f1, (rd_T35 x1_1 0).f2, (rd_T35 x1_1 0).f3, (⟨(rd_T35 x1_1 0).f4.f0, (rd_T35 x1_1 0).f4.f1⟩ : S33), (rd_T35 x1_1 0).f5⟩ : S35)⟩ : S37)); (case aB => exact (by repeat (first | (with_reducible first | exact HB.out | apply below_alloc | apply pw_below_drewN | apply below_drew1) | exact HB.out))); (case aF => exact (fun k_ hk => (Nat.le_trans (below_size (by repeat (first | (with_reducible first | exact HB.out | apply below_alloc | apply pw_below_drewN | apply below_drew1) | exact HB.out))) hk))); (case aO => exact (by (with_reducible repeat (first | apply Kd.R_alloc | apply Kd.R_drewN | apply Kd.R_drew)); exact HO_5.out)); (case aS => exact (below_size (by repeat (first | (with_reducible first | exact HB.out | apply below_alloc | apply pw_below_drewN | apply below_drew1) | exact HB.out)))); (case aL => have := LMc30.out; omega); intro v132 w33 ho hb hg hat; rw [← Ny131.out] at ho; have n0_ := Aside0.mk (Kd.V_afterv (ok := (fun k_ => ((P0_ k_ ∨ P1_ k_) ∨ w.heap.size ≤ k_))) (by (with_reducible repeat (first | apply Kd.V_alloc | apply Kd.V_drewN | apply Kd.V_drew)); exact HO_0.out) hg hat); have n1_ := Aside0.mk (Kd.V_afterv (ok := (fun k_ => ((P0_ k_ ∨ P1_ k_) ∨ w.heap.size ≤ k_))) (by (with_reducible repeat (first | apply Kd.V_alloc | apply Kd.V_drewN | apply Kd.V_drew)); exact HO_1.out) hg hat); have n2_ := Aside0.mk (hb); have n3_ := Aside0.mk (ho); clear HO_0; clear HO_1; clear HB; clear HO_5; have HO_0 := n0_; have HO_1 := n1_; have HB := n2_; have HO133 := n3_; clear n0_ n1_ n2_ n3_; clear ho hb hg hat; have q34 : (1 : Int) ≤ ((x0_1.length : Int) : Int) := of_decide_eq_true (by first | (with_reducible assumption) | assumption); obtain ⟨i034, hi034, _, hsz34, _⟩ := info_parts info35; have hroom34 : x0_1.length ≤ co5 := (Kd.V_reads' HO_0.out).2.1; have hC34 : Kd.F k35 _ _ (some ad128) x0_1.length x0_1 := (Kd.V_at (base := w.heap.size) HO_0.out).2.2; have hcut34 := cut_from (P := Try.prog) 22 35 .i64 Try.underlying22 hi034 7 hsz34 (some ad128) x0_1.length co5 1 (by omega) q34; have hr34 := Kd.F_cut (m := (1 : Int).toNat) (c := co5) hC34 (by omega) hroom34; obtain ⟨A34, hA34⟩ : ∃ A1, A1 = (if co5 = (1 : Int).toNat then (some ad128) else ((some ad128) : Option Addr).map (·.add ((1 : Int).toNat * 7))) := ⟨_, rfl⟩; obtain ⟨c34, hc34⟩ : ∃ c1, c1 = co5 - (1 : Int).toNat := ⟨_, rfl⟩; have hy34 : y134.length = x0_1.length - (1 : Int).toNat := (by rw [Ny134.out, List.length_drop] <;> omega); rw [show (x0_1).drop (1 : Int).toNat = y134 from Ny134.out.symm] at hr34; replace hr34 : Kd.F k35 _ _ A34 y134.length y134 := (by rw [hA34]; exact hr34); rw [← hy34, ← hA34, ← hc34] at hcut34; have HO138 := Aside0.mk (show Kd.V k35 35 _ w.heap.size _ (.slice A34 y134.length c34) y134 from Kd.V_mk (by rw [hy34, hc34]; exact Nat.sub_le_sub_right hroom34 _) hr34); have HC138 := Aside0.mk (show y134.length ≤ c34 from by rw [hy34, hc34]; exact Nat.sub_le_sub_right hroom34 _); clear hr34 hC34 hroom34 hi034 hsz34 hc34; have KY34 := Aside0.mk hy34; have KA34 := Aside0.mk hA34; clear hy34 hA34; replace q34 := eq_true q34; have q35 : (1 : Int) ≤ ((x1_1.length : Int) : Int) := of_decide_eq_true (by first | (with_reducible assumption) | assumption); obtain ⟨i035, hi035, _, hsz35, _⟩ := info_parts info35; have hroom35 : x1_1.length ≤ co6 := (Kd.V_reads' HO_1.out).2.1; have hC35 : Kd.F k35 _ _ (some ad129) x1_1.length x1_1 := (Kd.V_at (base := w.heap.size) HO_1.out).2.2; have hcut35 := cut_from (P := Try.prog) 22 35 .i64 Try.underlying22 hi035 7 hsz35 (some ad129) x1_1.length co6 1 (by omega) q35; have hr35 := Kd.F_cut (m := (1 : Int).toNat) (c := co6) hC35 (by omega) hroom35; obtain ⟨A35, hA35⟩ : ∃ A1, A1 = (if co6 = (1 : Int).toNat then (some ad129) else ((some ad129) : Option Addr).map (·.add ((1 : Int).toNat * 7))) := ⟨_, rfl⟩; obtain ⟨c35, hc35⟩ : ∃ c1, c1 = co6 - (1 : Int).toNat := ⟨_, rfl⟩; have hy35 : y139.length = x1_1.length - (1 : Int).toNat := (by rw [Ny139.out, List.length_drop] <;> omega); rw [show (x1_1).drop (1 : Int).toNat = y139 from Ny139.out.symm] at hr35; replace hr35 : Kd.F k35 _ _ A35 y139.length y139 := (by rw [hA35]; exact hr35); rw [← hy35, ← hA35, ← hc35] at hcut35; have HO143 := Aside0.mk (show Kd.V k35 35 _ w.heap.size _ (.slice A35 y139.length c35) y139 from Kd.V_mk (by rw [hy35, hc35]; exact Nat.sub_le_sub_right hroom35 _) hr35); have HC143 := Aside0.mk (show y139.length ≤ c35 from by rw [hy35, hc35]; exact Nat.sub_le_sub_right hroom35 _); clear hr35 hC35 hroom35 hi035 hsz35 hc35; have KY35 := Aside0.mk hy35; have KA35 := Aside0.mk hA35; clear hy35 hA35; replace q35 := eq_true q35))
                                repeat (go_quiet (first | ((with_reducible refine gate_builtin (b := .append) (xs := #[.tmp 19, .tmp 24]) rfl ?_); (try (refine gate_guard (by rfl) ?_; dsimp only)); at_builtin; refine Kd.R_append k37 (w0 := w) w.heap.size rfl (.tmp 19) (.tmp 24) 26 37 (.agg #[(.int .i64 0), (.int .i64 0), (.int .i64 0), (.int .i64 0), (.int .i64 0), (.int .u32 0), (.int .u32 0), (.int .i64 0)]) 56 rfl Try.underlying26 info37 rfl (by decide) (by omega) u5 x5_1 (⟨2, (⟨(rd_T35 x1_1 0).f0, (rd_T35 x1_1 0).f1, (rd_T35 x1_1 0).f2, (rd_T35 x1_1 0).f3, (⟨(rd_T35 x1_1 0).f4.f0, (rd_T35 x1_1 0).f4.f1⟩ : S33), (rd_T35 x1_1 0).f5⟩ : S35)⟩ : S37) [.int .i64 2, .int .i64 ((rd_T35 x1_1 0).f0), .int .i64 ((rd_T35 x1_1 0).f1), .int .i64 ((rd_T35 x1_1 0).f2), .int .i64 ((rd_T35 x1_1 0).f3), .int .u32 ((rd_T35 x1_1 0).f4.f0), .int .u32 ((rd_T35 x1_1 0).f4.f1), .int .i64 ((rd_T35 x1_1 0).f5)] (fun k_ => (w.heap.size ≤ k_)) (fun _ => False) rfl rfl ?aP (fun _ hk => hk.elim) ?aF ?aO ?aB ?aS ?aL ?_; (case aP => exact k37_mkM _ _ _ (⟨2, (⟨(rd_T35 x1_1 0).f0, (rd_T35 x1_1 0).f1, (rd_T35 x1_1 0).f2, (rd_T35 x1_1 0).f3, (⟨(rd_T35 x1_1 0).f4.f0, (rd_T35 x1_1 0).f4.f1⟩ : S33), (rd_T35 x1_1 0).f5⟩ : S35)⟩ : S37)); (case aB => exact (by repeat (first | (with_reducible first | exact HB.out | apply below_alloc | apply pw_below_drewN | apply below_drew1) | exact HB.out))); (case aF => exact (fun k_ hk => (Nat.le_trans (below_size (by repeat (first | (with_reducible first | exact HB.out | apply below_alloc | apply pw_below_drewN | apply below_drew1) | exact HB.out))) hk))); (case aO => exact (by (with_reducible repeat (first | apply Kd.R_alloc | apply Kd.R_drewN | apply Kd.R_drew)); exact HO_5.out)); (case aS => exact (below_size (by repeat (first | (with_reducible first | exact HB.out | apply below_alloc | apply pw_below_drewN | apply below_drew1) | exact HB.out)))); (case aL => have := LMc30.out; omega); intro v132 w33 ho hb hg hat; rw [← Ny131.out] at ho; have n0_ := Aside0.mk (Kd.V_afterv (ok := (fun k_ => ((P0_ k_ ∨ P1_ k_) ∨ w.heap.size ≤ k_))) (by (with_reducible repeat (first | apply Kd.V_alloc | apply Kd.V_drewN | apply Kd.V_drew)); exact HO_0.out) hg hat); have n1_ := Aside0.mk (Kd.V_afterv (ok := (fun k_ => ((P0_ k_ ∨ P1_ k_) ∨ w.heap.size ≤ k_))) (by (with_reducible repeat (first | apply Kd.V_alloc | apply Kd.V_drewN | apply Kd.V_drew)); exact HO_1.out) hg hat); have n2_ := Aside0.mk (hb); have n3_ := Aside0.mk (ho); clear HO_0; clear HO_1; clear HB; clear HO_5; have HO_0 := n0_; have HO_1 := n1_; have HB := n2_; have HO133 := n3_; clear n0_ n1_ n2_ n3_; clear ho hb hg hat; have q34 : (1 : Int) ≤ ((x0_1.length : Int) : Int) := of_decide_eq_true (by first | (with_reducible assumption) | assumption); obtain ⟨i034, hi034, _, hsz34, _⟩ := info_parts info35; have hroom34 : x0_1.length ≤ co5 := (Kd.V_reads' HO_0.out).2.1; have hC34 : Kd.F k35 _ _ (some ad128) x0_1.length x0_1 := (Kd.V_at (base := w.heap.size) HO_0.out).2.2; have hcut34 := cut_from (P := Try.prog) 22 35 .i64 Try.underlying22 hi034 7 hsz34 (some ad128) x0_1.length co5 1 (by omega) q34; have hr34 := Kd.F_cut (m := (1 : Int).toNat) (c := co5) hC34 (by omega) hroom34; obtain ⟨A34, hA34⟩ : ∃ A1, A1 = (if co5 = (1 : Int).toNat then (some ad128) else ((some ad128) : Option Addr).map (·.add ((1 : Int).toNat * 7))) := ⟨_, rfl⟩; obtain ⟨c34, hc34⟩ : ∃ c1, c1 = co5 - (1 : Int).toNat := ⟨_, rfl⟩; have hy34 : y134.length = x0_1.length - (1 : Int).toNat := (by rw [Ny134.out, List.length_drop] <;> omega); rw [show (x0_1).drop (1 : Int).toNat = y134 from Ny134.out.symm] at hr34; replace hr34 : Kd.F k35 _ _ A34 y134.length y134 := (by rw [hA34]; exact hr34); rw [← hy34, ← hA34, ← hc34] at hcut34; have HO138 := Aside0.mk (show Kd.V k35 35 _ w.heap.size _ (.slice A34 y134.length c34) y134 from Kd.V_mk (by rw [hy34, hc34]; exact Nat.sub_le_sub_right hroom34 _) hr34); have HC138 := Aside0.mk (show y134.length ≤ c34 from by rw [hy34, hc34]; exact Nat.sub_le_sub_right hroom34 _); clear hr34 hC34 hroom34 hi034 hsz34 hc34; have KY34 := Aside0.mk hy34; have KA34 := Aside0.mk hA34; clear hy34 hA34; replace q34 := eq_true q34; have q35 : (1 : Int) ≤ ((x1_1.length : Int) : Int) := of_decide_eq_true (by first | (with_reducible assumption) | assumption); obtain ⟨i035, hi035, _, hsz35, _⟩ := info_parts info35; have hroom35 : x1_1.length ≤ co6 := (Kd.V_reads' HO_1.out).2.1; have hC35 : Kd.F k35 _ _ (some ad129) x1_1.length x1_1 := (Kd.V_at (base := w.heap.size) HO_1.out).2.2; have hcut35 := cut_from (P := Try.prog) 22 35 .i64 Try.underlying22 hi035 7 hsz35 (some ad129) x1_1.length co6 1 (by omega) q35; have hr35 := Kd.F_cut (m := (1 : Int).toNat) (c := co6) hC35 (by omega) hroom35; obtain ⟨A35, hA35⟩ : ∃ A1, A1 = (if co6 = (1 : Int).toNat then (some ad129) else ((some ad129) : Option Addr).map (·.add ((1 : Int).toNat * 7))) := ⟨_, rfl⟩; obtain ⟨c35, hc35⟩ : ∃ c1, c1 = co6 - (1 : Int).toNat := ⟨_, rfl⟩; have hy35 : y139.length = x1_1.length - (1 : Int).toNat := (by rw [Ny139.out, List.length_drop] <;> omega); rw [show (x1_1).drop (1 : Int).toNat = y139 from Ny139.out.symm] at hr35; replace hr35 : Kd.F k35 _ _ A35 y139.length y139 := (by rw [hA35]; exact hr35); rw [← hy35, ← hA35, ← hc35] at hcut35; have HO143 := Aside0.mk (show Kd.V k35 35 _ w.heap.size _ (.slice A35 y139.length c35) y139 from Kd.V_mk (by rw [hy35, hc35]; exact Nat.sub_le_sub_right hroom35 _) hr35); have HC143 := Aside0.mk (show y139.length ≤ c35 from by rw [hy35, hc35]; exact Nat.sub_le_sub_right hroom35 _); clear hr35 hC35 hroom35 hi035 hsz35 hc35; have KY35 := Aside0.mk hy35; have KA35 := Aside0.mk hA35; clear hy35 hA35; replace q35 := eq_true q35)); try go_wp2_with (first | ((with_reducible refine gate_builtin (b := .append) (xs := #[.tmp 19, .tmp 24]) rfl ?_); (try (refine gate_guard (by rfl) ?_; dsimp only)); at_builtin; refine Kd.R_append k37 (w0 := w) w.heap.size rfl (.tmp 19) (.tmp 24) 26 37 (.agg #[(.int .i64 0), (.int .i64 0), (.int .i64 0), (.int .i64 0), (.int .i64 0), (.int .u32 0), (.int .u32 0), (.int .i64 0)]) 56 rfl Try.underlying26 info37 rfl (by decide) (by omega) u5 x5_1 (⟨2, (⟨(rd_T35 x1_1 0).f0, (rd_T35 x1_1 0).f1, (rd_T35 x1_1 0).f2, (rd_T35 x1_1 0).f3, (⟨(rd_T35 x1_1 0).f4.f0, (rd_T35 x1_1 0).f4.f1⟩ : S33), (rd_T35 x1_1 0).f5⟩ : S35)⟩ : S37) [.int .i64 2, .int .i64 ((rd_T35 x1_1 0).f0), .int .i64 ((rd_T35 x1_1 0).f1), .int .i64 ((rd_T35 x1_1 0).f2), .int .i64 ((rd_T35 x1_1 0).f3), .int .u32 ((rd_T35 x1_1 0).f4.f0), .int .u32 ((rd_T35 x1_1 0).f4.f1), .int .i64 ((rd_T35 x1_1 0).f5)] (fun k_ => (w.heap.size ≤ k_)) (fun _ => False) rfl rfl ?aP (fun _ hk => hk.elim) ?aF ?aO ?aB ?aS ?aL ?_; (case aP => exact k37_mkM _ _ _ (⟨2, (⟨(rd_T35 x1_1 0).f0, (rd_T35 x1_1 0).f1, (rd_T35 x1_1 0).f2, (rd_T35 x1_1 0).f3, (⟨(rd_T35 x1_1 0).f4.f0, (rd_T35 x1_1 0).f4.f1⟩ : S33), (rd_T35 x1_1 0).f5⟩ : S35)⟩ : S37)); (case aB => exact (by repeat (first | (with_reducible first | exact HB.out | apply below_alloc | apply pw_below_drewN | apply below_drew1) | exact HB.out))); (case aF => exact (fun k_ hk => (Nat.le_trans (below_size (by repeat (first | (with_reducible first | exact HB.out | apply below_alloc | apply pw_below_drewN | apply below_drew1) | exact HB.out))) hk))); (case aO => exact (by (with_reducible repeat (first | apply Kd.R_alloc | apply Kd.R_drewN | apply Kd.R_drew)); exact HO_5.out)); (case aS => exact (below_size (by repeat (first | (with_reducible first | exact HB.out | apply below_alloc | apply pw_below_drewN | apply below_drew1) | exact HB.out)))); (case aL => have := LMc30.out; omega); intro v132 w33 ho hb hg hat; rw [← Ny131.out] at ho; have n0_ := Aside0.mk (Kd.V_afterv (ok := (fun k_ => ((P0_ k_ ∨ P1_ k_) ∨ w.heap.size ≤ k_))) (by (with_reducible repeat (first | apply Kd.V_alloc | apply Kd.V_drewN | apply Kd.V_drew)); exact HO_0.out) hg hat); have n1_ := Aside0.mk (Kd.V_afterv (ok := (fun k_ => ((P0_ k_ ∨ P1_ k_) ∨ w.heap.size ≤ k_))) (by (with_reducible repeat (first | apply Kd.V_alloc | apply Kd.V_drewN | apply Kd.V_drew)); exact HO_1.out) hg hat); have n2_ := Aside0.mk (hb); have n3_ := Aside0.mk (ho); clear HO_0; clear HO_1; clear HB; clear HO_5; have HO_0 := n0_; have HO_1 := n1_; have HB := n2_; have HO133 := n3_; clear n0_ n1_ n2_ n3_; clear ho hb hg hat; have q34 : (1 : Int) ≤ ((x0_1.length : Int) : Int) := of_decide_eq_true (by first | (with_reducible assumption) | assumption); obtain ⟨i034, hi034, _, hsz34, _⟩ := info_parts info35; have hroom34 : x0_1.length ≤ co5 := (Kd.V_reads' HO_0.out).2.1; have hC34 : Kd.F k35 _ _ (some ad128) x0_1.length x0_1 := (Kd.V_at (base := w.heap.size) HO_0.out).2.2; have hcut34 := cut_from (P := Try.prog) 22 35 .i64 Try.underlying22 hi034 7 hsz34 (some ad128) x0_1.length co5 1 (by omega) q34; have hr34 := Kd.F_cut (m := (1 : Int).toNat) (c := co5) hC34 (by omega) hroom34; obtain ⟨A34, hA34⟩ : ∃ A1, A1 = (if co5 = (1 : Int).toNat then (some ad128) else ((some ad128) : Option Addr).map (·.add ((1 : Int).toNat * 7))) := ⟨_, rfl⟩; obtain ⟨c34, hc34⟩ : ∃ c1, c1 = co5 - (1 : Int).toNat := ⟨_, rfl⟩; have hy34 : y134.length = x0_1.length - (1 : Int).toNat := (by rw [Ny134.out, List.length_drop] <;> omega); rw [show (x0_1).drop (1 : Int).toNat = y134 from Ny134.out.symm] at hr34; replace hr34 : Kd.F k35 _ _ A34 y134.length y134 := (by rw [hA34]; exact hr34); rw [← hy34, ← hA34, ← hc34] at hcut34; have HO138 := Aside0.mk (show Kd.V k35 35 _ w.heap.size _ (.slice A34 y134.length c34) y134 from Kd.V_mk (by rw [hy34, hc34]; exact Nat.sub_le_sub_right hroom34 _) hr34); have HC138 := Aside0.mk (show y134.length ≤ c34 from by rw [hy34, hc34]; exact Nat.sub_le_sub_right hroom34 _); clear hr34 hC34 hroom34 hi034 hsz34 hc34; have KY34 := Aside0.mk hy34; have KA34 := Aside0.mk hA34; clear hy34 hA34; replace q34 := eq_true q34; have q35 : (1 : Int) ≤ ((x1_1.length : Int) : Int) := of_decide_eq_true (by first | (with_reducible assumption) | assumption); obtain ⟨i035, hi035, _, hsz35, _⟩ := info_parts info35; have hroom35 : x1_1.length ≤ co6 := (Kd.V_reads' HO_1.out).2.1; have hC35 : Kd.F k35 _ _ (some ad129) x1_1.length x1_1 := (Kd.V_at (base := w.heap.size) HO_1.out).2.2; have hcut35 := cut_from (P := Try.prog) 22 35 .i64 Try.underlying22 hi035 7 hsz35 (some ad129) x1_1.length co6 1 (by omega) q35; have hr35 := Kd.F_cut (m := (1 : Int).toNat) (c := co6) hC35 (by omega) hroom35; obtain ⟨A35, hA35⟩ : ∃ A1, A1 = (if co6 = (1 : Int).toNat then (some ad129) else ((some ad129) : Option Addr).map (·.add ((1 : Int).toNat * 7))) := ⟨_, rfl⟩; obtain ⟨c35, hc35⟩ : ∃ c1, c1 = co6 - (1 : Int).toNat := ⟨_, rfl⟩; have hy35 : y139.length = x1_1.length - (1 : Int).toNat := (by rw [Ny139.out, List.length_drop] <;> omega); rw [show (x1_1).drop (1 : Int).toNat = y139 from Ny139.out.symm] at hr35; replace hr35 : Kd.F k35 _ _ A35 y139.length y139 := (by rw [hA35]; exact hr35); rw [← hy35, ← hA35, ← hc35] at hcut35; have HO143 := Aside0.mk (show Kd.V k35 35 _ w.heap.size _ (.slice A35 y139.length c35) y139 from Kd.V_mk (by rw [hy35, hc35]; exact Nat.sub_le_sub_right hroom35 _) hr35); have HC143 := Aside0.mk (show y139.length ≤ c35 from by rw [hy35, hc35]; exact Nat.sub_le_sub_right hroom35 _); clear hr35 hC35 hroom35 hi035 hsz35 hc35; have KY35 := Aside0.mk hy35; have KA35 := Aside0.mk hA35; clear hy35 hA35; replace q35 := eq_true q35)))
                                go_roundg kj16
                                case measure => have := HK1.out; have := HJ3.out; have := HJ16.out; omega
                                case rel => exact ⟨(y134), (y139), (y131), H', ⟨by have := HK1.out; have := HJ3.out; have := HJ16.out; omega⟩, ⟨by (with_reducible repeat (first | apply Kd.V_alloc | apply Kd.V_drewN | apply Kd.V_drew)); exact HO138.out⟩, ⟨by (with_reducible repeat (first | apply Kd.V_alloc | apply Kd.V_drewN | apply Kd.V_drew)); exact HO143.out⟩, ⟨by (with_reducible repeat (first | apply Kd.R_alloc | apply Kd.R_drewN | apply Kd.R_drew)); exact HO133.out⟩, ⟨by repeat (first | (with_reducible first | exact HB.out | apply below_alloc | apply pw_below_drewN | apply below_drew1) | exact HB.out)⟩⟩
                              · rw [if_neg c32] at H
                                exact absurd H (by simp)
                            · rw [if_neg c31] at H
                              exact absurd H (by simp)
                          · rw [if_neg c30] at H
                            exact absurd H (by simp)
                        · rw [if_neg c29] at H
                          have c29b0 : (!(((rd_T35 x0_1 0).f0) == ((rd_T35 x1_1 0).f0)) || (!(((rd_T35 x0_1 0).f1) == ((rd_T35 x1_1 0).f1)) || (!(((rd_T35 x0_1 0).f2) == ((rd_T35 x1_1 0).f2)) || (!(((rd_T35 x0_1 0).f3) == ((rd_T35 x1_1 0).f3)) || ((!(((rd_T35 x0_1 0).f4.f0) == ((rd_T35 x1_1 0).f4.f0)) || (!(((rd_T35 x0_1 0).f4.f1) == ((rd_T35 x1_1 0).f4.f1)))) || (!(((rd_T35 x0_1 0).f5) == ((rd_T35 x1_1 0).f5)))))))) = false := by simpa using c29
                          clear c29
                          by_cases c36 : 1 ≤ (x0_1.length : Int)
                          · rw [if_pos c36] at H
                            have c36b0 := eq_true c36
                            have c36b1 : decide (1 ≤ (x0_1.length : Int)) = true := decide_eq_true c36
                            clear c36
                            obtain ⟨y144, hy144⟩ : ∃ y_ : List (S35), y_ = (x0_1.drop 1) := ⟨_, rfl⟩
                            replace H : (if 1 ≤ (x1_1.length : Int) then (edit_Diff.l0 kj16 y144 (x1_1.drop 1) x5_1) else (none)) = some r := by first | (rw [hy144]; with_reducible exact H) | (have H2_ := (Option.bind_some _ _).symm.trans H; rw [hy144]; with_reducible exact H2_) | (have H2_ := (Option.bind_some _ _).symm.trans H; with_reducible exact H2_) | with_reducible exact H | (rw [hy144]; exact H) | exact H
                            have Ny144 := Aside0.mk hy144
                            clear hy144
                            by_cases c37 : 1 ≤ (x1_1.length : Int)
                            · rw [if_pos c37] at H
                              have c37b0 := eq_true c37
                              have c37b1 : decide (1 ≤ (x1_1.length : Int)) = true := decide_eq_true c37
                              clear c37
                              obtain ⟨y149, hy149⟩ : ∃ y_ : List (S35), y_ = (x1_1.drop 1) := ⟨_, rfl⟩
                              replace H : (edit_Diff.l0 kj16 y144 y149 x5_1) = some r := by first | (rw [hy149]; with_reducible exact H) | (have H2_ := (Option.bind_some _ _).symm.trans H; rw [hy149]; with_reducible exact H2_) | (have H2_ := (Option.bind_some _ _).symm.trans H; with_reducible exact H2_) | with_reducible exact H | (rw [hy149]; exact H) | exact H
                              have Ny149 := Aside0.mk hy149
                              clear hy149
                              have H' := Aside0.mk H
                              clear H
                              have p128 : 0 ≤ (0 : Int) := (by omega)
                              have q128 : 0 < (x0_1.length : Int) := of_decide_eq_true (by first | (with_reducible assumption) | assumption)
                              obtain ⟨ad128, e128, hx128_0, hx128_1, hx128_2, hx128_3, hx128_4, hx128_5, hx128_6⟩ := at_T35 (Kd.V_reads' HO_0.out).2.2 0 p128 q128
                              cases e128
                              have qi128 : (0 < x0_1.length) = True := eq_true (by omega)
                              (try rw [show ((0 : Int)).toNat = 0 from rfl] at hx128_0)
                              (try rw [show 0 * 7 = 0 from rfl] at hx128_0)
                              (try rw [Addr.add_zero'] at hx128_0)
                              (try rw [show ((0 : Int)).toNat = 0 from rfl] at hx128_1)
                              (try rw [show 0 * 7 = 0 from rfl] at hx128_1)
                              (try rw [Addr.add_zero'] at hx128_1)
                              (try rw [show ((0 : Int)).toNat = 0 from rfl] at hx128_2)
                              (try rw [show 0 * 7 = 0 from rfl] at hx128_2)
                              (try rw [Addr.add_zero'] at hx128_2)
                              (try rw [show ((0 : Int)).toNat = 0 from rfl] at hx128_3)
                              (try rw [show 0 * 7 = 0 from rfl] at hx128_3)
                              (try rw [Addr.add_zero'] at hx128_3)
                              (try rw [show ((0 : Int)).toNat = 0 from rfl] at hx128_4)
                              (try rw [show 0 * 7 = 0 from rfl] at hx128_4)
                              (try rw [Addr.add_zero'] at hx128_4)
                              (try rw [show ((0 : Int)).toNat = 0 from rfl] at hx128_5)
                              (try rw [show 0 * 7 = 0 from rfl] at hx128_5)
                              (try rw [Addr.add_zero'] at hx128_5)
                              (try rw [show ((0 : Int)).toNat = 0 from rfl] at hx128_6)
                              (try rw [show 0 * 7 = 0 from rfl] at hx128_6)
                              (try rw [Addr.add_zero'] at hx128_6)
                              replace p128 := eq_true p128
                              replace q128 := eq_true q128
                              have p129 : 0 ≤ (0 : Int) := (by omega)
                              have q129 : 0 < (x1_1.length : Int) := of_decide_eq_true (by first | (with_reducible assumption) | assumption)
                              obtain ⟨ad129, e129, hx129_0, hx129_1, hx129_2, hx129_3, hx129_4, hx129_5, hx129_6⟩ := at_T35 (Kd.V_reads' HO_1.out).2.2 0 p129 q129
                              cases e129
                              have qi129 : (0 < x1_1.length) = True := eq_true (by omega)
                              (try rw [show ((0 : Int)).toNat = 0 from rfl] at hx129_0)
                              (try rw [show 0 * 7 = 0 from rfl] at hx129_0)
                              (try rw [Addr.add_zero'] at hx129_0)
                              (try rw [show ((0 : Int)).toNat = 0 from rfl] at hx129_1)
                              (try rw [show 0 * 7 = 0 from rfl] at hx129_1)
                              (try rw [Addr.add_zero'] at hx129_1)
                              (try rw [show ((0 : Int)).toNat = 0 from rfl] at hx129_2)
                              (try rw [show 0 * 7 = 0 from rfl] at hx129_2)
                              (try rw [Addr.add_zero'] at hx129_2)
                              (try rw [show ((0 : Int)).toNat = 0 from rfl] at hx129_3)
                              (try rw [show 0 * 7 = 0 from rfl] at hx129_3)
                              (try rw [Addr.add_zero'] at hx129_3)
                              (try rw [show ((0 : Int)).toNat = 0 from rfl] at hx129_4)
                              (try rw [show 0 * 7 = 0 from rfl] at hx129_4)
                              (try rw [Addr.add_zero'] at hx129_4)
                              (try rw [show ((0 : Int)).toNat = 0 from rfl] at hx129_5)
                              (try rw [show 0 * 7 = 0 from rfl] at hx129_5)
                              (try rw [Addr.add_zero'] at hx129_5)
                              (try rw [show ((0 : Int)).toNat = 0 from rfl] at hx129_6)
                              (try rw [show 0 * 7 = 0 from rfl] at hx129_6)
                              (try rw [Addr.add_zero'] at hx129_6)
                              replace p129 := eq_true p129
                              replace q129 := eq_true q129
                              have q38 : (1 : Int) ≤ ((x0_1.length : Int) : Int) := of_decide_eq_true (by first | (with_reducible assumption) | assumption)
                              obtain ⟨i038, hi038, _, hsz38, _⟩ := info_parts info35
                              have hroom38 : x0_1.length ≤ co5 := (Kd.V_reads' HO_0.out).2.1
                              have hC38 : Kd.F k35 _ _ (some ad128) x0_1.length x0_1 := (Kd.V_at (base := w.heap.size) HO_0.out).2.2
                              have hcut38 := cut_from (P := Try.prog) 22 35 .i64 Try.underlying22 hi038 7 hsz38 (some ad128) x0_1.length co5 1 (by omega) q38
                              have hr38 := Kd.F_cut (m := (1 : Int).toNat) (c := co5) hC38 (by omega) hroom38
                              obtain ⟨A38, hA38⟩ : ∃ A1, A1 = (if co5 = (1 : Int).toNat then (some ad128) else ((some ad128) : Option Addr).map (·.add ((1 : Int).toNat * 7))) := ⟨_, rfl⟩
                              obtain ⟨c38, hc38⟩ : ∃ c1, c1 = co5 - (1 : Int).toNat := ⟨_, rfl⟩
                              have hy38 : y144.length = x0_1.length - (1 : Int).toNat := (by rw [Ny144.out, List.length_drop] <;> omega)
                              rw [show (x0_1).drop (1 : Int).toNat = y144 from Ny144.out.symm] at hr38
                              replace hr38 : Kd.F k35 _ _ A38 y144.length y144 := (by rw [hA38]; exact hr38)
                              rw [← hy38, ← hA38, ← hc38] at hcut38
                              have HO148 := Aside0.mk (show Kd.V k35 35 _ w.heap.size _ (.slice A38 y144.length c38) y144 from Kd.V_mk (by rw [hy38, hc38]; exact Nat.sub_le_sub_right hroom38 _) hr38)
                              have HC148 := Aside0.mk (show y144.length ≤ c38 from by rw [hy38, hc38]; exact Nat.sub_le_sub_right hroom38 _)
                              clear hr38 hC38 hroom38 hi038 hsz38 hc38
                              have KY38 := Aside0.mk hy38
                              have KA38 := Aside0.mk hA38
                              clear hy38 hA38
                              replace q38 := eq_true q38
                              have q39 : (1 : Int) ≤ ((x1_1.length : Int) : Int) := of_decide_eq_true (by first | (with_reducible assumption) | assumption)
                              obtain ⟨i039, hi039, _, hsz39, _⟩ := info_parts info35
                              have hroom39 : x1_1.length ≤ co6 := (Kd.V_reads' HO_1.out).2.1
                              have hC39 : Kd.F k35 _ _ (some ad129) x1_1.length x1_1 := (Kd.V_at (base := w.heap.size) HO_1.out).2.2
                              have hcut39 := cut_from (P := Try.prog) 22 35 .i64 Try.underlying22 hi039 7 hsz39 (some ad129) x1_1.length co6 1 (by omega) q39
                              have hr39 := Kd.F_cut (m := (1 : Int).toNat) (c := co6) hC39 (by omega) hroom39
                              obtain ⟨A39, hA39⟩ : ∃ A1, A1 = (if co6 = (1 : Int).toNat then (some ad129) else ((some ad129) : Option Addr).map (·.add ((1 : Int).toNat * 7))) := ⟨_, rfl⟩
                              obtain ⟨c39, hc39⟩ : ∃ c1, c1 = co6 - (1 : Int).toNat := ⟨_, rfl⟩
                              have hy39 : y149.length = x1_1.length - (1 : Int).toNat := (by rw [Ny149.out, List.length_drop] <;> omega)
                              rw [show (x1_1).drop (1 : Int).toNat = y149 from Ny149.out.symm] at hr39
                              replace hr39 : Kd.F k35 _ _ A39 y149.length y149 := (by rw [hA39]; exact hr39)
                              rw [← hy39, ← hA39, ← hc39] at hcut39
                              have HO153 := Aside0.mk (show Kd.V k35 35 _ w.heap.size _ (.slice A39 y149.length c39) y149 from Kd.V_mk (by rw [hy39, hc39]; exact Nat.sub_le_sub_right hroom39 _) hr39)
                              have HC153 := Aside0.mk (show y149.length ≤ c39 from by rw [hy39, hc39]; exact Nat.sub_le_sub_right hroom39 _)
                              clear hr39 hC39 hroom39 hi039 hsz39 hc39
                              have KY39 := Aside0.mk hy39
                              have KA39 := Aside0.mk hA39
                              clear hy39 hA39
                              replace q39 := eq_true q39
                              go_wp2
                              repeat (go_quiet (fail); try go_wp2)
                              go_roundg kj16
                              case measure => have := HK1.out; have := HJ3.out; have := HJ16.out; omega
                              case rel => exact ⟨(y144), (y149), (x5_1), H', ⟨by have := HK1.out; have := HJ3.out; have := HJ16.out; omega⟩, ⟨by (with_reducible repeat (first | apply Kd.V_alloc | apply Kd.V_drewN | apply Kd.V_drew)); exact HO148.out⟩, ⟨by (with_reducible repeat (first | apply Kd.V_alloc | apply Kd.V_drewN | apply Kd.V_drew)); exact HO153.out⟩, ⟨by (with_reducible repeat (first | apply Kd.R_alloc | apply Kd.R_drewN | apply Kd.R_drew)); exact HO_5.out⟩, ⟨by repeat (first | (with_reducible first | exact HB.out | apply below_alloc | apply pw_below_drewN | apply below_drew1) | exact HB.out)⟩⟩
                            · rw [if_neg c37] at H
                              exact absurd H (by simp)
                          · rw [if_neg c36] at H
                            exact absurd H (by simp)
                      · rw [if_neg c28] at H
                        exact absurd H (by simp)
                    · rw [if_neg c27] at H
                      exact absurd H (by simp)
      · rw [if_neg c3] at H
        have c3b0 : decide (0 < (wrap64 ((x0_1.length : Int) + (x1_1.length : Int)))) = false := decide_eq_false c3
        clear c3
        obtain rfl := Option.some.inj H
        obtain ⟨Ao40, co40, eo40⟩ := Kd.V_slice HO_0.out
        subst eo40
        obtain ⟨Ao41, co41, eo41⟩ := Kd.V_slice HO_1.out
        subst eo41
        go_wp2
        repeat (go_quiet (fail); try go_wp2)
        go_ret
        exact ⟨_, by first | rfl | (simp [errW_none, errW_some] <;> rfl) | (simp [*, errW_none, errW_some] <;> rfl), by (with_reducible repeat (first | apply Kd.R_alloc | apply Kd.R_drewN | apply Kd.R_drew)); exact HO_5.out, by repeat (first | (with_reducible first | exact HB.out | apply below_alloc | apply pw_below_drewN | apply below_drew1) | exact HB.out)⟩
end Go.Proofs.Ytckjhdlpbfcaiaa.E
