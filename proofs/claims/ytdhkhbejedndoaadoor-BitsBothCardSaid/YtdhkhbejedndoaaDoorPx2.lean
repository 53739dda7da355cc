-- By myprint.py (a session's own program over the kit's print.py; some functions' texts are by hand). Lean checks it.
import Derived.Test.YtdhkhbejedndoaaDoorPx0
namespace Go.Proofs.YtdhkhbejedndoaaDoor.P
open Go.RowKit Go.Proofs.YtdhkhbejedndoaaDoorW.PrintWords Go.Proofs.YtdhkhbejedndoaaDoorW.PrintLast Go.Proofs.YtdhkhbejedndoaaDoorW.PrintMore
attribute [local go_sem] max2_int min2_int max_two min_two max_three min_three max_four min_four   -- for this text's walks alone
set_option linter.unusedVariables false
set_option linter.unusedSimpArgs false

/-! ### waystoneref06_Both: function 23 -/
def waystoneref06_Both.l0 : Nat → List Bool → List Bool → Int → List Bool → Int → Option (List Bool)
  | 0, _, _, _, _, _ => none
  | k + 1, x0, x1, x2, x7, x8 => if x8 < (x0.length : Int) then (if x2 = 1 then (if 0 ≤ x8 then (if rdOf false x0 x8 = true then (if x8 < (x1.length : Int) then (if rdOf false x1 x8 = true then (if x7.length < 140737488355328 then (waystoneref06_Both.l0 k x0 x1 x2 (x7 ++ [true]) (wrap64 (x8 + 1))) else (none)) else (if x2 = 2 then (if x7.length < 140737488355328 then (waystoneref06_Both.l0 k x0 x1 x2 (x7 ++ [true]) (wrap64 (x8 + 1))) else (none)) else (if x2 = 3 then (if x7.length < 140737488355328 then (waystoneref06_Both.l0 k x0 x1 x2 (x7 ++ [!(rdOf false x1 x8)]) (wrap64 (x8 + 1))) else (none)) else (if x7.length < 140737488355328 then (waystoneref06_Both.l0 k x0 x1 x2 (x7 ++ [false]) (wrap64 (x8 + 1))) else (none))))) else (none)) else (if x2 = 2 then (if x8 < (x1.length : Int) then (if rdOf false x1 x8 = true then (if x7.length < 140737488355328 then (waystoneref06_Both.l0 k x0 x1 x2 (x7 ++ [true]) (wrap64 (x8 + 1))) else (none)) else (if x2 = 3 then (if x7.length < 140737488355328 then (waystoneref06_Both.l0 k x0 x1 x2 (x7 ++ [false]) (wrap64 (x8 + 1))) else (none)) else (if x7.length < 140737488355328 then (waystoneref06_Both.l0 k x0 x1 x2 (x7 ++ [false]) (wrap64 (x8 + 1))) else (none)))) else (none)) else (if x2 = 3 then (if x7.length < 140737488355328 then (waystoneref06_Both.l0 k x0 x1 x2 (x7 ++ [false]) (wrap64 (x8 + 1))) else (none)) else (if x7.length < 140737488355328 then (waystoneref06_Both.l0 k x0 x1 x2 (x7 ++ [false]) (wrap64 (x8 + 1))) else (none))))) else (none)) else (if x2 = 2 then (if 0 ≤ x8 then (if rdOf false x0 x8 = true then (if x7.length < 140737488355328 then (waystoneref06_Both.l0 k x0 x1 x2 (x7 ++ [true]) (wrap64 (x8 + 1))) else (none)) else (if x8 < (x1.length : Int) then (if rdOf false x1 x8 = true then (if x7.length < 140737488355328 then (waystoneref06_Both.l0 k x0 x1 x2 (x7 ++ [true]) (wrap64 (x8 + 1))) else (none)) else (if x2 = 3 then (if x7.length < 140737488355328 then (waystoneref06_Both.l0 k x0 x1 x2 (x7 ++ [false]) (wrap64 (x8 + 1))) else (none)) else (if x7.length < 140737488355328 then (waystoneref06_Both.l0 k x0 x1 x2 (x7 ++ [false]) (wrap64 (x8 + 1))) else (none)))) else (none))) else (none)) else (if x2 = 3 then (if 0 ≤ x8 then (if rdOf false x0 x8 = true then (if x8 < (x1.length : Int) then (if x7.length < 140737488355328 then (waystoneref06_Both.l0 k x0 x1 x2 (x7 ++ [!(rdOf false x1 x8)]) (wrap64 (x8 + 1))) else (none)) else (none)) else (if x7.length < 140737488355328 then (waystoneref06_Both.l0 k x0 x1 x2 (x7 ++ [false]) (wrap64 (x8 + 1))) else (none))) else (none)) else (if x7.length < 140737488355328 then (waystoneref06_Both.l0 k x0 x1 x2 (x7 ++ [false]) (wrap64 (x8 + 1))) else (none))))) else (some x7)
def waystoneref06_Both.f (k : Nat) (l0 : List Bool) (l1 : List Bool) (a2 : Int) : Option (List Bool) := waystoneref06_Both.l0 k l0 l1 a2 ([] : List Bool) 0
theorem waystoneref06_Both.mono_l : ∀ k, (∀ y0 y1 y2 y3 y4, LeO (waystoneref06_Both.l0 k y0 y1 y2 y3 y4) (waystoneref06_Both.l0 (k + 1) y0 y1 y2 y3 y4))
  | 0 => fun _ _ _ _ _ r h => by simp [waystoneref06_Both.l0] at h
  | k + 1 => by
    have ih0 := waystoneref06_Both.mono_l k
    · intro y0 y1 y2 y3 y4
      unfold waystoneref06_Both.l0
      repeat' first
      | (with_reducible exact ih0 _ _ _ _ _)
      | (with_reducible exact LeO.refl _)
      | (with_reducible exact LeO.none _)
      | (with_reducible refine LeO.ite ?_ ?_)
      | (with_reducible refine LeO.bind ?_ (fun _ => ?_))
      | exact ih0 _ _ _ _ _
      | exact LeO.none _
      | refine LeO.ite ?_ ?_
      | refine LeO.bind ?_ (fun _ => ?_)
theorem waystoneref06_Both.mono : ∀ a0 a1 a2 k, LeO (waystoneref06_Both.f k a0 a1 a2) (waystoneref06_Both.f (k + 1) a0 a1 a2) := by
  intro a0 a1 a2 k
  have ih0 := waystoneref06_Both.mono_l k
  unfold waystoneref06_Both.f
  repeat' first
      | (with_reducible exact ih0 _ _ _ _ _)
      | (with_reducible exact LeO.refl _)
      | (with_reducible exact LeO.none _)
      | (with_reducible refine LeO.ite ?_ ?_)
      | (with_reducible refine LeO.bind ?_ (fun _ => ?_))
      | exact ih0 _ _ _ _ _
      | exact LeO.none _
      | refine LeO.ite ?_ ?_
      | refine LeO.bind ?_ (fun _ => ?_)
set_option maxHeartbeats 8000000 in
set_option maxRecDepth 100000 in
theorem waystoneref06_Both.calls (k : Nat) (A0 : Option Addr) (c0 : Nat) (l0 : List Bool) (A1 : Option Addr) (c1 : Nat) (l1 : List Bool) (a2 : Int) (r : List Bool) (w : World) (hr0 : Kd.C Kd.bool w A0 l0.length l0) (hc0 : l0.length ≤ c0) (hr1 : Kd.C Kd.bool w A1 l1.length l1) (hc1 : l1.length ≤ c1) (h : waystoneref06_Both.f k l0 l1 a2 = some r) :
    Calls Tryd.prog 23 #[.slice A0 l0.length c0, .slice A1 l1.length c1, .int .i64 a2] w fun e w' => ∃ v0_ : Value, e = .returned (v0_) ∧ Kd.R Kd.bool 4 w' w.heap.size (fun _ => True) v0_ r ∧ Below w.heap.size w w' := by
  have HR0 := Aside0.mk hr0
  have HC0 := Aside0.mk hc0
  clear hr0 hc0
  have HR1 := Aside0.mk hr1
  have HC1 := Aside0.mk hc1
  clear hr1 hc1
  have HB := Aside0.mk (Below.refl w.heap.size w)
  have H : (waystoneref06_Both.l0 k l0 l1 a2 ([] : List Bool) 0) = some r := h
  clear h
  have H' := Aside0.mk H
  clear H
  go_enter Tryd.func23, Tryd.ntmps23
  go_wp2
  go_loopg [7, 8] k (fun kq v7 v8 w' => ∃ (x7_1 : List Bool) (x8_1 : Int), v8 = .int .i64 x8_1 ∧ Aside0 (waystoneref06_Both.l0 kq l0 l1 a2 x7_1 x8_1 = some r) ∧ Aside0 (kq ≤ k) ∧ Aside0 (Kd.R Kd.bool 4 w' w.heap.size (fun _ => True) v7 x7_1) ∧ Aside0 (Below w.heap.size w w'))
  case atStart => exact ⟨(([] : List Bool)), (0), (by first | rfl | (simp; done) | (simp [*]; done)), H', ⟨Nat.le_refl _⟩, ⟨by first | exact Kd.R_nil _ _ _ _ _ | exact Kd.N_nil _ _ _ _ _ | exact Kd.V_nil _ _ _ _ _ | exact Kd.Q_nil _ _ _ _ _ | exact Kd.S_nil _ _ _ _ _⟩, ⟨by repeat (first | (with_reducible first | exact HB.out | apply below_alloc | apply pw_below_drewN | apply below_drew1) | exact HB.out)⟩⟩
  case round =>
    clear H'
    try clear c1
    try clear c2
    try clear p2
    obtain ⟨x7_1, x8_1, rfl, HA, HK1, HO_7, HB⟩ := hrel
    cases gk with
    | zero => exact absurd HA.out (by simp [waystoneref06_Both.l0])
    | succ k1 =>
      have H := HA.out
      clear HA
      simp only [waystoneref06_Both.l0] at H
      by_cases c4 : x8_1 < (l0.length : Int)
      · rw [if_pos c4] at H
        have c4b0 : decide (x8_1 < (l0.length : Int)) = true := decide_eq_true c4
        clear c4
        by_cases c5 : a2 = 1
        · rw [if_pos c5] at H
          have c5b0 : (a2 == 1) = true := beq_iff_eq.mpr c5
          have c5b1 : (a2 != 1) = false := bne_eq_false_iff_eq.mpr c5
          clear c5
          by_cases c6 : 0 ≤ x8_1
          · rw [if_pos c6] at H
            have c6b0 : decide (0 ≤ x8_1) = true := decide_eq_true c6
            clear c6
            obtain ⟨bq7, hbq7⟩ : ∃ b_ : Bool, b_ = (rdOf false l0 x8_1) := ⟨_, rfl⟩
            replace H : (if bq7 = true then (if x8_1 < (l1.length : Int) then (if rdOf false l1 x8_1 = true then (if x7_1.length < 140737488355328 then (waystoneref06_Both.l0 k1 l0 l1 a2 (x7_1 ++ [true]) (wrap64 (x8_1 + 1))) else (none)) else (if a2 = 2 then (if x7_1.length < 140737488355328 then (waystoneref06_Both.l0 k1 l0 l1 a2 (x7_1 ++ [true]) (wrap64 (x8_1 + 1))) else (none)) else (if a2 = 3 then (if x7_1.length < 140737488355328 then (waystoneref06_Both.l0 k1 l0 l1 a2 (x7_1 ++ [!(rdOf false l1 x8_1)]) (wrap64 (x8_1 + 1))) else (none)) else (if x7_1.length < 140737488355328 then (waystoneref06_Both.l0 k1 l0 l1 a2 (x7_1 ++ [false]) (wrap64 (x8_1 + 1))) else (none))))) else (none)) else (if a2 = 2 then (if x8_1 < (l1.length : Int) then (if rdOf false l1 x8_1 = true then (if x7_1.length < 140737488355328 then (waystoneref06_Both.l0 k1 l0 l1 a2 (x7_1 ++ [true]) (wrap64 (x8_1 + 1))) else (none)) else (if a2 = 3 then (if x7_1.length < 140737488355328 then (waystoneref06_Both.l0 k1 l0 l1 a2 (x7_1 ++ [false]) (wrap64 (x8_1 + 1))) else (none)) else (if x7_1.length < 140737488355328 then (waystoneref06_Both.l0 k1 l0 l1 a2 (x7_1 ++ [false]) (wrap64 (x8_1 + 1))) else (none)))) else (none)) else (if a2 = 3 then (if x7_1.length < 140737488355328 then (waystoneref06_Both.l0 k1 l0 l1 a2 (x7_1 ++ [false]) (wrap64 (x8_1 + 1))) else (none)) else (if x7_1.length < 140737488355328 then (waystoneref06_Both.l0 k1 l0 l1 a2 (x7_1 ++ [false]) (wrap64 (x8_1 + 1))) else (none))))) = some r := by rw [← hbq7] at H; exact H
            have Nbq7 := Aside0.mk hbq7
            clear hbq7
            by_cases c8 : bq7 = true
            · subst c8
              have H1 : (if x8_1 < (l1.length : Int) then (if rdOf false l1 x8_1 = true then (if x7_1.length < 140737488355328 then (waystoneref06_Both.l0 k1 l0 l1 a2 (x7_1 ++ [true]) (wrap64 (x8_1 + 1))) else (none)) else (if a2 = 2 then (if x7_1.length < 140737488355328 then (waystoneref06_Both.l0 k1 l0 l1 a2 (x7_1 ++ [true]) (wrap64 (x8_1 + 1))) else (none)) else (if a2 = 3 then (if x7_1.length < 140737488355328 then (waystoneref06_Both.l0 k1 l0 l1 a2 (x7_1 ++ [!(rdOf false l1 x8_1)]) (wrap64 (x8_1 + 1))) else (none)) else (if x7_1.length < 140737488355328 then (waystoneref06_Both.l0 k1 l0 l1 a2 (x7_1 ++ [false]) (wrap64 (x8_1 + 1))) else (none))))) else (none)) = some r := by rw [if_pos rfl] at H; exact H
              clear H
              have H := H1
              clear H1
              by_cases c9 : x8_1 < (l1.length : Int)
              · rw [if_pos c9] at H
                have c9b0 : decide (x8_1 < (l1.length : Int)) = true := decide_eq_true c9
                clear c9
                obtain ⟨bq10, hbq10⟩ : ∃ b_ : Bool, b_ = (rdOf false l1 x8_1) := ⟨_, rfl⟩
                replace H : (if bq10 = true then (if x7_1.length < 140737488355328 then (waystoneref06_Both.l0 k1 l0 l1 a2 (x7_1 ++ [true]) (wrap64 (x8_1 + 1))) else (none)) else (if a2 = 2 then (if x7_1.length < 140737488355328 then (waystoneref06_Both.l0 k1 l0 l1 a2 (x7_1 ++ [true]) (wrap64 (x8_1 + 1))) else (none)) else (if a2 = 3 then (if x7_1.length < 140737488355328 then (waystoneref06_Both.l0 k1 l0 l1 a2 (x7_1 ++ [!(bq10)]) (wrap64 (x8_1 + 1))) else (none)) else (if x7_1.length < 140737488355328 then (waystoneref06_Both.l0 k1 l0 l1 a2 (x7_1 ++ [false]) (wrap64 (x8_1 + 1))) else (none))))) = some r := by rw [← hbq10] at H; exact H
                have Nbq10 := Aside0.mk hbq10
                clear hbq10
                by_cases c11 : bq10 = true
                · subst c11
                  have H1 : (if x7_1.length < 140737488355328 then (waystoneref06_Both.l0 k1 l0 l1 a2 (x7_1 ++ [true]) (wrap64 (x8_1 + 1))) else (none)) = some r := by rw [if_pos rfl] at H; exact H
                  clear H
                  have H := H1
                  clear H1
                  by_cases c12 : x7_1.length < 140737488355328
                  · rw [if_pos c12] at H
                    have LMc12 := Aside0.mk c12
                    clear c12
                    obtain ⟨y129, hy129⟩ : ∃ y_ : List Bool, y_ = (x7_1 ++ [true]) := ⟨_, rfl⟩
                    replace H : (waystoneref06_Both.l0 k1 l0 l1 a2 y129 (wrap64 (x8_1 + 1))) = some r := by first | (rw [hy129]; with_reducible exact H) | (have H2_ := (Option.bind_some _ _).symm.trans H; rw [hy129]; with_reducible exact H2_) | (have H2_ := (Option.bind_some _ _).symm.trans H; with_reducible exact H2_) | with_reducible exact H | (rw [hy129]; exact H) | exact H
                    have Ny129 := Aside0.mk hy129
                    clear hy129
                    have H' := Aside0.mk H
                    clear H
                    have p127 : 0 ≤ (x8_1 : Int) := of_decide_eq_true (by first | (with_reducible assumption) | assumption)
                    have q127 : x8_1 < (l0.length : Int) := of_decide_eq_true (by first | (with_reducible assumption) | assumption)
                    obtain ⟨ad127, e127, hx127_0⟩ := Kd.at_bool HR0.out x8_1 p127 q127
                    (try rw [← Nbq7.out] at hx127_0)
                    (try rw [← Nbq10.out] at hx127_0)
                    cases e127
                    replace hx127_0 := (HB.out.cell (World.block_lt_of_cell? w _ hx127_0)).trans hx127_0
                    replace p127 := eq_true p127
                    replace q127 := eq_true q127
                    have p128 : 0 ≤ (x8_1 : Int) := of_decide_eq_true (by first | (with_reducible assumption) | assumption)
                    have q128 : x8_1 < (l1.length : Int) := of_decide_eq_true (by first | (with_reducible assumption) | assumption)
                    obtain ⟨ad128, e128, hx128_0⟩ := Kd.at_bool HR1.out x8_1 p128 q128
                    (try rw [← Nbq7.out] at hx128_0)
                    (try rw [← Nbq10.out] at hx128_0)
                    cases e128
                    replace hx128_0 := (HB.out.cell (World.block_lt_of_cell? w _ hx128_0)).trans hx128_0
                    replace p128 := eq_true p128
                    replace q128 := eq_true q128
                    go_wp2_with (first | ((with_reducible refine gate_builtin (b := .append) (xs := #[.tmp 15, .tmp 63]) rfl ?_); at_builtin; refine Kd.R_append Kd.bool (w0 := w) w.heap.size rfl (.tmp 15) (.tmp 63) 27 4 (.bool false) 1 rfl Tryd.underlying27 info4 rfl (by decide) (by omega) u7 x7_1 true [.bool true] (fun _ => True) (fun _ => False) rfl rfl ?aP (fun _ hk => hk.elim) ?aF ?aO ?aB ?aS ?aL ?_; (case aP => exact rfl); (case aB => exact (by repeat (first | (with_reducible first | exact HB.out | apply below_alloc | apply pw_below_drewN | apply below_drew1) | exact HB.out))); (case aF => exact (fun _ _ => trivial)); (case aO => exact (by (with_reducible repeat (first | apply Kd.R_alloc | apply Kd.R_drewN | apply Kd.R_drew)); exact HO_7.out)); (case aS => exact (below_size (by repeat (first | (with_reducible first | exact HB.out | apply below_alloc | apply pw_below_drewN | apply below_drew1) | exact HB.out)))); (case aL => have := LMc12.out; omega); intro v130 w13 ho hb hg hat; rw [← Ny129.out] at ho; have n0_ := Aside0.mk (hb); have n1_ := Aside0.mk (ho); clear HB; clear HO_7; have HB := n0_; have HO131 := n1_; clear n0_ n1_; clear ho hb hg hat))
                    go_roundg k1
                    case measure => have := HK1.out; omega
                    case rel => exact ⟨(y129), (wrap64 (x8_1 + 1)), (by first | rfl | (simp; done) | (simp [*]; done)), H', ⟨by have := HK1.out; omega⟩, ⟨by (with_reducible repeat (first | apply Kd.R_alloc | apply Kd.R_drewN | apply Kd.R_drew)); exact HO131.out⟩, ⟨by repeat (first | (with_reducible first | exact HB.out | apply below_alloc | apply pw_below_drewN | apply below_drew1) | exact HB.out)⟩⟩
                  · rw [if_neg c12] at H
                    exact absurd H (by simp)
                · replace c11 := Bool.eq_false_iff.mpr c11
                  subst c11
                  have H1 : (if a2 = 2 then (if x7_1.length < 140737488355328 then (waystoneref06_Both.l0 k1 l0 l1 a2 (x7_1 ++ [true]) (wrap64 (x8_1 + 1))) else (none)) else (if a2 = 3 then (if x7_1.length < 140737488355328 then (waystoneref06_Both.l0 k1 l0 l1 a2 (x7_1 ++ [!(false)]) (wrap64 (x8_1 + 1))) else (none)) else (if x7_1.length < 140737488355328 then (waystoneref06_Both.l0 k1 l0 l1 a2 (x7_1 ++ [false]) (wrap64 (x8_1 + 1))) else (none)))) = some r := by rw [if_neg (show ¬ (false = true) by decide)] at H; exact H
                  clear H
                  have H := H1
                  clear H1
                  by_cases c14 : a2 = 2
                  · rw [if_pos c14] at H
                    have c14b0 : (a2 == 2) = true := beq_iff_eq.mpr c14
                    have c14b1 : (a2 != 2) = false := bne_eq_false_iff_eq.mpr c14
                    clear c14
                    by_cases c15 : x7_1.length < 140737488355328
                    · rw [if_pos c15] at H
                      have LMc15 := Aside0.mk c15
                      clear c15
                      obtain ⟨y133, hy133⟩ : ∃ y_ : List Bool, y_ = (x7_1 ++ [true]) := ⟨_, rfl⟩
                      replace H : (waystoneref06_Both.l0 k1 l0 l1 a2 y133 (wrap64 (x8_1 + 1))) = some r := by first | (rw [hy133]; with_reducible exact H) | (have H2_ := (Option.bind_some _ _).symm.trans H; rw [hy133]; with_reducible exact H2_) | (have H2_ := (Option.bind_some _ _).symm.trans H; with_reducible exact H2_) | with_reducible exact H | (rw [hy133]; exact H) | exact H
                      have Ny133 := Aside0.mk hy133
                      clear hy133
                      have H' := Aside0.mk H
                      clear H
                      have p127 : 0 ≤ (x8_1 : Int) := of_decide_eq_true (by first | (with_reducible assumption) | assumption)
                      have q127 : x8_1 < (l0.length : Int) := of_decide_eq_true (by first | (with_reducible assumption) | assumption)
                      obtain ⟨ad127, e127, hx127_0⟩ := Kd.at_bool HR0.out x8_1 p127 q127
                      (try rw [← Nbq7.out] at hx127_0)
                      (try rw [← Nbq10.out] at hx127_0)
                      cases e127
                      replace hx127_0 := (HB.out.cell (World.block_lt_of_cell? w _ hx127_0)).trans hx127_0
                      replace p127 := eq_true p127
                      replace q127 := eq_true q127
                      have p128 : 0 ≤ (x8_1 : Int) := of_decide_eq_true (by first | (with_reducible assumption) | assumption)
                      have q128 : x8_1 < (l1.length : Int) := of_decide_eq_true (by first | (with_reducible assumption) | assumption)
                      obtain ⟨ad128, e128, hx128_0⟩ := Kd.at_bool HR1.out x8_1 p128 q128
                      (try rw [← Nbq7.out] at hx128_0)
                      (try rw [← Nbq10.out] at hx128_0)
                      cases e128
                      replace hx128_0 := (HB.out.cell (World.block_lt_of_cell? w _ hx128_0)).trans hx128_0
                      replace p128 := eq_true p128
                      replace q128 := eq_true q128
                      have p132 : 0 ≤ (x8_1 : Int) := of_decide_eq_true (by first | (with_reducible assumption) | assumption)
                      have q132 : x8_1 < (l0.length : Int) := of_decide_eq_true (by first | (with_reducible assumption) | assumption)
                      obtain ⟨ad132, e132, hx132_0⟩ := Kd.at_bool HR0.out x8_1 p132 q132
                      (try rw [← Nbq7.out] at hx132_0)
                      (try rw [← Nbq10.out] at hx132_0)
                      obtain rfl : ad127 = ad132 := (by injection e132)
                      replace hx132_0 := (HB.out.cell (World.block_lt_of_cell? w _ hx132_0)).trans hx132_0
                      replace p132 := eq_true p132
                      replace q132 := eq_true q132
                      go_wp2_with (first | ((with_reducible refine gate_builtin (b := .append) (xs := #[.tmp 15, .tmp 63]) rfl ?_); at_builtin; refine Kd.R_append Kd.bool (w0 := w) w.heap.size rfl (.tmp 15) (.tmp 63) 27 4 (.bool false) 1 rfl Tryd.underlying27 info4 rfl (by decide) (by omega) u7 x7_1 true [.bool true] (fun _ => True) (fun _ => False) rfl rfl ?aP (fun _ hk => hk.elim) ?aF ?aO ?aB ?aS ?aL ?_; (case aP => exact rfl); (case aB => exact (by repeat (first | (with_reducible first | exact HB.out | apply below_alloc | apply pw_below_drewN | apply below_drew1) | exact HB.out))); (case aF => exact (fun _ _ => trivial)); (case aO => exact (by (with_reducible repeat (first | apply Kd.R_alloc | apply Kd.R_drewN | apply Kd.R_drew)); exact HO_7.out)); (case aS => exact (below_size (by repeat (first | (with_reducible first | exact HB.out | apply below_alloc | apply pw_below_drewN | apply below_drew1) | exact HB.out)))); (case aL => have := LMc15.out; omega); intro v134 w16 ho hb hg hat; rw [← Ny133.out] at ho; have n0_ := Aside0.mk (hb); have n1_ := Aside0.mk (ho); clear HB; clear HO_7; have HB := n0_; have HO135 := n1_; clear n0_ n1_; clear ho hb hg hat))
                      go_roundg k1
                      case measure => have := HK1.out; omega
                      case rel => exact ⟨(y133), (wrap64 (x8_1 + 1)), (by first | rfl | (simp; done) | (simp [*]; done)), H', ⟨by have := HK1.out; omega⟩, ⟨by (with_reducible repeat (first | apply Kd.R_alloc | apply Kd.R_drewN | apply Kd.R_drew)); exact HO135.out⟩, ⟨by repeat (first | (with_reducible first | exact HB.out | apply below_alloc | apply pw_below_drewN | apply below_drew1) | exact HB.out)⟩⟩
                    · rw [if_neg c15] at H
                      exact absurd H (by simp)
                  · rw [if_neg c14] at H
                    have c14b0 : (a2 == 2) = false := beq_eq_false_iff_ne.mpr c14
                    have c14b1 : (a2 != 2) = true := bne_iff_ne.mpr c14
                    by_cases c17 : a2 = 3
                    · rw [if_pos c17] at H
                      have c17b0 : (a2 == 3) = true := beq_iff_eq.mpr c17
                      have c17b1 : (a2 != 3) = false := bne_eq_false_iff_eq.mpr c17
                      clear c17
                      by_cases c18 : x7_1.length < 140737488355328
                      · rw [if_pos c18] at H
                        have LMc18 := Aside0.mk c18
                        clear c18
                        obtain ⟨y138, hy138⟩ : ∃ y_ : List Bool, y_ = (x7_1 ++ [!(false)]) := ⟨_, rfl⟩
                        replace H : (waystoneref06_Both.l0 k1 l0 l1 a2 y138 (wrap64 (x8_1 + 1))) = some r := by first | (rw [hy138]; with_reducible exact H) | (have H2_ := (Option.bind_some _ _).symm.trans H; rw [hy138]; with_reducible exact H2_) | (have H2_ := (Option.bind_some _ _).symm.trans H; with_reducible exact H2_) | with_reducible exact H | (rw [hy138]; exact H) | exact H
                        have Ny138 := Aside0.mk hy138
                        clear hy138
                        have H' := Aside0.mk H
                        clear H
                        have p127 : 0 ≤ (x8_1 : Int) := of_decide_eq_true (by first | (with_reducible assumption) | assumption)
                        have q127 : x8_1 < (l0.length : Int) := of_decide_eq_true (by first | (with_reducible assumption) | assumption)
                        obtain ⟨ad127, e127, hx127_0⟩ := Kd.at_bool HR0.out x8_1 p127 q127
                        (try rw [← Nbq7.out] at hx127_0)
                        (try rw [← Nbq10.out] at hx127_0)
                        cases e127
                        replace hx127_0 := (HB.out.cell (World.block_lt_of_cell? w _ hx127_0)).trans hx127_0
                        replace p127 := eq_true p127
                        replace q127 := eq_true q127
                        have p128 : 0 ≤ (x8_1 : Int) := of_decide_eq_true (by first | (with_reducible assumption) | assumption)
                        have q128 : x8_1 < (l1.length : Int) := of_decide_eq_true (by first | (with_reducible assumption) | assumption)
                        obtain ⟨ad128, e128, hx128_0⟩ := Kd.at_bool HR1.out x8_1 p128 q128
                        (try rw [← Nbq7.out] at hx128_0)
                        (try rw [← Nbq10.out] at hx128_0)
                        cases e128
                        replace hx128_0 := (HB.out.cell (World.block_lt_of_cell? w _ hx128_0)).trans hx128_0
                        replace p128 := eq_true p128
                        replace q128 := eq_true q128
                        have p136 : 0 ≤ (x8_1 : Int) := of_decide_eq_true (by first | (with_reducible assumption) | assumption)
                        have q136 : x8_1 < (l0.length : Int) := of_decide_eq_true (by first | (with_reducible assumption) | assumption)
                        obtain ⟨ad136, e136, hx136_0⟩ := Kd.at_bool HR0.out x8_1 p136 q136
                        (try rw [← Nbq7.out] at hx136_0)
                        (try rw [← Nbq10.out] at hx136_0)
                        obtain rfl : ad127 = ad136 := (by injection e136)
                        replace hx136_0 := (HB.out.cell (World.block_lt_of_cell? w _ hx136_0)).trans hx136_0
                        replace p136 := eq_true p136
                        replace q136 := eq_true q136
                        have p137 : 0 ≤ (x8_1 : Int) := of_decide_eq_true (by first | (with_reducible assumption) | assumption)
                        have q137 : x8_1 < (l1.length : Int) := of_decide_eq_true (by first | (with_reducible assumption) | assumption)
                        obtain ⟨ad137, e137, hx137_0⟩ := Kd.at_bool HR1.out x8_1 p137 q137
                        (try rw [← Nbq7.out] at hx137_0)
                        (try rw [← Nbq10.out] at hx137_0)
                        obtain rfl : ad128 = ad137 := (by injection e137)
                        replace hx137_0 := (HB.out.cell (World.block_lt_of_cell? w _ hx137_0)).trans hx137_0
                        replace p137 := eq_true p137
                        replace q137 := eq_true q137
                        go_wp2_with (first | ((with_reducible refine gate_builtin (b := .append) (xs := #[.tmp 15, .tmp 63]) rfl ?_); at_builtin; refine Kd.R_append Kd.bool (w0 := w) w.heap.size rfl (.tmp 15) (.tmp 63) 27 4 (.bool false) 1 rfl Tryd.underlying27 info4 rfl (by decide) (by omega) u7 x7_1 (!(false)) [.bool (!(false))] (fun _ => True) (fun _ => False) rfl rfl ?aP (fun _ hk => hk.elim) ?aF ?aO ?aB ?aS ?aL ?_; (case aP => exact rfl); (case aB => exact (by repeat (first | (with_reducible first | exact HB.out | apply below_alloc | apply pw_below_drewN | apply below_drew1) | exact HB.out))); (case aF => exact (fun _ _ => trivial)); (case aO => exact (by (with_reducible repeat (first | apply Kd.R_alloc | apply Kd.R_drewN | apply Kd.R_drew)); exact HO_7.out)); (case aS => exact (below_size (by repeat (first | (with_reducible first | exact HB.out | apply below_alloc | apply pw_below_drewN | apply below_drew1) | exact HB.out)))); (case aL => have := LMc18.out; omega); intro v139 w19 ho hb hg hat; rw [← Ny138.out] at ho; have n0_ := Aside0.mk (hb); have n1_ := Aside0.mk (ho); clear HB; clear HO_7; have HB := n0_; have HO140 := n1_; clear n0_ n1_; clear ho hb hg hat))
                        go_roundg k1
                        case measure => have := HK1.out; omega
                        case rel => exact ⟨(y138), (wrap64 (x8_1 + 1)), (by first | rfl | (simp; done) | (simp [*]; done)), H', ⟨by have := HK1.out; omega⟩, ⟨by (with_reducible repeat (first | apply Kd.R_alloc | apply Kd.R_drewN | apply Kd.R_drew)); exact HO140.out⟩, ⟨by repeat (first | (with_reducible first | exact HB.out | apply below_alloc | apply pw_below_drewN | apply below_drew1) | exact HB.out)⟩⟩
                      · rw [if_neg c18] at H
                        exact absurd H (by simp)
                    · rw [if_neg c17] at H
                      have c17b0 : (a2 == 3) = false := beq_eq_false_iff_ne.mpr c17
                      have c17b1 : (a2 != 3) = true := bne_iff_ne.mpr c17
                      by_cases c20 : x7_1.length < 140737488355328
                      · rw [if_pos c20] at H
                        have LMc20 := Aside0.mk c20
                        clear c20
                        obtain ⟨y141, hy141⟩ : ∃ y_ : List Bool, y_ = (x7_1 ++ [false]) := ⟨_, rfl⟩
                        replace H : (waystoneref06_Both.l0 k1 l0 l1 a2 y141 (wrap64 (x8_1 + 1))) = some r := by first | (rw [hy141]; with_reducible exact H) | (have H2_ := (Option.bind_some _ _).symm.trans H; rw [hy141]; with_reducible exact H2_) | (have H2_ := (Option.bind_some _ _).symm.trans H; with_reducible exact H2_) | with_reducible exact H | (rw [hy141]; exact H) | exact H
                        have Ny141 := Aside0.mk hy141
                        clear hy141
                        have H' := Aside0.mk H
                        clear H
                        have p127 : 0 ≤ (x8_1 : Int) := of_decide_eq_true (by first | (with_reducible assumption) | assumption)
                        have q127 : x8_1 < (l0.length : Int) := of_decide_eq_true (by first | (with_reducible assumption) | assumption)
                        obtain ⟨ad127, e127, hx127_0⟩ := Kd.at_bool HR0.out x8_1 p127 q127
                        (try rw [← Nbq7.out] at hx127_0)
                        (try rw [← Nbq10.out] at hx127_0)
                        cases e127
                        replace hx127_0 := (HB.out.cell (World.block_lt_of_cell? w _ hx127_0)).trans hx127_0
                        replace p127 := eq_true p127
                        replace q127 := eq_true q127
                        have p128 : 0 ≤ (x8_1 : Int) := of_decide_eq_true (by first | (with_reducible assumption) | assumption)
                        have q128 : x8_1 < (l1.length : Int) := of_decide_eq_true (by first | (with_reducible assumption) | assumption)
                        obtain ⟨ad128, e128, hx128_0⟩ := Kd.at_bool HR1.out x8_1 p128 q128
                        (try rw [← Nbq7.out] at hx128_0)
                        (try rw [← Nbq10.out] at hx128_0)
                        cases e128
                        replace hx128_0 := (HB.out.cell (World.block_lt_of_cell? w _ hx128_0)).trans hx128_0
                        replace p128 := eq_true p128
                        replace q128 := eq_true q128
                        go_wp2_with (first | ((with_reducible refine gate_builtin (b := .append) (xs := #[.tmp 15, .tmp 63]) rfl ?_); at_builtin; refine Kd.R_append Kd.bool (w0 := w) w.heap.size rfl (.tmp 15) (.tmp 63) 27 4 (.bool false) 1 rfl Tryd.underlying27 info4 rfl (by decide) (by omega) u7 x7_1 false [.bool false] (fun _ => True) (fun _ => False) rfl rfl ?aP (fun _ hk => hk.elim) ?aF ?aO ?aB ?aS ?aL ?_; (case aP => exact rfl); (case aB => exact (by repeat (first | (with_reducible first | exact HB.out | apply below_alloc | apply pw_below_drewN | apply below_drew1) | exact HB.out))); (case aF => exact (fun _ _ => trivial)); (case aO => exact (by (with_reducible repeat (first | apply Kd.R_alloc | apply Kd.R_drewN | apply Kd.R_drew)); exact HO_7.out)); (case aS => exact (below_size (by repeat (first | (with_reducible first | exact HB.out | apply below_alloc | apply pw_below_drewN | apply below_drew1) | exact HB.out)))); (case aL => have := LMc20.out; omega); intro v142 w21 ho hb hg hat; rw [← Ny141.out] at ho; have n0_ := Aside0.mk (hb); have n1_ := Aside0.mk (ho); clear HB; clear HO_7; have HB := n0_; have HO143 := n1_; clear n0_ n1_; clear ho hb hg hat))
                        go_roundg k1
                        case measure => have := HK1.out; omega
                        case rel => exact ⟨(y141), (wrap64 (x8_1 + 1)), (by first | rfl | (simp; done) | (simp [*]; done)), H', ⟨by have := HK1.out; omega⟩, ⟨by (with_reducible repeat (first | apply Kd.R_alloc | apply Kd.R_drewN | apply Kd.R_drew)); exact HO143.out⟩, ⟨by repeat (first | (with_reducible first | exact HB.out | apply below_alloc | apply pw_below_drewN | apply below_drew1) | exact HB.out)⟩⟩
                      · rw [if_neg c20] at H
                        exact absurd H (by simp)
              · rw [if_neg c9] at H
                exact absurd H (by simp)
            · replace c8 := Bool.eq_false_iff.mpr c8
              subst c8
              have H1 : (if a2 = 2 then (if x8_1 < (l1.length : Int) then (if rdOf false l1 x8_1 = true then (if x7_1.length < 140737488355328 then (waystoneref06_Both.l0 k1 l0 l1 a2 (x7_1 ++ [true]) (wrap64 (x8_1 + 1))) else (none)) else (if a2 = 3 then (if x7_1.length < 140737488355328 then (waystoneref06_Both.l0 k1 l0 l1 a2 (x7_1 ++ [false]) (wrap64 (x8_1 + 1))) else (none)) else (if x7_1.length < 140737488355328 then (waystoneref06_Both.l0 k1 l0 l1 a2 (x7_1 ++ [false]) (wrap64 (x8_1 + 1))) else (none)))) else (none)) else (if a2 = 3 then (if x7_1.length < 140737488355328 then (waystoneref06_Both.l0 k1 l0 l1 a2 (x7_1 ++ [false]) (wrap64 (x8_1 + 1))) else (none)) else (if x7_1.length < 140737488355328 then (waystoneref06_Both.l0 k1 l0 l1 a2 (x7_1 ++ [false]) (wrap64 (x8_1 + 1))) else (none)))) = some r := by rw [if_neg (show ¬ (false = true) by decide)] at H; exact H
              clear H
              have H := H1
              clear H1
              by_cases c22 : a2 = 2
              · rw [if_pos c22] at H
                have c22b0 : (a2 == 2) = true := beq_iff_eq.mpr c22
                have c22b1 : (a2 != 2) = false := bne_eq_false_iff_eq.mpr c22
                clear c22
                by_cases c23 : x8_1 < (l1.length : Int)
                · rw [if_pos c23] at H
                  have c23b0 : decide (x8_1 < (l1.length : Int)) = true := decide_eq_true c23
                  clear c23
                  obtain ⟨bq24, hbq24⟩ : ∃ b_ : Bool, b_ = (rdOf false l1 x8_1) := ⟨_, rfl⟩
                  replace H : (if bq24 = true then (if x7_1.length < 140737488355328 then (waystoneref06_Both.l0 k1 l0 l1 a2 (x7_1 ++ [true]) (wrap64 (x8_1 + 1))) else (none)) else (if a2 = 3 then (if x7_1.length < 140737488355328 then (waystoneref06_Both.l0 k1 l0 l1 a2 (x7_1 ++ [false]) (wrap64 (x8_1 + 1))) else (none)) else (if x7_1.length < 140737488355328 then (waystoneref06_Both.l0 k1 l0 l1 a2 (x7_1 ++ [false]) (wrap64 (x8_1 + 1))) else (none)))) = some r := by rw [← hbq24] at H; exact H
                  have Nbq24 := Aside0.mk hbq24
                  clear hbq24
                  by_cases c25 : bq24 = true
                  · subst c25
                    have H1 : (if x7_1.length < 140737488355328 then (waystoneref06_Both.l0 k1 l0 l1 a2 (x7_1 ++ [true]) (wrap64 (x8_1 + 1))) else (none)) = some r := by rw [if_pos rfl] at H; exact H
                    clear H
                    have H := H1
                    clear H1
                    by_cases c26 : x7_1.length < 140737488355328
                    · rw [if_pos c26] at H
                      have LMc26 := Aside0.mk c26
                      clear c26
                      obtain ⟨y146, hy146⟩ : ∃ y_ : List Bool, y_ = (x7_1 ++ [true]) := ⟨_, rfl⟩
                      replace H : (waystoneref06_Both.l0 k1 l0 l1 a2 y146 (wrap64 (x8_1 + 1))) = some r := by first | (rw [hy146]; with_reducible exact H) | (have H2_ := (Option.bind_some _ _).symm.trans H; rw [hy146]; with_reducible exact H2_) | (have H2_ := (Option.bind_some _ _).symm.trans H; with_reducible exact H2_) | with_reducible exact H | (rw [hy146]; exact H) | exact H
                      have Ny146 := Aside0.mk hy146
                      clear hy146
                      have H' := Aside0.mk H
                      clear H
                      have p127 : 0 ≤ (x8_1 : Int) := of_decide_eq_true (by first | (with_reducible assumption) | assumption)
                      have q127 : x8_1 < (l0.length : Int) := of_decide_eq_true (by first | (with_reducible assumption) | assumption)
                      obtain ⟨ad127, e127, hx127_0⟩ := Kd.at_bool HR0.out x8_1 p127 q127
                      (try rw [← Nbq7.out] at hx127_0)
                      (try rw [← Nbq24.out] at hx127_0)
                      cases e127
                      replace hx127_0 := (HB.out.cell (World.block_lt_of_cell? w _ hx127_0)).trans hx127_0
                      replace p127 := eq_true p127
                      replace q127 := eq_true q127
                      have p144 : 0 ≤ (x8_1 : Int) := of_decide_eq_true (by first | (with_reducible assumption) | assumption)
                      have q144 : x8_1 < (l0.length : Int) := of_decide_eq_true (by first | (with_reducible assumption) | assumption)
                      obtain ⟨ad144, e144, hx144_0⟩ := Kd.at_bool HR0.out x8_1 p144 q144
                      (try rw [← Nbq7.out] at hx144_0)
                      (try rw [← Nbq24.out] at hx144_0)
                      obtain rfl : ad127 = ad144 := (by injection e144)
                      replace hx144_0 := (HB.out.cell (World.block_lt_of_cell? w _ hx144_0)).trans hx144_0
                      replace p144 := eq_true p144
                      replace q144 := eq_true q144
                      have p145 : 0 ≤ (x8_1 : Int) := of_decide_eq_true (by first | (with_reducible assumption) | assumption)
                      have q145 : x8_1 < (l1.length : Int) := of_decide_eq_true (by first | (with_reducible assumption) | assumption)
                      obtain ⟨ad145, e145, hx145_0⟩ := Kd.at_bool HR1.out x8_1 p145 q145
                      (try rw [← Nbq7.out] at hx145_0)
                      (try rw [← Nbq24.out] at hx145_0)
                      cases e145
                      replace hx145_0 := (HB.out.cell (World.block_lt_of_cell? w _ hx145_0)).trans hx145_0
                      replace p145 := eq_true p145
                      replace q145 := eq_true q145
                      go_wp2_with (first | ((with_reducible refine gate_builtin (b := .append) (xs := #[.tmp 15, .tmp 63]) rfl ?_); at_builtin; refine Kd.R_append Kd.bool (w0 := w) w.heap.size rfl (.tmp 15) (.tmp 63) 27 4 (.bool false) 1 rfl Tryd.underlying27 info4 rfl (by decide) (by omega) u7 x7_1 true [.bool true] (fun _ => True) (fun _ => False) rfl rfl ?aP (fun _ hk => hk.elim) ?aF ?aO ?aB ?aS ?aL ?_; (case aP => exact rfl); (case aB => exact (by repeat (first | (with_reducible first | exact HB.out | apply below_alloc | apply pw_below_drewN | apply below_drew1) | exact HB.out))); (case aF => exact (fun _ _ => trivial)); (case aO => exact (by (with_reducible repeat (first | apply Kd.R_alloc | apply Kd.R_drewN | apply Kd.R_drew)); exact HO_7.out)); (case aS => exact (below_size (by repeat (first | (with_reducible first | exact HB.out | apply below_alloc | apply pw_below_drewN | apply below_drew1) | exact HB.out)))); (case aL => have := LMc26.out; omega); intro v147 w27 ho hb hg hat; rw [← Ny146.out] at ho; have n0_ := Aside0.mk (hb); have n1_ := Aside0.mk (ho); clear HB; clear HO_7; have HB := n0_; have HO148 := n1_; clear n0_ n1_; clear ho hb hg hat))
                      go_roundg k1
                      case measure => have := HK1.out; omega
                      case rel => exact ⟨(y146), (wrap64 (x8_1 + 1)), (by first | rfl | (simp; done) | (simp [*]; done)), H', ⟨by have := HK1.out; omega⟩, ⟨by (with_reducible repeat (first | apply Kd.R_alloc | apply Kd.R_drewN | apply Kd.R_drew)); exact HO148.out⟩, ⟨by repeat (first | (with_reducible first | exact HB.out | apply below_alloc | apply pw_below_drewN | apply below_drew1) | exact HB.out)⟩⟩
                    · rw [if_neg c26] at H
                      exact absurd H (by simp)
                  · replace c25 := Bool.eq_false_iff.mpr c25
                    subst c25
                    have H1 : (if a2 = 3 then (if x7_1.length < 140737488355328 then (waystoneref06_Both.l0 k1 l0 l1 a2 (x7_1 ++ [false]) (wrap64 (x8_1 + 1))) else (none)) else (if x7_1.length < 140737488355328 then (waystoneref06_Both.l0 k1 l0 l1 a2 (x7_1 ++ [false]) (wrap64 (x8_1 + 1))) else (none))) = some r := by rw [if_neg (show ¬ (false = true) by decide)] at H; exact H
                    clear H
                    have H := H1
                    clear H1
                    by_cases c28 : a2 = 3
                    · rw [if_pos c28] at H
                      have c28b0 : (a2 == 3) = true := beq_iff_eq.mpr c28
                      have c28b1 : (a2 != 3) = false := bne_eq_false_iff_eq.mpr c28
                      clear c28
                      by_cases c29 : x7_1.length < 140737488355328
                      · rw [if_pos c29] at H
                        have LMc29 := Aside0.mk c29
                        clear c29
                        obtain ⟨y150, hy150⟩ : ∃ y_ : List Bool, y_ = (x7_1 ++ [false]) := ⟨_, rfl⟩
                        replace H : (waystoneref06_Both.l0 k1 l0 l1 a2 y150 (wrap64 (x8_1 + 1))) = some r := by first | (rw [hy150]; with_reducible exact H) | (have H2_ := (Option.bind_some _ _).symm.trans H; rw [hy150]; with_reducible exact H2_) | (have H2_ := (Option.bind_some _ _).symm.trans H; with_reducible exact H2_) | with_reducible exact H | (rw [hy150]; exact H) | exact H
                        have Ny150 := Aside0.mk hy150
                        clear hy150
                        have H' := Aside0.mk H
                        clear H
                        have p127 : 0 ≤ (x8_1 : Int) := of_decide_eq_true (by first | (with_reducible assumption) | assumption)
                        have q127 : x8_1 < (l0.length : Int) := of_decide_eq_true (by first | (with_reducible assumption) | assumption)
                        obtain ⟨ad127, e127, hx127_0⟩ := Kd.at_bool HR0.out x8_1 p127 q127
                        (try rw [← Nbq7.out] at hx127_0)
                        (try rw [← Nbq24.out] at hx127_0)
                        cases e127
                        replace hx127_0 := (HB.out.cell (World.block_lt_of_cell? w _ hx127_0)).trans hx127_0
                        replace p127 := eq_true p127
                        replace q127 := eq_true q127
                        have p144 : 0 ≤ (x8_1 : Int) := of_decide_eq_true (by first | (with_reducible assumption) | assumption)
                        have q144 : x8_1 < (l0.length : Int) := of_decide_eq_true (by first | (with_reducible assumption) | assumption)
                        obtain ⟨ad144, e144, hx144_0⟩ := Kd.at_bool HR0.out x8_1 p144 q144
                        (try rw [← Nbq7.out] at hx144_0)
                        (try rw [← Nbq24.out] at hx144_0)
                        obtain rfl : ad127 = ad144 := (by injection e144)
                        replace hx144_0 := (HB.out.cell (World.block_lt_of_cell? w _ hx144_0)).trans hx144_0
                        replace p144 := eq_true p144
                        replace q144 := eq_true q144
                        have p145 : 0 ≤ (x8_1 : Int) := of_decide_eq_true (by first | (with_reducible assumption) | assumption)
                        have q145 : x8_1 < (l1.length : Int) := of_decide_eq_true (by first | (with_reducible assumption) | assumption)
                        obtain ⟨ad145, e145, hx145_0⟩ := Kd.at_bool HR1.out x8_1 p145 q145
                        (try rw [← Nbq7.out] at hx145_0)
                        (try rw [← Nbq24.out] at hx145_0)
                        cases e145
                        replace hx145_0 := (HB.out.cell (World.block_lt_of_cell? w _ hx145_0)).trans hx145_0
                        replace p145 := eq_true p145
                        replace q145 := eq_true q145
                        have p149 : 0 ≤ (x8_1 : Int) := of_decide_eq_true (by first | (with_reducible assumption) | assumption)
                        have q149 : x8_1 < (l0.length : Int) := of_decide_eq_true (by first | (with_reducible assumption) | assumption)
                        obtain ⟨ad149, e149, hx149_0⟩ := Kd.at_bool HR0.out x8_1 p149 q149
                        (try rw [← Nbq7.out] at hx149_0)
                        (try rw [← Nbq24.out] at hx149_0)
                        obtain rfl : ad127 = ad149 := (by injection e149)
                        replace hx149_0 := (HB.out.cell (World.block_lt_of_cell? w _ hx149_0)).trans hx149_0
                        replace p149 := eq_true p149
                        replace q149 := eq_true q149
                        go_wp2_with (first | ((with_reducible refine gate_builtin (b := .append) (xs := #[.tmp 15, .tmp 63]) rfl ?_); at_builtin; refine Kd.R_append Kd.bool (w0 := w) w.heap.size rfl (.tmp 15) (.tmp 63) 27 4 (.bool false) 1 rfl Tryd.underlying27 info4 rfl (by decide) (by omega) u7 x7_1 false [.bool false] (fun _ => True) (fun _ => False) rfl rfl ?aP (fun _ hk => hk.elim) ?aF ?aO ?aB ?aS ?aL ?_; (case aP => exact rfl); (case aB => exact (by repeat (first | (with_reducible first | exact HB.out | apply below_alloc | apply pw_below_drewN | apply below_drew1) | exact HB.out))); (case aF => exact (fun _ _ => trivial)); (case aO => exact (by (with_reducible repeat (first | apply Kd.R_alloc | apply Kd.R_drewN | apply Kd.R_drew)); exact HO_7.out)); (case aS => exact (below_size (by repeat (first | (with_reducible first | exact HB.out | apply below_alloc | apply pw_below_drewN | apply below_drew1) | exact HB.out)))); (case aL => have := LMc29.out; omega); intro v151 w30 ho hb hg hat; rw [← Ny150.out] at ho; have n0_ := Aside0.mk (hb); have n1_ := Aside0.mk (ho); clear HB; clear HO_7; have HB := n0_; have HO152 := n1_; clear n0_ n1_; clear ho hb hg hat))
                        go_roundg k1
                        case measure => have := HK1.out; omega
                        case rel => exact ⟨(y150), (wrap64 (x8_1 + 1)), (by first | rfl | (simp; done) | (simp [*]; done)), H', ⟨by have := HK1.out; omega⟩, ⟨by (with_reducible repeat (first | apply Kd.R_alloc | apply Kd.R_drewN | apply Kd.R_drew)); exact HO152.out⟩, ⟨by repeat (first | (with_reducible first | exact HB.out | apply below_alloc | apply pw_below_drewN | apply below_drew1) | exact HB.out)⟩⟩
                      · rw [if_neg c29] at H
                        exact absurd H (by simp)
                    · rw [if_neg c28] at H
                      have c28b0 : (a2 == 3) = false := beq_eq_false_iff_ne.mpr c28
                      have c28b1 : (a2 != 3) = true := bne_iff_ne.mpr c28
                      by_cases c31 : x7_1.length < 140737488355328
                      · rw [if_pos c31] at H
                        have LMc31 := Aside0.mk c31
                        clear c31
                        obtain ⟨y153, hy153⟩ : ∃ y_ : List Bool, y_ = (x7_1 ++ [false]) := ⟨_, rfl⟩
                        replace H : (waystoneref06_Both.l0 k1 l0 l1 a2 y153 (wrap64 (x8_1 + 1))) = some r := by first | (rw [hy153]; with_reducible exact H) | (have H2_ := (Option.bind_some _ _).symm.trans H; rw [hy153]; with_reducible exact H2_) | (have H2_ := (Option.bind_some _ _).symm.trans H; with_reducible exact H2_) | with_reducible exact H | (rw [hy153]; exact H) | exact H
                        have Ny153 := Aside0.mk hy153
                        clear hy153
                        have H' := Aside0.mk H
                        clear H
                        have p127 : 0 ≤ (x8_1 : Int) := of_decide_eq_true (by first | (with_reducible assumption) | assumption)
                        have q127 : x8_1 < (l0.length : Int) := of_decide_eq_true (by first | (with_reducible assumption) | assumption)
                        obtain ⟨ad127, e127, hx127_0⟩ := Kd.at_bool HR0.out x8_1 p127 q127
                        (try rw [← Nbq7.out] at hx127_0)
                        (try rw [← Nbq24.out] at hx127_0)
                        cases e127
                        replace hx127_0 := (HB.out.cell (World.block_lt_of_cell? w _ hx127_0)).trans hx127_0
                        replace p127 := eq_true p127
                        replace q127 := eq_true q127
                        have p144 : 0 ≤ (x8_1 : Int) := of_decide_eq_true (by first | (with_reducible assumption) | assumption)
                        have q144 : x8_1 < (l0.length : Int) := of_decide_eq_true (by first | (with_reducible assumption) | assumption)
                        obtain ⟨ad144, e144, hx144_0⟩ := Kd.at_bool HR0.out x8_1 p144 q144
                        (try rw [← Nbq7.out] at hx144_0)
                        (try rw [← Nbq24.out] at hx144_0)
                        obtain rfl : ad127 = ad144 := (by injection e144)
                        replace hx144_0 := (HB.out.cell (World.block_lt_of_cell? w _ hx144_0)).trans hx144_0
                        replace p144 := eq_true p144
                        replace q144 := eq_true q144
                        have p145 : 0 ≤ (x8_1 : Int) := of_decide_eq_true (by first | (with_reducible assumption) | assumption)
                        have q145 : x8_1 < (l1.length : Int) := of_decide_eq_true (by first | (with_reducible assumption) | assumption)
                        obtain ⟨ad145, e145, hx145_0⟩ := Kd.at_bool HR1.out x8_1 p145 q145
                        (try rw [← Nbq7.out] at hx145_0)
                        (try rw [← Nbq24.out] at hx145_0)
                        cases e145
                        replace hx145_0 := (HB.out.cell (World.block_lt_of_cell? w _ hx145_0)).trans hx145_0
                        replace p145 := eq_true p145
                        replace q145 := eq_true q145
                        go_wp2_with (first | ((with_reducible refine gate_builtin (b := .append) (xs := #[.tmp 15, .tmp 63]) rfl ?_); at_builtin; refine Kd.R_append Kd.bool (w0 := w) w.heap.size rfl (.tmp 15) (.tmp 63) 27 4 (.bool false) 1 rfl Tryd.underlying27 info4 rfl (by decide) (by omega) u7 x7_1 false [.bool false] (fun _ => True) (fun _ => False) rfl rfl ?aP (fun _ hk => hk.elim) ?aF ?aO ?aB ?aS ?aL ?_; (case aP => exact rfl); (case aB => exact (by repeat (first | (with_reducible first | exact HB.out | apply below_alloc | apply pw_below_drewN | apply below_drew1) | exact HB.out))); (case aF => exact (fun _ _ => trivial)); (case aO => exact (by (with_reducible repeat (first | apply Kd.R_alloc | apply Kd.R_drewN | apply Kd.R_drew)); exact HO_7.out)); (case aS => exact (below_size (by repeat (first | (with_reducible first | exact HB.out | apply below_alloc | apply pw_below_drewN | apply below_drew1) | exact HB.out)))); (case aL => have := LMc31.out; omega); intro v154 w32 ho hb hg hat; rw [← Ny153.out] at ho; have n0_ := Aside0.mk (hb); have n1_ := Aside0.mk (ho); clear HB; clear HO_7; have HB := n0_; have HO155 := n1_; clear n0_ n1_; clear ho hb hg hat))
                        go_roundg k1
                        case measure => have := HK1.out; omega
                        case rel => exact ⟨(y153), (wrap64 (x8_1 + 1)), (by first | rfl | (simp; done) | (simp [*]; done)), H', ⟨by have := HK1.out; omega⟩, ⟨by (with_reducible repeat (first | apply Kd.R_alloc | apply Kd.R_drewN | apply Kd.R_drew)); exact HO155.out⟩, ⟨by repeat (first | (with_reducible first | exact HB.out | apply below_alloc | apply pw_below_drewN | apply below_drew1) | exact HB.out)⟩⟩
                      · rw [if_neg c31] at H
                        exact absurd H (by simp)
                · rw [if_neg c23] at H
                  exact absurd H (by simp)
              · rw [if_neg c22] at H
                have c22b0 : (a2 == 2) = false := beq_eq_false_iff_ne.mpr c22
                have c22b1 : (a2 != 2) = true := bne_iff_ne.mpr c22
                by_cases c33 : a2 = 3
                · rw [if_pos c33] at H
                  have c33b0 : (a2 == 3) = true := beq_iff_eq.mpr c33
                  have c33b1 : (a2 != 3) = false := bne_eq_false_iff_eq.mpr c33
                  clear c33
                  by_cases c34 : x7_1.length < 140737488355328
                  · rw [if_pos c34] at H
                    have LMc34 := Aside0.mk c34
                    clear c34
                    obtain ⟨y157, hy157⟩ : ∃ y_ : List Bool, y_ = (x7_1 ++ [false]) := ⟨_, rfl⟩
                    replace H : (waystoneref06_Both.l0 k1 l0 l1 a2 y157 (wrap64 (x8_1 + 1))) = some r := by first | (rw [hy157]; with_reducible exact H) | (have H2_ := (Option.bind_some _ _).symm.trans H; rw [hy157]; with_reducible exact H2_) | (have H2_ := (Option.bind_some _ _).symm.trans H; with_reducible exact H2_) | with_reducible exact H | (rw [hy157]; exact H) | exact H
                    have Ny157 := Aside0.mk hy157
                    clear hy157
                    have H' := Aside0.mk H
                    clear H
                    have p127 : 0 ≤ (x8_1 : Int) := of_decide_eq_true (by first | (with_reducible assumption) | assumption)
                    have q127 : x8_1 < (l0.length : Int) := of_decide_eq_true (by first | (with_reducible assumption) | assumption)
                    obtain ⟨ad127, e127, hx127_0⟩ := Kd.at_bool HR0.out x8_1 p127 q127
                    (try rw [← Nbq7.out] at hx127_0)
                    cases e127
                    replace hx127_0 := (HB.out.cell (World.block_lt_of_cell? w _ hx127_0)).trans hx127_0
                    replace p127 := eq_true p127
                    replace q127 := eq_true q127
                    have p156 : 0 ≤ (x8_1 : Int) := of_decide_eq_true (by first | (with_reducible assumption) | assumption)
                    have q156 : x8_1 < (l0.length : Int) := of_decide_eq_true (by first | (with_reducible assumption) | assumption)
                    obtain ⟨ad156, e156, hx156_0⟩ := Kd.at_bool HR0.out x8_1 p156 q156
                    (try rw [← Nbq7.out] at hx156_0)
                    obtain rfl : ad127 = ad156 := (by injection e156)
                    replace hx156_0 := (HB.out.cell (World.block_lt_of_cell? w _ hx156_0)).trans hx156_0
                    replace p156 := eq_true p156
                    replace q156 := eq_true q156
                    go_wp2_with (first | ((with_reducible refine gate_builtin (b := .append) (xs := #[.tmp 15, .tmp 63]) rfl ?_); at_builtin; refine Kd.R_append Kd.bool (w0 := w) w.heap.size rfl (.tmp 15) (.tmp 63) 27 4 (.bool false) 1 rfl Tryd.underlying27 info4 rfl (by decide) (by omega) u7 x7_1 false [.bool false] (fun _ => True) (fun _ => False) rfl rfl ?aP (fun _ hk => hk.elim) ?aF ?aO ?aB ?aS ?aL ?_; (case aP => exact rfl); (case aB => exact (by repeat (first | (with_reducible first | exact HB.out | apply below_alloc | apply pw_below_drewN | apply below_drew1) | exact HB.out))); (case aF => exact (fun _ _ => trivial)); (case aO => exact (by (with_reducible repeat (first | apply Kd.R_alloc | apply Kd.R_drewN | apply Kd.R_drew)); exact HO_7.out)); (case aS => exact (below_size (by repeat (first | (with_reducible first | exact HB.out | apply below_alloc | apply pw_below_drewN | apply below_drew1) | exact HB.out)))); (case aL => have := LMc34.out; omega); intro v158 w35 ho hb hg hat; rw [← Ny157.out] at ho; have n0_ := Aside0.mk (hb); have n1_ := Aside0.mk (ho); clear HB; clear HO_7; have HB := n0_; have HO159 := n1_; clear n0_ n1_; clear ho hb hg hat))
                    go_roundg k1
                    case measure => have := HK1.out; omega
                    case rel => exact ⟨(y157), (wrap64 (x8_1 + 1)), (by first | rfl | (simp; done) | (simp [*]; done)), H', ⟨by have := HK1.out; omega⟩, ⟨by (with_reducible repeat (first | apply Kd.R_alloc | apply Kd.R_drewN | apply Kd.R_drew)); exact HO159.out⟩, ⟨by repeat (first | (with_reducible first | exact HB.out | apply below_alloc | apply pw_below_drewN | apply below_drew1) | exact HB.out)⟩⟩
                  · rw [if_neg c34] at H
                    exact absurd H (by simp)
                · rw [if_neg c33] at H
                  have c33b0 : (a2 == 3) = false := beq_eq_false_iff_ne.mpr c33
                  have c33b1 : (a2 != 3) = true := bne_iff_ne.mpr c33
                  by_cases c36 : x7_1.length < 140737488355328
                  · rw [if_pos c36] at H
                    have LMc36 := Aside0.mk c36
                    clear c36
                    obtain ⟨y160, hy160⟩ : ∃ y_ : List Bool, y_ = (x7_1 ++ [false]) := ⟨_, rfl⟩
                    replace H : (waystoneref06_Both.l0 k1 l0 l1 a2 y160 (wrap64 (x8_1 + 1))) = some r := by first | (rw [hy160]; with_reducible exact H) | (have H2_ := (Option.bind_some _ _).symm.trans H; rw [hy160]; with_reducible exact H2_) | (have H2_ := (Option.bind_some _ _).symm.trans H; with_reducible exact H2_) | with_reducible exact H | (rw [hy160]; exact H) | exact H
                    have Ny160 := Aside0.mk hy160
                    clear hy160
                    have H' := Aside0.mk H
                    clear H
                    have p127 : 0 ≤ (x8_1 : Int) := of_decide_eq_true (by first | (with_reducible assumption) | assumption)
                    have q127 : x8_1 < (l0.length : Int) := of_decide_eq_true (by first | (with_reducible assumption) | assumption)
                    obtain ⟨ad127, e127, hx127_0⟩ := Kd.at_bool HR0.out x8_1 p127 q127
                    (try rw [← Nbq7.out] at hx127_0)
                    cases e127
                    replace hx127_0 := (HB.out.cell (World.block_lt_of_cell? w _ hx127_0)).trans hx127_0
                    replace p127 := eq_true p127
                    replace q127 := eq_true q127
                    go_wp2_with (first | ((with_reducible refine gate_builtin (b := .append) (xs := #[.tmp 15, .tmp 63]) rfl ?_); at_builtin; refine Kd.R_append Kd.bool (w0 := w) w.heap.size rfl (.tmp 15) (.tmp 63) 27 4 (.bool false) 1 rfl Tryd.underlying27 info4 rfl (by decide) (by omega) u7 x7_1 false [.bool false] (fun _ => True) (fun _ => False) rfl rfl ?aP (fun _ hk => hk.elim) ?aF ?aO ?aB ?aS ?aL ?_; (case aP => exact rfl); (case aB => exact (by repeat (first | (with_reducible first | exact HB.out | apply below_alloc | apply pw_below_drewN | apply below_drew1) | exact HB.out))); (case aF => exact (fun _ _ => trivial)); (case aO => exact (by (with_reducible repeat (first | apply Kd.R_alloc | apply Kd.R_drewN | apply Kd.R_drew)); exact HO_7.out)); (case aS => exact (below_size (by repeat (first | (with_reducible first | exact HB.out | apply below_alloc | apply pw_below_drewN | apply below_drew1) | exact HB.out)))); (case aL => have := LMc36.out; omega); intro v161 w37 ho hb hg hat; rw [← Ny160.out] at ho; have n0_ := Aside0.mk (hb); have n1_ := Aside0.mk (ho); clear HB; clear HO_7; have HB := n0_; have HO162 := n1_; clear n0_ n1_; clear ho hb hg hat))
                    go_roundg k1
                    case measure => have := HK1.out; omega
                    case rel => exact ⟨(y160), (wrap64 (x8_1 + 1)), (by first | rfl | (simp; done) | (simp [*]; done)), H', ⟨by have := HK1.out; omega⟩, ⟨by (with_reducible repeat (first | apply Kd.R_alloc | apply Kd.R_drewN | apply Kd.R_drew)); exact HO162.out⟩, ⟨by repeat (first | (with_reducible first | exact HB.out | apply below_alloc | apply pw_below_drewN | apply below_drew1) | exact HB.out)⟩⟩
                  · rw [if_neg c36] at H
                    exact absurd H (by simp)
          · rw [if_neg c6] at H
            exact absurd H (by simp)
        · rw [if_neg c5] at H
          have c5b0 : (a2 == 1) = false := beq_eq_false_iff_ne.mpr c5
          have c5b1 : (a2 != 1) = true := bne_iff_ne.mpr c5
          by_cases c38 : a2 = 2
          · rw [if_pos c38] at H
            have c38b0 : (a2 == 2) = true := beq_iff_eq.mpr c38
            have c38b1 : (a2 != 2) = false := bne_eq_false_iff_eq.mpr c38
            clear c38
            by_cases c39 : 0 ≤ x8_1
            · rw [if_pos c39] at H
              have c39b0 : decide (0 ≤ x8_1) = true := decide_eq_true c39
              clear c39
              obtain ⟨bq40, hbq40⟩ : ∃ b_ : Bool, b_ = (rdOf false l0 x8_1) := ⟨_, rfl⟩
              replace H : (if bq40 = true then (if x7_1.length < 140737488355328 then (waystoneref06_Both.l0 k1 l0 l1 a2 (x7_1 ++ [true]) (wrap64 (x8_1 + 1))) else (none)) else (if x8_1 < (l1.length : Int) then (if rdOf false l1 x8_1 = true then (if x7_1.length < 140737488355328 then (waystoneref06_Both.l0 k1 l0 l1 a2 (x7_1 ++ [true]) (wrap64 (x8_1 + 1))) else (none)) else (if a2 = 3 then (if x7_1.length < 140737488355328 then (waystoneref06_Both.l0 k1 l0 l1 a2 (x7_1 ++ [false]) (wrap64 (x8_1 + 1))) else (none)) else (if x7_1.length < 140737488355328 then (waystoneref06_Both.l0 k1 l0 l1 a2 (x7_1 ++ [false]) (wrap64 (x8_1 + 1))) else (none)))) else (none))) = some r := by rw [← hbq40] at H; exact H
              have Nbq40 := Aside0.mk hbq40
              clear hbq40
              by_cases c41 : bq40 = true
              · subst c41
                have H1 : (if x7_1.length < 140737488355328 then (waystoneref06_Both.l0 k1 l0 l1 a2 (x7_1 ++ [true]) (wrap64 (x8_1 + 1))) else (none)) = some r := by rw [if_pos rfl] at H; exact H
                clear H
                have H := H1
                clear H1
                by_cases c42 : x7_1.length < 140737488355328
                · rw [if_pos c42] at H
                  have LMc42 := Aside0.mk c42
                  clear c42
                  obtain ⟨y164, hy164⟩ : ∃ y_ : List Bool, y_ = (x7_1 ++ [true]) := ⟨_, rfl⟩
                  replace H : (waystoneref06_Both.l0 k1 l0 l1 a2 y164 (wrap64 (x8_1 + 1))) = some r := by first | (rw [hy164]; with_reducible exact H) | (have H2_ := (Option.bind_some _ _).symm.trans H; rw [hy164]; with_reducible exact H2_) | (have H2_ := (Option.bind_some _ _).symm.trans H; with_reducible exact H2_) | with_reducible exact H | (rw [hy164]; exact H) | exact H
                  have Ny164 := Aside0.mk hy164
                  clear hy164
                  have H' := Aside0.mk H
                  clear H
                  have p163 : 0 ≤ (x8_1 : Int) := of_decide_eq_true (by first | (with_reducible assumption) | assumption)
                  have q163 : x8_1 < (l0.length : Int) := of_decide_eq_true (by first | (with_reducible assumption) | assumption)
                  obtain ⟨ad163, e163, hx163_0⟩ := Kd.at_bool HR0.out x8_1 p163 q163
                  (try rw [← Nbq40.out] at hx163_0)
                  cases e163
                  replace hx163_0 := (HB.out.cell (World.block_lt_of_cell? w _ hx163_0)).trans hx163_0
                  replace p163 := eq_true p163
                  replace q163 := eq_true q163
                  go_wp2_with (first | ((with_reducible refine gate_builtin (b := .append) (xs := #[.tmp 15, .tmp 63]) rfl ?_); at_builtin; refine Kd.R_append Kd.bool (w0 := w) w.heap.size rfl (.tmp 15) (.tmp 63) 27 4 (.bool false) 1 rfl Tryd.underlying27 info4 rfl (by decide) (by omega) u7 x7_1 true [.bool true] (fun _ => True) (fun _ => False) rfl rfl ?aP (fun _ hk => hk.elim) ?aF ?aO ?aB ?aS ?aL ?_; (case aP => exact rfl); (case aB => exact (by repeat (first | (with_reducible first | exact HB.out | apply below_alloc | apply pw_below_drewN | apply below_drew1) | exact HB.out))); (case aF => exact (fun _ _ => trivial)); (case aO => exact (by (with_reducible repeat (first | apply Kd.R_alloc | apply Kd.R_drewN | apply Kd.R_drew)); exact HO_7.out)); (case aS => exact (below_size (by repeat (first | (with_reducible first | exact HB.out | apply below_alloc | apply pw_below_drewN | apply below_drew1) | exact HB.out)))); (case aL => have := LMc42.out; omega); intro v165 w43 ho hb hg hat; rw [← Ny164.out] at ho; have n0_ := Aside0.mk (hb); have n1_ := Aside0.mk (ho); clear HB; clear HO_7; have HB := n0_; have HO166 := n1_; clear n0_ n1_; clear ho hb hg hat))
                  go_roundg k1
                  case measure => have := HK1.out; omega
                  case rel => exact ⟨(y164), (wrap64 (x8_1 + 1)), (by first | rfl | (simp; done) | (simp [*]; done)), H', ⟨by have := HK1.out; omega⟩, ⟨by (with_reducible repeat (first | apply Kd.R_alloc | apply Kd.R_drewN | apply Kd.R_drew)); exact HO166.out⟩, ⟨by repeat (first | (with_reducible first | exact HB.out | apply below_alloc | apply pw_below_drewN | apply below_drew1) | exact HB.out)⟩⟩
                · rw [if_neg c42] at H
                  exact absurd H (by simp)
              · replace c41 := Bool.eq_false_iff.mpr c41
                subst c41
                have H1 : (if x8_1 < (l1.length : Int) then (if rdOf false l1 x8_1 = true then (if x7_1.length < 140737488355328 then (waystoneref06_Both.l0 k1 l0 l1 a2 (x7_1 ++ [true]) (wrap64 (x8_1 + 1))) else (none)) else (if a2 = 3 then (if x7_1.length < 140737488355328 then (waystoneref06_Both.l0 k1 l0 l1 a2 (x7_1 ++ [false]) (wrap64 (x8_1 + 1))) else (none)) else (if x7_1.length < 140737488355328 then (waystoneref06_Both.l0 k1 l0 l1 a2 (x7_1 ++ [false]) (wrap64 (x8_1 + 1))) else (none)))) else (none)) = some r := by rw [if_neg (show ¬ (false = true) by decide)] at H; exact H
                clear H
                have H := H1
                clear H1
                by_cases c44 : x8_1 < (l1.length : Int)
                · rw [if_pos c44] at H
                  have c44b0 : decide (x8_1 < (l1.length : Int)) = true := decide_eq_true c44
                  clear c44
                  obtain ⟨bq45, hbq45⟩ : ∃ b_ : Bool, b_ = (rdOf false l1 x8_1) := ⟨_, rfl⟩
                  replace H : (if bq45 = true then (if x7_1.length < 140737488355328 then (waystoneref06_Both.l0 k1 l0 l1 a2 (x7_1 ++ [true]) (wrap64 (x8_1 + 1))) else (none)) else (if a2 = 3 then (if x7_1.length < 140737488355328 then (waystoneref06_Both.l0 k1 l0 l1 a2 (x7_1 ++ [false]) (wrap64 (x8_1 + 1))) else (none)) else (if x7_1.length < 140737488355328 then (waystoneref06_Both.l0 k1 l0 l1 a2 (x7_1 ++ [false]) (wrap64 (x8_1 + 1))) else (none)))) = some r := by rw [← hbq45] at H; exact H
                  have Nbq45 := Aside0.mk hbq45
                  clear hbq45
                  by_cases c46 : bq45 = true
                  · subst c46
                    have H1 : (if x7_1.length < 140737488355328 then (waystoneref06_Both.l0 k1 l0 l1 a2 (x7_1 ++ [true]) (wrap64 (x8_1 + 1))) else (none)) = some r := by rw [if_pos rfl] at H; exact H
                    clear H
                    have H := H1
                    clear H1
                    by_cases c47 : x7_1.length < 140737488355328
                    · rw [if_pos c47] at H
                      have LMc47 := Aside0.mk c47
                      clear c47
                      obtain ⟨y168, hy168⟩ : ∃ y_ : List Bool, y_ = (x7_1 ++ [true]) := ⟨_, rfl⟩
                      replace H : (waystoneref06_Both.l0 k1 l0 l1 a2 y168 (wrap64 (x8_1 + 1))) = some r := by first | (rw [hy168]; with_reducible exact H) | (have H2_ := (Option.bind_some _ _).symm.trans H; rw [hy168]; with_reducible exact H2_) | (have H2_ := (Option.bind_some _ _).symm.trans H; with_reducible exact H2_) | with_reducible exact H | (rw [hy168]; exact H) | exact H
                      have Ny168 := Aside0.mk hy168
                      clear hy168
                      have H' := Aside0.mk H
                      clear H
                      have p163 : 0 ≤ (x8_1 : Int) := of_decide_eq_true (by first | (with_reducible assumption) | assumption)
                      have q163 : x8_1 < (l0.length : Int) := of_decide_eq_true (by first | (with_reducible assumption) | assumption)
                      obtain ⟨ad163, e163, hx163_0⟩ := Kd.at_bool HR0.out x8_1 p163 q163
                      (try rw [← Nbq40.out] at hx163_0)
                      (try rw [← Nbq45.out] at hx163_0)
                      cases e163
                      replace hx163_0 := (HB.out.cell (World.block_lt_of_cell? w _ hx163_0)).trans hx163_0
                      replace p163 := eq_true p163
                      replace q163 := eq_true q163
                      have p167 : 0 ≤ (x8_1 : Int) := of_decide_eq_true (by first | (with_reducible assumption) | assumption)
                      have q167 : x8_1 < (l1.length : Int) := of_decide_eq_true (by first | (with_reducible assumption) | assumption)
                      obtain ⟨ad167, e167, hx167_0⟩ := Kd.at_bool HR1.out x8_1 p167 q167
                      (try rw [← Nbq40.out] at hx167_0)
                      (try rw [← Nbq45.out] at hx167_0)
                      cases e167
                      replace hx167_0 := (HB.out.cell (World.block_lt_of_cell? w _ hx167_0)).trans hx167_0
                      replace p167 := eq_true p167
                      replace q167 := eq_true q167
                      go_wp2_with (first | ((with_reducible refine gate_builtin (b := .append) (xs := #[.tmp 15, .tmp 63]) rfl ?_); at_builtin; refine Kd.R_append Kd.bool (w0 := w) w.heap.size rfl (.tmp 15) (.tmp 63) 27 4 (.bool false) 1 rfl Tryd.underlying27 info4 rfl (by decide) (by omega) u7 x7_1 true [.bool true] (fun _ => True) (fun _ => False) rfl rfl ?aP (fun _ hk => hk.elim) ?aF ?aO ?aB ?aS ?aL ?_; (case aP => exact rfl); (case aB => exact (by repeat (first | (with_reducible first | exact HB.out | apply below_alloc | apply pw_below_drewN | apply below_drew1) | exact HB.out))); (case aF => exact (fun _ _ => trivial)); (case aO => exact (by (with_reducible repeat (first | apply Kd.R_alloc | apply Kd.R_drewN | apply Kd.R_drew)); exact HO_7.out)); (case aS => exact (below_size (by repeat (first | (with_reducible first | exact HB.out | apply below_alloc | apply pw_below_drewN | apply below_drew1) | exact HB.out)))); (case aL => have := LMc47.out; omega); intro v169 w48 ho hb hg hat; rw [← Ny168.out] at ho; have n0_ := Aside0.mk (hb); have n1_ := Aside0.mk (ho); clear HB; clear HO_7; have HB := n0_; have HO170 := n1_; clear n0_ n1_; clear ho hb hg hat))
                      go_roundg k1
                      case measure => have := HK1.out; omega
                      case rel => exact ⟨(y168), (wrap64 (x8_1 + 1)), (by first | rfl | (simp; done) | (simp [*]; done)), H', ⟨by have := HK1.out; omega⟩, ⟨by (with_reducible repeat (first | apply Kd.R_alloc | apply Kd.R_drewN | apply Kd.R_drew)); exact HO170.out⟩, ⟨by repeat (first | (with_reducible first | exact HB.out | apply below_alloc | apply pw_below_drewN | apply below_drew1) | exact HB.out)⟩⟩
                    · rw [if_neg c47] at H
                      exact absurd H (by simp)
                  · replace c46 := Bool.eq_false_iff.mpr c46
                    subst c46
                    have H1 : (if a2 = 3 then (if x7_1.length < 140737488355328 then (waystoneref06_Both.l0 k1 l0 l1 a2 (x7_1 ++ [false]) (wrap64 (x8_1 + 1))) else (none)) else (if x7_1.length < 140737488355328 then (waystoneref06_Both.l0 k1 l0 l1 a2 (x7_1 ++ [false]) (wrap64 (x8_1 + 1))) else (none))) = some r := by rw [if_neg (show ¬ (false = true) by decide)] at H; exact H
                    clear H
                    have H := H1
                    clear H1
                    by_cases c49 : a2 = 3
                    · rw [if_pos c49] at H
                      have c49b0 : (a2 == 3) = true := beq_iff_eq.mpr c49
                      have c49b1 : (a2 != 3) = false := bne_eq_false_iff_eq.mpr c49
                      clear c49
                      by_cases c50 : x7_1.length < 140737488355328
                      · rw [if_pos c50] at H
                        have LMc50 := Aside0.mk c50
                        clear c50
                        obtain ⟨y172, hy172⟩ : ∃ y_ : List Bool, y_ = (x7_1 ++ [false]) := ⟨_, rfl⟩
                        replace H : (waystoneref06_Both.l0 k1 l0 l1 a2 y172 (wrap64 (x8_1 + 1))) = some r := by first | (rw [hy172]; with_reducible exact H) | (have H2_ := (Option.bind_some _ _).symm.trans H; rw [hy172]; with_reducible exact H2_) | (have H2_ := (Option.bind_some _ _).symm.trans H; with_reducible exact H2_) | with_reducible exact H | (rw [hy172]; exact H) | exact H
                        have Ny172 := Aside0.mk hy172
                        clear hy172
                        have H' := Aside0.mk H
                        clear H
                        have p163 : 0 ≤ (x8_1 : Int) := of_decide_eq_true (by first | (with_reducible assumption) | assumption)
                        have q163 : x8_1 < (l0.length : Int) := of_decide_eq_true (by first | (with_reducible assumption) | assumption)
                        obtain ⟨ad163, e163, hx163_0⟩ := Kd.at_bool HR0.out x8_1 p163 q163
                        (try rw [← Nbq40.out] at hx163_0)
                        (try rw [← Nbq45.out] at hx163_0)
                        cases e163
                        replace hx163_0 := (HB.out.cell (World.block_lt_of_cell? w _ hx163_0)).trans hx163_0
                        replace p163 := eq_true p163
                        replace q163 := eq_true q163
                        have p167 : 0 ≤ (x8_1 : Int) := of_decide_eq_true (by first | (with_reducible assumption) | assumption)
                        have q167 : x8_1 < (l1.length : Int) := of_decide_eq_true (by first | (with_reducible assumption) | assumption)
                        obtain ⟨ad167, e167, hx167_0⟩ := Kd.at_bool HR1.out x8_1 p167 q167
                        (try rw [← Nbq40.out] at hx167_0)
                        (try rw [← Nbq45.out] at hx167_0)
                        cases e167
                        replace hx167_0 := (HB.out.cell (World.block_lt_of_cell? w _ hx167_0)).trans hx167_0
                        replace p167 := eq_true p167
                        replace q167 := eq_true q167
                        have p171 : 0 ≤ (x8_1 : Int) := of_decide_eq_true (by first | (with_reducible assumption) | assumption)
                        have q171 : x8_1 < (l0.length : Int) := of_decide_eq_true (by first | (with_reducible assumption) | assumption)
                        obtain ⟨ad171, e171, hx171_0⟩ := Kd.at_bool HR0.out x8_1 p171 q171
                        (try rw [← Nbq40.out] at hx171_0)
                        (try rw [← Nbq45.out] at hx171_0)
                        obtain rfl : ad163 = ad171 := (by injection e171)
                        replace hx171_0 := (HB.out.cell (World.block_lt_of_cell? w _ hx171_0)).trans hx171_0
                        replace p171 := eq_true p171
                        replace q171 := eq_true q171
                        go_wp2_with (first | ((with_reducible refine gate_builtin (b := .append) (xs := #[.tmp 15, .tmp 63]) rfl ?_); at_builtin; refine Kd.R_append Kd.bool (w0 := w) w.heap.size rfl (.tmp 15) (.tmp 63) 27 4 (.bool false) 1 rfl Tryd.underlying27 info4 rfl (by decide) (by omega) u7 x7_1 false [.bool false] (fun _ => True) (fun _ => False) rfl rfl ?aP (fun _ hk => hk.elim) ?aF ?aO ?aB ?aS ?aL ?_; (case aP => exact rfl); (case aB => exact (by repeat (first | (with_reducible first | exact HB.out | apply below_alloc | apply pw_below_drewN | apply below_drew1) | exact HB.out))); (case aF => exact (fun _ _ => trivial)); (case aO => exact (by (with_reducible repeat (first | apply Kd.R_alloc | apply Kd.R_drewN | apply Kd.R_drew)); exact HO_7.out)); (case aS => exact (below_size (by repeat (first | (with_reducible first | exact HB.out | apply below_alloc | apply pw_below_drewN | apply below_drew1) | exact HB.out)))); (case aL => have := LMc50.out; omega); intro v173 w51 ho hb hg hat; rw [← Ny172.out] at ho; have n0_ := Aside0.mk (hb); have n1_ := Aside0.mk (ho); clear HB; clear HO_7; have HB := n0_; have HO174 := n1_; clear n0_ n1_; clear ho hb hg hat))
                        go_roundg k1
                        case measure => have := HK1.out; omega
                        case rel => exact ⟨(y172), (wrap64 (x8_1 + 1)), (by first | rfl | (simp; done) | (simp [*]; done)), H', ⟨by have := HK1.out; omega⟩, ⟨by (with_reducible repeat (first | apply Kd.R_alloc | apply Kd.R_drewN | apply Kd.R_drew)); exact HO174.out⟩, ⟨by repeat (first | (with_reducible first | exact HB.out | apply below_alloc | apply pw_below_drewN | apply below_drew1) | exact HB.out)⟩⟩
                      · rw [if_neg c50] at H
                        exact absurd H (by simp)
                    · rw [if_neg c49] at H
                      have c49b0 : (a2 == 3) = false := beq_eq_false_iff_ne.mpr c49
                      have c49b1 : (a2 != 3) = true := bne_iff_ne.mpr c49
                      by_cases c52 : x7_1.length < 140737488355328
                      · rw [if_pos c52] at H
                        have LMc52 := Aside0.mk c52
                        clear c52
                        obtain ⟨y175, hy175⟩ : ∃ y_ : List Bool, y_ = (x7_1 ++ [false]) := ⟨_, rfl⟩
                        replace H : (waystoneref06_Both.l0 k1 l0 l1 a2 y175 (wrap64 (x8_1 + 1))) = some r := by first | (rw [hy175]; with_reducible exact H) | (have H2_ := (Option.bind_some _ _).symm.trans H; rw [hy175]; with_reducible exact H2_) | (have H2_ := (Option.bind_some _ _).symm.trans H; with_reducible exact H2_) | with_reducible exact H | (rw [hy175]; exact H) | exact H
                        have Ny175 := Aside0.mk hy175
                        clear hy175
                        have H' := Aside0.mk H
                        clear H
                        have p163 : 0 ≤ (x8_1 : Int) := of_decide_eq_true (by first | (with_reducible assumption) | assumption)
                        have q163 : x8_1 < (l0.length : Int) := of_decide_eq_true (by first | (with_reducible assumption) | assumption)
                        obtain ⟨ad163, e163, hx163_0⟩ := Kd.at_bool HR0.out x8_1 p163 q163
                        (try rw [← Nbq40.out] at hx163_0)
                        (try rw [← Nbq45.out] at hx163_0)
                        cases e163
                        replace hx163_0 := (HB.out.cell (World.block_lt_of_cell? w _ hx163_0)).trans hx163_0
                        replace p163 := eq_true p163
                        replace q163 := eq_true q163
                        have p167 : 0 ≤ (x8_1 : Int) := of_decide_eq_true (by first | (with_reducible assumption) | assumption)
                        have q167 : x8_1 < (l1.length : Int) := of_decide_eq_true (by first | (with_reducible assumption) | assumption)
                        obtain ⟨ad167, e167, hx167_0⟩ := Kd.at_bool HR1.out x8_1 p167 q167
                        (try rw [← Nbq40.out] at hx167_0)
                        (try rw [← Nbq45.out] at hx167_0)
                        cases e167
                        replace hx167_0 := (HB.out.cell (World.block_lt_of_cell? w _ hx167_0)).trans hx167_0
                        replace p167 := eq_true p167
                        replace q167 := eq_true q167
                        go_wp2_with (first | ((with_reducible refine gate_builtin (b := .append) (xs := #[.tmp 15, .tmp 63]) rfl ?_); at_builtin; refine Kd.R_append Kd.bool (w0 := w) w.heap.size rfl (.tmp 15) (.tmp 63) 27 4 (.bool false) 1 rfl Tryd.underlying27 info4 rfl (by decide) (by omega) u7 x7_1 false [.bool false] (fun _ => True) (fun _ => False) rfl rfl ?aP (fun _ hk => hk.elim) ?aF ?aO ?aB ?aS ?aL ?_; (case aP => exact rfl); (case aB => exact (by repeat (first | (with_reducible first | exact HB.out | apply below_alloc | apply pw_below_drewN | apply below_drew1) | exact HB.out))); (case aF => exact (fun _ _ => trivial)); (case aO => exact (by (with_reducible repeat (first | apply Kd.R_alloc | apply Kd.R_drewN | apply Kd.R_drew)); exact HO_7.out)); (case aS => exact (below_size (by repeat (first | (with_reducible first | exact HB.out | apply below_alloc | apply pw_below_drewN | apply below_drew1) | exact HB.out)))); (case aL => have := LMc52.out; omega); intro v176 w53 ho hb hg hat; rw [← Ny175.out] at ho; have n0_ := Aside0.mk (hb); have n1_ := Aside0.mk (ho); clear HB; clear HO_7; have HB := n0_; have HO177 := n1_; clear n0_ n1_; clear ho hb hg hat))
                        go_roundg k1
                        case measure => have := HK1.out; omega
                        case rel => exact ⟨(y175), (wrap64 (x8_1 + 1)), (by first | rfl | (simp; done) | (simp [*]; done)), H', ⟨by have := HK1.out; omega⟩, ⟨by (with_reducible repeat (first | apply Kd.R_alloc | apply Kd.R_drewN | apply Kd.R_drew)); exact HO177.out⟩, ⟨by repeat (first | (with_reducible first | exact HB.out | apply below_alloc | apply pw_below_drewN | apply below_drew1) | exact HB.out)⟩⟩
                      · rw [if_neg c52] at H
                        exact absurd H (by simp)
                · rw [if_neg c44] at H
                  exact absurd H (by simp)
            · rw [if_neg c39] at H
              exact absurd H (by simp)
          · rw [if_neg c38] at H
            have c38b0 : (a2 == 2) = false := beq_eq_false_iff_ne.mpr c38
            have c38b1 : (a2 != 2) = true := bne_iff_ne.mpr c38
            by_cases c54 : a2 = 3
            · rw [if_pos c54] at H
              have c54b0 : (a2 == 3) = true := beq_iff_eq.mpr c54
              have c54b1 : (a2 != 3) = false := bne_eq_false_iff_eq.mpr c54
              clear c54
              by_cases c55 : 0 ≤ x8_1
              · rw [if_pos c55] at H
                have c55b0 : decide (0 ≤ x8_1) = true := decide_eq_true c55
                clear c55
                obtain ⟨bq56, hbq56⟩ : ∃ b_ : Bool, b_ = (rdOf false l0 x8_1) := ⟨_, rfl⟩
                replace H : (if bq56 = true then (if x8_1 < (l1.length : Int) then (if x7_1.length < 140737488355328 then (waystoneref06_Both.l0 k1 l0 l1 a2 (x7_1 ++ [!(rdOf false l1 x8_1)]) (wrap64 (x8_1 + 1))) else (none)) else (none)) else (if x7_1.length < 140737488355328 then (waystoneref06_Both.l0 k1 l0 l1 a2 (x7_1 ++ [false]) (wrap64 (x8_1 + 1))) else (none))) = some r := by rw [← hbq56] at H; exact H
                have Nbq56 := Aside0.mk hbq56
                clear hbq56
                by_cases c57 : bq56 = true
                · subst c57
                  have H1 : (if x8_1 < (l1.length : Int) then (if x7_1.length < 140737488355328 then (waystoneref06_Both.l0 k1 l0 l1 a2 (x7_1 ++ [!(rdOf false l1 x8_1)]) (wrap64 (x8_1 + 1))) else (none)) else (none)) = some r := by rw [if_pos rfl] at H; exact H
                  clear H
                  have H := H1
                  clear H1
                  by_cases c58 : x8_1 < (l1.length : Int)
                  · rw [if_pos c58] at H
                    have c58b0 : decide (x8_1 < (l1.length : Int)) = true := decide_eq_true c58
                    clear c58
                    by_cases c59 : x7_1.length < 140737488355328
                    · rw [if_pos c59] at H
                      have LMc59 := Aside0.mk c59
                      clear c59
                      obtain ⟨y180, hy180⟩ : ∃ y_ : List Bool, y_ = (x7_1 ++ [!(rdOf false l1 x8_1)]) := ⟨_, rfl⟩
                      replace H : (waystoneref06_Both.l0 k1 l0 l1 a2 y180 (wrap64 (x8_1 + 1))) = some r := by first | (rw [hy180]; with_reducible exact H) | (have H2_ := (Option.bind_some _ _).symm.trans H; rw [hy180]; with_reducible exact H2_) | (have H2_ := (Option.bind_some _ _).symm.trans H; with_reducible exact H2_) | with_reducible exact H | (rw [hy180]; exact H) | exact H
                      have Ny180 := Aside0.mk hy180
                      clear hy180
                      have H' := Aside0.mk H
                      clear H
                      have p178 : 0 ≤ (x8_1 : Int) := of_decide_eq_true (by first | (with_reducible assumption) | assumption)
                      have q178 : x8_1 < (l0.length : Int) := of_decide_eq_true (by first | (with_reducible assumption) | assumption)
                      obtain ⟨ad178, e178, hx178_0⟩ := Kd.at_bool HR0.out x8_1 p178 q178
                      (try rw [← Nbq56.out] at hx178_0)
                      cases e178
                      replace hx178_0 := (HB.out.cell (World.block_lt_of_cell? w _ hx178_0)).trans hx178_0
                      replace p178 := eq_true p178
                      replace q178 := eq_true q178
                      have p179 : 0 ≤ (x8_1 : Int) := of_decide_eq_true (by first | (with_reducible assumption) | assumption)
                      have q179 : x8_1 < (l1.length : Int) := of_decide_eq_true (by first | (with_reducible assumption) | assumption)
                      obtain ⟨ad179, e179, hx179_0⟩ := Kd.at_bool HR1.out x8_1 p179 q179
                      (try rw [← Nbq56.out] at hx179_0)
                      cases e179
                      replace hx179_0 := (HB.out.cell (World.block_lt_of_cell? w _ hx179_0)).trans hx179_0
                      replace p179 := eq_true p179
                      replace q179 := eq_true q179
                      go_wp2_with (first | ((with_reducible refine gate_builtin (b := .append) (xs := #[.tmp 15, .tmp 63]) rfl ?_); at_builtin; refine Kd.R_append Kd.bool (w0 := w) w.heap.size rfl (.tmp 15) (.tmp 63) 27 4 (.bool false) 1 rfl Tryd.underlying27 info4 rfl (by decide) (by omega) u7 x7_1 (!(rdOf false l1 x8_1)) [.bool (!(rdOf false l1 x8_1))] (fun _ => True) (fun _ => False) rfl rfl ?aP (fun _ hk => hk.elim) ?aF ?aO ?aB ?aS ?aL ?_; (case aP => exact rfl); (case aB => exact (by repeat (first | (with_reducible first | exact HB.out | apply below_alloc | apply pw_below_drewN | apply below_drew1) | exact HB.out))); (case aF => exact (fun _ _ => trivial)); (case aO => exact (by (with_reducible repeat (first | apply Kd.R_alloc | apply Kd.R_drewN | apply Kd.R_drew)); exact HO_7.out)); (case aS => exact (below_size (by repeat (first | (with_reducible first | exact HB.out | apply below_alloc | apply pw_below_drewN | apply below_drew1) | exact HB.out)))); (case aL => have := LMc59.out; omega); intro v181 w60 ho hb hg hat; rw [← Ny180.out] at ho; have n0_ := Aside0.mk (hb); have n1_ := Aside0.mk (ho); clear HB; clear HO_7; have HB := n0_; have HO182 := n1_; clear n0_ n1_; clear ho hb hg hat))
                      go_roundg k1
                      case measure => have := HK1.out; omega
                      case rel => exact ⟨(y180), (wrap64 (x8_1 + 1)), (by first | rfl | (simp; done) | (simp [*]; done)), H', ⟨by have := HK1.out; omega⟩, ⟨by (with_reducible repeat (first | apply Kd.R_alloc | apply Kd.R_drewN | apply Kd.R_drew)); exact HO182.out⟩, ⟨by repeat (first | (with_reducible first | exact HB.out | apply below_alloc | apply pw_below_drewN | apply below_drew1) | exact HB.out)⟩⟩
                    · rw [if_neg c59] at H
                      exact absurd H (by simp)
                  · rw [if_neg c58] at H
                    exact absurd H (by simp)
                · replace c57 := Bool.eq_false_iff.mpr c57
                  subst c57
                  have H1 : (if x7_1.length < 140737488355328 then (waystoneref06_Both.l0 k1 l0 l1 a2 (x7_1 ++ [false]) (wrap64 (x8_1 + 1))) else (none)) = some r := by rw [if_neg (show ¬ (false = true) by decide)] at H; exact H
                  clear H
                  have H := H1
                  clear H1
                  by_cases c61 : x7_1.length < 140737488355328
                  · rw [if_pos c61] at H
                    have LMc61 := Aside0.mk c61
                    clear c61
                    obtain ⟨y183, hy183⟩ : ∃ y_ : List Bool, y_ = (x7_1 ++ [false]) := ⟨_, rfl⟩
                    replace H : (waystoneref06_Both.l0 k1 l0 l1 a2 y183 (wrap64 (x8_1 + 1))) = some r := by first | (rw [hy183]; with_reducible exact H) | (have H2_ := (Option.bind_some _ _).symm.trans H; rw [hy183]; with_reducible exact H2_) | (have H2_ := (Option.bind_some _ _).symm.trans H; with_reducible exact H2_) | with_reducible exact H | (rw [hy183]; exact H) | exact H
                    have Ny183 := Aside0.mk hy183
                    clear hy183
                    have H' := Aside0.mk H
                    clear H
                    have p178 : 0 ≤ (x8_1 : Int) := of_decide_eq_true (by first | (with_reducible assumption) | assumption)
                    have q178 : x8_1 < (l0.length : Int) := of_decide_eq_true (by first | (with_reducible assumption) | assumption)
                    obtain ⟨ad178, e178, hx178_0⟩ := Kd.at_bool HR0.out x8_1 p178 q178
                    (try rw [← Nbq56.out] at hx178_0)
                    cases e178
                    replace hx178_0 := (HB.out.cell (World.block_lt_of_cell? w _ hx178_0)).trans hx178_0
                    replace p178 := eq_true p178
                    replace q178 := eq_true q178
                    go_wp2_with (first | ((with_reducible refine gate_builtin (b := .append) (xs := #[.tmp 15, .tmp 63]) rfl ?_); at_builtin; refine Kd.R_append Kd.bool (w0 := w) w.heap.size rfl (.tmp 15) (.tmp 63) 27 4 (.bool false) 1 rfl Tryd.underlying27 info4 rfl (by decide) (by omega) u7 x7_1 false [.bool false] (fun _ => True) (fun _ => False) rfl rfl ?aP (fun _ hk => hk.elim) ?aF ?aO ?aB ?aS ?aL ?_; (case aP => exact rfl); (case aB => exact (by repeat (first | (with_reducible first | exact HB.out | apply below_alloc | apply pw_below_drewN | apply below_drew1) | exact HB.out))); (case aF => exact (fun _ _ => trivial)); (case aO => exact (by (with_reducible repeat (first | apply Kd.R_alloc | apply Kd.R_drewN | apply Kd.R_drew)); exact HO_7.out)); (case aS => exact (below_size (by repeat (first | (with_reducible first | exact HB.out | apply below_alloc | apply pw_below_drewN | apply below_drew1) | exact HB.out)))); (case aL => have := LMc61.out; omega); intro v184 w62 ho hb hg hat; rw [← Ny183.out] at ho; have n0_ := Aside0.mk (hb); have n1_ := Aside0.mk (ho); clear HB; clear HO_7; have HB := n0_; have HO185 := n1_; clear n0_ n1_; clear ho hb hg hat))
                    go_roundg k1
                    case measure => have := HK1.out; omega
                    case rel => exact ⟨(y183), (wrap64 (x8_1 + 1)), (by first | rfl | (simp; done) | (simp [*]; done)), H', ⟨by have := HK1.out; omega⟩, ⟨by (with_reducible repeat (first | apply Kd.R_alloc | apply Kd.R_drewN | apply Kd.R_drew)); exact HO185.out⟩, ⟨by repeat (first | (with_reducible first | exact HB.out | apply below_alloc | apply pw_below_drewN | apply below_drew1) | exact HB.out)⟩⟩
                  · rw [if_neg c61] at H
                    exact absurd H (by simp)
              · rw [if_neg c55] at H
                exact absurd H (by simp)
            · rw [if_neg c54] at H
              have c54b0 : (a2 == 3) = false := beq_eq_false_iff_ne.mpr c54
              have c54b1 : (a2 != 3) = true := bne_iff_ne.mpr c54
              by_cases c63 : x7_1.length < 140737488355328
              · rw [if_pos c63] at H
                have LMc63 := Aside0.mk c63
                clear c63
                obtain ⟨y186, hy186⟩ : ∃ y_ : List Bool, y_ = (x7_1 ++ [false]) := ⟨_, rfl⟩
                replace H : (waystoneref06_Both.l0 k1 l0 l1 a2 y186 (wrap64 (x8_1 + 1))) = some r := by first | (rw [hy186]; with_reducible exact H) | (have H2_ := (Option.bind_some _ _).symm.trans H; rw [hy186]; with_reducible exact H2_) | (have H2_ := (Option.bind_some _ _).symm.trans H; with_reducible exact H2_) | with_reducible exact H | (rw [hy186]; exact H) | exact H
                have Ny186 := Aside0.mk hy186
                clear hy186
                have H' := Aside0.mk H
                clear H
                go_wp2_with (first | ((with_reducible refine gate_builtin (b := .append) (xs := #[.tmp 15, .tmp 63]) rfl ?_); at_builtin; refine Kd.R_append Kd.bool (w0 := w) w.heap.size rfl (.tmp 15) (.tmp 63) 27 4 (.bool false) 1 rfl Tryd.underlying27 info4 rfl (by decide) (by omega) u7 x7_1 false [.bool false] (fun _ => True) (fun _ => False) rfl rfl ?aP (fun _ hk => hk.elim) ?aF ?aO ?aB ?aS ?aL ?_; (case aP => exact rfl); (case aB => exact (by repeat (first | (with_reducible first | exact HB.out | apply below_alloc | apply pw_below_drewN | apply below_drew1) | exact HB.out))); (case aF => exact (fun _ _ => trivial)); (case aO => exact (by (with_reducible repeat (first | apply Kd.R_alloc | apply Kd.R_drewN | apply Kd.R_drew)); exact HO_7.out)); (case aS => exact (below_size (by repeat (first | (with_reducible first | exact HB.out | apply below_alloc | apply pw_below_drewN | apply below_drew1) | exact HB.out)))); (case aL => have := LMc63.out; omega); intro v187 w64 ho hb hg hat; rw [← Ny186.out] at ho; have n0_ := Aside0.mk (hb); have n1_ := Aside0.mk (ho); clear HB; clear HO_7; have HB := n0_; have HO188 := n1_; clear n0_ n1_; clear ho hb hg hat))
                go_roundg k1
                case measure => have := HK1.out; omega
                case rel => exact ⟨(y186), (wrap64 (x8_1 + 1)), (by first | rfl | (simp; done) | (simp [*]; done)), H', ⟨by have := HK1.out; omega⟩, ⟨by (with_reducible repeat (first | apply Kd.R_alloc | apply Kd.R_drewN | apply Kd.R_drew)); exact HO188.out⟩, ⟨by repeat (first | (with_reducible first | exact HB.out | apply below_alloc | apply pw_below_drewN | apply below_drew1) | exact HB.out)⟩⟩
              · rw [if_neg c63] at H
                exact absurd H (by simp)
      · rw [if_neg c4] at H
        have c4b0 : decide (x8_1 < (l0.length : Int)) = false := decide_eq_false c4
        clear c4
        obtain rfl := Option.some.inj H
        go_wp2
        go_ret
        exact ⟨_, by first | rfl | (simp [errW_none, errW_some] <;> rfl) | (simp [*, errW_none, errW_some] <;> rfl), by (with_reducible repeat (first | apply Kd.R_alloc | apply Kd.R_drewN | apply Kd.R_drew)); exact HO_7.out, by repeat (first | (with_reducible first | exact HB.out | apply below_alloc | apply pw_below_drewN | apply below_drew1) | exact HB.out)⟩

-- NOT PRINTED: function 6 (waystonelaw06_BitsBoth)

-- NOT PRINTED: function 7 (waystonelaw06_BitsLaws)

end Go.Proofs.YtdhkhbejedndoaaDoor.P
