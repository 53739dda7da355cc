-- By myprint.py (a session's own program over the kit's print.py; some functions' texts are by hand). Lean checks it.
import Derived.Test.YtjfbiabgeickjaaPx0
import Derived.Test.YtjfbiabgeickjaaPx1
import Derived.Test.YtjfbiabgeickjaaPx4
namespace Go.Proofs.Ytjfbiabgeickjaa.P
open Go.RowKit Go.Proofs.YtjfbiabgeickjaaW.PrintWords Go.Proofs.YtjfbiabgeickjaaW.PrintLast Go.Proofs.YtjfbiabgeickjaaW.PrintMore
attribute [local go_sem] max2_int min2_int max_two min_two max_three min_three max_four min_four   -- for this text's walks alone
set_option linter.unusedVariables false
set_option linter.unusedSimpArgs false

attribute [local go_sem high] eqA30
/-! ### waystoneref05_Ranges: function 24 -/
mutual
def waystoneref05_Ranges.l0 : Nat → List (S30) → List (S30) → Int → Option ((List (S30)))
  | 0, _, _, _ => none
  | k + 1, x0, x3, x4 => if x4 < (x0.length : Int) then (waystoneref05_Ranges.l1 k x0 x3 x4 0 true) else (some x3)
def waystoneref05_Ranges.l1 : Nat → List (S30) → List (S30) → Int → Int → Bool → Option ((List (S30)))
  | 0, _, _, _, _, _ => none
  | k + 1, x0, x3, x4, x5, x6 => if x5 < (x3.length : Int) then (waystoneref05_Ranges.j2 k x0 x3 x4 x5 x6) else (waystoneref05_Ranges.j2 k x0 x3 x4 x5 false)
def waystoneref05_Ranges.j2 : Nat → List (S30) → List (S30) → Int → Int → Bool → Option ((List (S30)))
  | 0, _, _, _, _, _ => none
  | k + 1, x0, x3, x4, x5, x20 => if x20 = true then (if 0 ≤ x5 then (if x5 < (x3.length : Int) then (if 0 ≤ x4 then (if x4 < (x0.length : Int) then ((waystoneref05_less.f ((rd_T30 x3 x5).f0) ((rd_T30 x3 x5).f1) ((rd_T30 x0 x4).f0) ((rd_T30 x0 x4).f1)).bind fun t172 => (if t172 = true then (waystoneref05_Ranges.l1 k x0 x3 x4 (wrap64 (x5 + 1)) t172) else (waystoneref05_Ranges.l1 k x0 x3 x4 x5 t172))) else (none)) else (none)) else (none)) else (none)) else (if x5 < (x3.length : Int) then (if 0 ≤ x5 then (if 0 ≤ x4 then (if x4 < (x0.length : Int) then (if (((rd_T30 x3 x5).f0) == ((rd_T30 x0 x4).f0) && (((rd_T30 x3 x5).f1) == ((rd_T30 x0 x4).f1))) = true then (waystoneref05_Ranges.l0 k x0 x3 (wrap64 (x4 + 1))) else ((some (([] : List (S30)) : List (S30))).bind fun y175 => (if x5 ≤ (x3.length : Int) then ((some (x3.take (x5 : Int).toNat : List (S30))).bind fun y178 => (if y175.length + y178.length < 17592186044416 then ((some (y175 ++ y178 : List (S30))).bind fun y182 => (if y182.length < 17592186044416 then ((some (y182 ++ [(⟨(rd_T30 x0 x4).f0, (rd_T30 x0 x4).f1⟩ : S30)] : List (S30))).bind fun y186 => ((some (x3.drop (x5 : Int).toNat : List (S30))).bind fun y189 => (if y186.length + y189.length < 17592186044416 then (waystoneref05_Ranges.l0 k x0 (y186 ++ y189) (wrap64 (x4 + 1))) else (none)))) else (none))) else (none))) else (none)))) else (none)) else (none)) else (none)) else ((some (([] : List (S30)) : List (S30))).bind fun y196 => (if 0 ≤ x5 then (if x5 ≤ (x3.length : Int) then ((some (x3.take (x5 : Int).toNat : List (S30))).bind fun y199 => (if y196.length + y199.length < 17592186044416 then ((some (y196 ++ y199 : List (S30))).bind fun y203 => (if 0 ≤ x4 then (if x4 < (x0.length : Int) then (if y203.length < 17592186044416 then ((some (y203 ++ [(⟨(rd_T30 x0 x4).f0, (rd_T30 x0 x4).f1⟩ : S30)] : List (S30))).bind fun y207 => ((some (x3.drop (x5 : Int).toNat : List (S30))).bind fun y210 => (if y207.length + y210.length < 17592186044416 then (waystoneref05_Ranges.l0 k x0 (y207 ++ y210) (wrap64 (x4 + 1))) else (none)))) else (none)) else (none)) else (none))) else (none))) else (none)) else (none))))
end
def waystoneref05_Ranges.f (k : Nat) (l0 : List (S30)) : Option ((List (S30))) := waystoneref05_Ranges.l0 k l0 ([] : List (S30)) 0
theorem waystoneref05_Ranges.mono_l : ∀ k, (∀ y0 y1 y2, LeO (waystoneref05_Ranges.l0 k y0 y1 y2) (waystoneref05_Ranges.l0 (k + 1) y0 y1 y2)) ∧ (∀ y0 y1 y2 y3 y4, LeO (waystoneref05_Ranges.l1 k y0 y1 y2 y3 y4) (waystoneref05_Ranges.l1 (k + 1) y0 y1 y2 y3 y4)) ∧ (∀ y0 y1 y2 y3 y4, LeO (waystoneref05_Ranges.j2 k y0 y1 y2 y3 y4) (waystoneref05_Ranges.j2 (k + 1) y0 y1 y2 y3 y4))
  | 0 => ⟨fun _ _ _ r h => by simp [waystoneref05_Ranges.l0] at h, fun _ _ _ _ _ r h => by simp [waystoneref05_Ranges.l1] at h, fun _ _ _ _ _ r h => by simp [waystoneref05_Ranges.j2] at h⟩
  | k + 1 => by
    obtain ⟨ih0, ih1, ih2⟩ := waystoneref05_Ranges.mono_l k
    refine ⟨?_, ?_, ?_⟩
    · intro y0 y1 y2
      unfold waystoneref05_Ranges.l0
      repeat' first
      | (with_reducible exact ih0 _ _ _)
      | (with_reducible exact ih1 _ _ _ _ _)
      | (with_reducible exact ih2 _ _ _ _ _)
      | (with_reducible exact LeO.refl _)
      | (with_reducible exact LeO.none _)
      | (with_reducible refine LeO.ite ?_ ?_)
      | (with_reducible refine LeO.bind ?_ (fun _ => ?_))
      | exact ih0 _ _ _
      | exact ih1 _ _ _ _ _
      | exact ih2 _ _ _ _ _
      | exact LeO.none _
      | refine LeO.ite ?_ ?_
      | refine LeO.bind ?_ (fun _ => ?_)
    · intro y0 y1 y2 y3 y4
      unfold waystoneref05_Ranges.l1
      repeat' first
      | (with_reducible exact ih0 _ _ _)
      | (with_reducible exact ih1 _ _ _ _ _)
      | (with_reducible exact ih2 _ _ _ _ _)
      | (with_reducible exact LeO.refl _)
      | (with_reducible exact LeO.none _)
      | (with_reducible refine LeO.ite ?_ ?_)
      | (with_reducible refine LeO.bind ?_ (fun _ => ?_))
      | exact ih0 _ _ _
      | exact ih1 _ _ _ _ _
      | exact ih2 _ _ _ _ _
      | exact LeO.none _
      | refine LeO.ite ?_ ?_
      | refine LeO.bind ?_ (fun _ => ?_)
    · intro y0 y1 y2 y3 y4
      unfold waystoneref05_Ranges.j2
      repeat' first
      | (with_reducible exact ih0 _ _ _)
      | (with_reducible exact ih1 _ _ _ _ _)
      | (with_reducible exact ih2 _ _ _ _ _)
      | (with_reducible exact LeO.refl _)
      | (with_reducible exact LeO.none _)
      | (with_reducible refine LeO.ite ?_ ?_)
      | (with_reducible refine LeO.bind ?_ (fun _ => ?_))
      | exact ih0 _ _ _
      | exact ih1 _ _ _ _ _
      | exact ih2 _ _ _ _ _
      | exact LeO.none _
      | refine LeO.ite ?_ ?_
      | refine LeO.bind ?_ (fun _ => ?_)
theorem waystoneref05_Ranges.mono : ∀ a0 k, LeO (waystoneref05_Ranges.f k a0) (waystoneref05_Ranges.f (k + 1) a0) := by
  intro a0 k
  obtain ⟨ih0, ih1, ih2⟩ := waystoneref05_Ranges.mono_l k
  unfold waystoneref05_Ranges.f
  repeat' first
      | (with_reducible exact ih0 _ _ _)
      | (with_reducible exact ih1 _ _ _ _ _)
      | (with_reducible exact ih2 _ _ _ _ _)
      | (with_reducible exact LeO.refl _)
      | (with_reducible exact LeO.none _)
      | (with_reducible refine LeO.ite ?_ ?_)
      | (with_reducible refine LeO.bind ?_ (fun _ => ?_))
      | exact ih0 _ _ _
      | exact ih1 _ _ _ _ _
      | exact ih2 _ _ _ _ _
      | exact LeO.none _
      | refine LeO.ite ?_ ?_
      | refine LeO.bind ?_ (fun _ => ?_)
def waystoneref05_Ranges.T8 : Bool × List (List Nat × List Nat) := (true, [([], []), ([], []), ([0, 1], [0, 1]), ([2], [2]), ([], []), ([], []), ([4, 5], [4, 5]), ([6], [6]), ([3, 7], [3, 7]), ([8, 8, 0, 1, 2, 3, 4, 5, 6, 7, 8], [8])])
def waystoneref05_Ranges.B8 : List Nat := [0, 0, 3, 7, 0, 0, 48, 112, 255, 511]
theorem waystoneref05_Ranges.tab8 : rtab .any (opsOf Try.f24 8) = waystoneref05_Ranges.T8 := by kernel_rfl
theorem waystoneref05_Ranges.bits8 : waitsOk waystoneref05_Ranges.T8.2 waystoneref05_Ranges.B8 = true := by kernel_rfl
def waystoneref05_Ranges.T11 : Bool × List (List Nat × List Nat) := (true, [([], []), ([], []), ([1], [1]), ([0, 2], [0, 2]), ([3], [3]), ([4], [4]), ([4], [4]), ([5, 6, 4], [4, 5, 6]), ([7, 4], [4, 7]), ([4], [4]), ([4], [4]), ([9, 10, 4], [4, 9, 10]), ([11, 4], [4, 11]), ([8, 12, 4], [4, 8, 12]), ([4, 13], [4, 13])])
def waystoneref05_Ranges.B11 : List Nat := [0, 0, 2, 7, 15, 31, 31, 127, 255, 31, 31, 1567, 3615, 8191, 16383]
theorem waystoneref05_Ranges.tab11 : rtab .any (opsOf Try.f24 11) = waystoneref05_Ranges.T11 := by kernel_rfl
theorem waystoneref05_Ranges.bits11 : waitsOk waystoneref05_Ranges.T11.2 waystoneref05_Ranges.B11 = true := by kernel_rfl
set_option maxHeartbeats 8000000 in
set_option maxRecDepth 100000 in
theorem waystoneref05_Ranges.calls (k : Nat) (A0 : Option Addr) (c0 : Nat) (l0 : List (S30)) (r : List (S30)) (w : World) (hr0 : Kd.C k30 w A0 l0.length l0) (hc0 : l0.length ≤ c0) (h : waystoneref05_Ranges.f k l0 = some r) :
    Calls Try.prog 24 #[.slice A0 l0.length c0] w fun e w' => ∃ v0_ : Value, e = .returned (v0_) ∧ Kd.R k30 30 w' w.heap.size (fun _ => True) v0_ r ∧ Below w.heap.size w w' := by
  have hu30 := Try.underlying30
  have HR0 := Aside0.mk hr0
  have HC0 := Aside0.mk hc0
  clear hr0 hc0
  have HB := Aside0.mk (Below.refl w.heap.size w)
  have H : (waystoneref05_Ranges.l0 k l0 ([] : List (S30)) 0) = some r := h
  clear h
  have H' := Aside0.mk H
  clear H
  go_enter Try.func24, Try.ntmps24
  go_wp2
  go_loopg [3, 4] k (fun kq v3 v4 w' => ∃ (x3_1 : List (S30)) (x4_1 : Int), v4 = .int .i64 x4_1 ∧ Aside0 (waystoneref05_Ranges.l0 kq l0 x3_1 x4_1 = some r) ∧ Aside0 (kq ≤ k) ∧ Aside0 (Kd.R k30 30 w' w.heap.size (fun _ => True) v3 x3_1) ∧ Aside0 (Below w.heap.size w w'))
  case atStart => exact ⟨(([] : List (S30))), (0), (by first | rfl | (simp; done) | (simp [*]; done)), H', ⟨Nat.le_refl _⟩, ⟨by first | exact Kd.R_nil _ _ _ _ _ | exact Kd.N_nil _ _ _ _ _ | exact Kd.V_nil _ _ _ _ _ | exact Kd.Q_nil _ _ _ _ _ | exact Kd.S_nil _ _ _ _ _⟩, ⟨by repeat (first | (with_reducible first | exact HB.out | apply below_alloc | apply pw_below_drewN | apply below_drew1) | exact HB.out)⟩⟩
  case round =>
    clear H'
    obtain ⟨x3_1, x4_1, rfl, HA, HK1, HO_3, HB⟩ := hrel
    cases gk with
    | zero => exact absurd HA.out (by simp [waystoneref05_Ranges.l0])
    | succ k1 =>
      have H := HA.out
      clear HA
      simp only [waystoneref05_Ranges.l0] at H
      by_cases c2 : x4_1 < (l0.length : Int)
      · rw [if_pos c2] at H
        have c2b0 : decide (x4_1 < (l0.length : Int)) = true := decide_eq_true c2
        clear c2
        have H' := Aside0.mk H
        clear H
        go_wp2
        go_loopg [5, 6] k1 (fun kq v5 v6 w' => ∃ (x5_2 : Int) (x6_2 : Bool), v5 = .int .i64 x5_2 ∧ v6 = .bool x6_2 ∧ Aside0 (waystoneref05_Ranges.l1 kq l0 x3_1 x4_1 x5_2 x6_2 = some r) ∧ Aside0 (kq ≤ k1) ∧ Aside0 (Kd.R k30 30 w' w.heap.size (fun _ => True) u3 x3_1) ∧ Aside0 (Below w.heap.size w w'))
        case atStart => exact ⟨(0), (true), (by first | rfl | (simp; done) | (simp [*]; done)), (by first | rfl | (simp; done) | (simp [*]; done)), H', ⟨Nat.le_refl _⟩, ⟨by (with_reducible repeat (first | apply Kd.R_alloc | apply Kd.R_drewN | apply Kd.R_drew)); exact HO_3.out⟩, ⟨by repeat (first | (with_reducible first | exact HB.out | apply below_alloc | apply pw_below_drewN | apply below_drew1) | exact HB.out)⟩⟩
        case round =>
          clear H'
          try clear c2
          try clear c2b0
          try clear p2
          obtain ⟨x5_2, x6_2, rfl, rfl, HA, HK2, HO_3, HB⟩ := hrel
          cases gk with
          | zero => exact absurd HA.out (by simp [waystoneref05_Ranges.l1])
          | succ k2 =>
            have H := HA.out
            clear HA
            simp only [waystoneref05_Ranges.l1] at H
            have HC3 := Aside0.mk H
            clear H
            go_upto_region 7 with (fail)
            go_cut [20] (fun v20 wc => ∃ (kq : Nat) (x20_2 : Bool), v20 = .bool x20_2 ∧ Aside0 (waystoneref05_Ranges.j2 kq l0 x3_1 x4_1 x5_2 x20_2 = some r) ∧ Aside0 (kq ≤ k2) ∧ Aside0 (Kd.R k30 30 wc w.heap.size (fun _ => True) u3 x3_1) ∧ Aside0 (Below w.heap.size w wc))
            case first =>
              have H := HC3.out
              clear HC3
              by_cases c4 : x5_2 < (x3_1.length : Int)
              · rw [if_pos c4] at H
                have c4b0 : decide (x5_2 < (x3_1.length : Int)) = true := decide_eq_true c4
                clear c4
                (first | rw [c4b0] | (simp only [i64_w, i32_w]; rw [c4b0]) | skip)
                have H' := Aside0.mk H
                clear H
                obtain ⟨Ao5, co5, eo5⟩ := Kd.R_slice HO_3.out
                subst eo5
                go_wp2
                go_meet
                case rel => exact ⟨_, (x6_2), (by first | rfl | (simp; done) | (simp [*]; done)), H', ⟨by have := HK1.out; have := HK2.out; first | omega | exact Nat.le_refl _⟩, ⟨by (with_reducible repeat (first | apply Kd.R_alloc | apply Kd.R_drewN | apply Kd.R_drew)); exact HO_3.out⟩, ⟨by repeat (first | (with_reducible first | exact HB.out | apply below_alloc | apply pw_below_drewN | apply below_drew1) | exact HB.out)⟩⟩
              · rw [if_neg c4] at H
                have c4b0 : decide (x5_2 < (x3_1.length : Int)) = false := decide_eq_false c4
                clear c4
                (first | rw [c4b0] | (simp only [i64_w, i32_w]; rw [c4b0]) | skip)
                have H' := Aside0.mk H
                clear H
                obtain ⟨Ao6, co6, eo6⟩ := Kd.R_slice HO_3.out
                subst eo6
                go_wp2
                go_meet
                case rel => exact ⟨_, (false), (by first | rfl | (simp; done) | (simp [*]; done)), H', ⟨by have := HK1.out; have := HK2.out; first | omega | exact Nat.le_refl _⟩, ⟨by (with_reducible repeat (first | apply Kd.R_alloc | apply Kd.R_drewN | apply Kd.R_drew)); exact HO_3.out⟩, ⟨by repeat (first | (with_reducible first | exact HB.out | apply below_alloc | apply pw_below_drewN | apply below_drew1) | exact HB.out)⟩⟩
            case rest =>
              clear HC3
              try clear c2
              try clear c2b0
              try clear p2
              try clear c4
              try clear c4b0
              try clear p2
              obtain ⟨kq, x20_2, rfl, HA, HJ2, HO_3, HB⟩ := hcut
              cases kq with
              | zero => exact absurd HA.out (by simp [waystoneref05_Ranges.j2])
              | succ kj2 =>
                have H := HA.out
                clear HA
                simp only [waystoneref05_Ranges.j2] at H
                by_cases c7 : x20_2 = true
                · subst c7
                  have H1 : (if 0 ≤ x5_2 then (if x5_2 < (x3_1.length : Int) then (if 0 ≤ x4_1 then (if x4_1 < (l0.length : Int) then ((waystoneref05_less.f ((rd_T30 x3_1 x5_2).f0) ((rd_T30 x3_1 x5_2).f1) ((rd_T30 l0 x4_1).f0) ((rd_T30 l0 x4_1).f1)).bind fun t172 => (if t172 = true then (waystoneref05_Ranges.l1 kj2 l0 x3_1 x4_1 (wrap64 (x5_2 + 1)) t172) else (waystoneref05_Ranges.l1 kj2 l0 x3_1 x4_1 x5_2 t172))) else (none)) else (none)) else (none)) else (none)) = some r := by rw [if_pos rfl] at H; exact H
                  clear H
                  have H := H1
                  clear H1
                  by_cases c8 : 0 ≤ x5_2
                  · rw [if_pos c8] at H
                    have c8b0 : decide (0 ≤ x5_2) = true := decide_eq_true c8
                    clear c8
                    by_cases c9 : x5_2 < (x3_1.length : Int)
                    · rw [if_pos c9] at H
                      have c9b0 : decide (x5_2 < (x3_1.length : Int)) = true := decide_eq_true c9
                      clear c9
                      by_cases c10 : 0 ≤ x4_1
                      · rw [if_pos c10] at H
                        have c10b0 : decide (0 ≤ x4_1) = true := decide_eq_true c10
                        clear c10
                        by_cases c11 : x4_1 < (l0.length : Int)
                        · rw [if_pos c11] at H
                          have c11b0 : decide (x4_1 < (l0.length : Int)) = true := decide_eq_true c11
                          clear c11
                          replace H := Option.bind_eq_some_iff.mp H
                          obtain ⟨t172, A120, H⟩ := H
                          replace H : (if t172 = true then (waystoneref05_Ranges.l1 kj2 l0 x3_1 x4_1 (wrap64 (x5_2 + 1)) t172) else (waystoneref05_Ranges.l1 kj2 l0 x3_1 x4_1 x5_2 t172)) = some r := H
                          have A12 := Aside0.mk A120
                          clear A120
                          by_cases c13 : t172 = true
                          · subst c13
                            have H1 : (waystoneref05_Ranges.l1 kj2 l0 x3_1 x4_1 (wrap64 (x5_2 + 1)) true) = some r := by rw [if_pos rfl] at H; exact H
                            clear H
                            have H := H1
                            clear H1
                            have H' := Aside0.mk H
                            clear H
                            try go_wp2
                            have n0_ := Aside0.mk (Kd.R_drew HO_3.out)
                            have n1_ := Aside0.mk (below_drew1 HB.out)
                            clear HO_3
                            clear HB
                            have HO_3 := n0_
                            have HB := n1_
                            clear n0_ n1_
                            obtain ⟨Ao15, co15, eo15⟩ := Kd.R_slice HO_3.out
                            (first | subst eo15 | (injection eo15 with f1_ f2_ f3_; have f4_ := f1_.symm; have f5_ := f3_.symm; clear f1_ f2_ f3_; subst f4_; subst f5_))
                            have p170 : 0 ≤ (x5_2 : Int) := of_decide_eq_true (by first | (with_reducible assumption) | assumption)
                            have q170 : x5_2 < (x3_1.length : Int) := of_decide_eq_true (by first | (with_reducible assumption) | assumption)
                            obtain ⟨ad170, e170, hx170_0, hx170_1⟩ := at_T30 (Kd.R_reads' HO_3.out).2.2 x5_2 p170 q170
                            cases e170
                            replace p170 := eq_true p170
                            replace q170 := eq_true q170
                            have p171 : 0 ≤ (x4_1 : Int) := of_decide_eq_true (by first | (with_reducible assumption) | assumption)
                            have q171 : x4_1 < (l0.length : Int) := of_decide_eq_true (by first | (with_reducible assumption) | assumption)
                            obtain ⟨ad171, e171, hx171_0, hx171_1⟩ := at_T30 HR0.out x4_1 p171 q171
                            have hw171_1 := hx171_1
                            have hw171_0 := hx171_0
                            cases e171
                            replace hx171_0 := (HB.out.cell (World.block_lt_of_cell? w _ hx171_0)).trans hx171_0
                            replace hx171_1 := (HB.out.cell (World.block_lt_of_cell? w _ hx171_1)).trans hx171_1
                            replace p171 := eq_true p171
                            replace q171 := eq_true q171
                            refine start_ (n := 10) (S := fun w' => w'.cell? (ad170.add ((x5_2).toNat * 2)) = some (.int .u32 ((rd_T30 x3_1 x5_2).f0)) ∧ w'.cell? ⟨(ad170.add ((x5_2).toNat * 2)).block, (ad170.add ((x5_2).toNat * 2)).off + 1, none⟩ = some (.int .u32 ((rd_T30 x3_1 x5_2).f1)) ∧ w'.cell? (ad171.add ((x4_1).toNat * 2)) = some (.int .u32 ((rd_T30 l0 x4_1).f0)) ∧ w'.cell? ⟨(ad171.add ((x4_1).toNat * 2)).block, (ad171.add ((x4_1).toNat * 2)).off + 1, none⟩ = some (.int .u32 ((rd_T30 l0 x4_1).f1))) (ds := []) #[false, false, false, false, false, false, false, false, false, false] (by kernel_rfl) rfl rfl ⟨hx170_0, hx170_1, ((HB.out.cell (World.block_lt_of_cell? w _ hw171_0)).trans hw171_0), ((HB.out.cell (World.block_lt_of_cell? w _ hw171_1)).trans hw171_1)⟩ (fun hHeld => ?_); refine with_tabW waystoneref05_Ranges.tab8 waystoneref05_Ranges.bits8 (fun HT_ HW_ => ?_)
                            generalize wc.drew = w14 at HO_3 HB hx170_0 hx170_1 hx171_0 hx171_1 hHeld ⊢
                            refine pure_ (i := 0) (N := some 21) (v := ?_) (a' := ?_) #[true, false, false, false, false, false, false, false, false, false] rfl rfl (any_of HT_.out (by kernel_rfl)) (fun _ _ _ h => h) (Or.inl ⟨by rfl, ?_⟩) ?_ ?_
                            rotate_left
                            · intro w'
                              go_simp
                              with_reducible rfl
                            rotate_left
                            · simp only [Act.put, List.setIfInBounds_toArray, List.set_cons_zero, List.set_cons_succ, i64_w, i32_w]
                              rfl
                            refine pure_ (i := 1) (N := some 22) (v := ?_) (a' := ?_) #[true, true, false, false, false, false, false, false, false, false] rfl rfl (any_of HT_.out (by kernel_rfl)) (fun _ _ _ h => h) (Or.inl ⟨by rfl, ?_⟩) ?_ ?_
                            rotate_left
                            · intro w'
                              go_simp
                              with_reducible rfl
                            rotate_left
                            · simp only [Act.put, List.setIfInBounds_toArray, List.set_cons_zero, List.set_cons_succ, i64_w, i32_w]
                              rfl
                            refine pure_ (i := 2) (N := some 23) (v := ?_) (a' := ?_) #[true, true, true, false, false, false, false, false, false, false] rfl rfl (any_of HT_.out (by kernel_rfl)) (fun _ _ _ h => h) (Or.inl ⟨by rfl, ?_⟩) ?_ ?_
                            rotate_left
                            · intro w'
                              go_simp
                              with_reducible rfl
                            rotate_left
                            · simp only [Act.put, List.setIfInBounds_toArray, List.set_cons_zero, List.set_cons_succ, i64_w, i32_w]
                              rfl
                            refine pure_ (i := 4) (N := some 25) (v := ?_) (a' := ?_) #[true, true, true, false, true, false, false, false, false, false] rfl rfl (any_of HT_.out (by kernel_rfl)) (fun _ _ _ h => h) (Or.inl ⟨by rfl, ?_⟩) ?_ ?_
                            rotate_left
                            · intro w'
                              go_simp
                              with_reducible rfl
                            rotate_left
                            · simp only [Act.put, List.setIfInBounds_toArray, List.set_cons_zero, List.set_cons_succ, i64_w, i32_w]
                              rfl
                            refine pure_ (i := 5) (N := some 26) (v := ?_) (a' := ?_) #[true, true, true, false, true, true, false, false, false, false] rfl rfl (any_of HT_.out (by kernel_rfl)) (fun _ _ _ h => h) (Or.inl ⟨by rfl, ?_⟩) ?_ ?_
                            rotate_left
                            · intro w'
                              go_simp
                              with_reducible rfl
                            rotate_left
                            · simp only [Act.put, List.setIfInBounds_toArray, List.set_cons_zero, List.set_cons_succ, i64_w, i32_w]
                              rfl
                            refine pure_ (i := 6) (N := some 27) (v := ?_) (a' := ?_) #[true, true, true, false, true, true, true, false, false, false] rfl rfl (any_of HT_.out (by kernel_rfl)) (fun _ _ _ h => h) (Or.inl ⟨by rfl, ?_⟩) ?_ ?_
                            rotate_left
                            · intro w'
                              go_simp
                              with_reducible rfl
                            rotate_left
                            · simp only [Act.put, List.setIfInBounds_toArray, List.set_cons_zero, List.set_cons_succ, i64_w, i32_w]
                              rfl
                            refine take_ (i := 3) (N := some 24) (v := ?_) (a' := ?_) #[true, true, true, true, true, true, true, false, false, false] rfl rfl (take_ofW HT_.out HW_.out (by kernel_rfl)) (fun _ _ _ h => h) (Or.inl ⟨by rfl, ?_⟩) hHeld ?_ ?_
                            rotate_left
                            · rintro w' ⟨s0, s1, s2, s3⟩
                              go_simp
                              with_reducible rfl
                            rotate_left
                            · simp only [Act.put, List.setIfInBounds_toArray, List.set_cons_zero, List.set_cons_succ, i64_w, i32_w]
                              rfl
                            refine take_ (i := 7) (N := some 28) (v := ?_) (a' := ?_) #[true, true, true, true, true, true, true, true, false, false] rfl rfl (take_ofW HT_.out HW_.out (by kernel_rfl)) (fun _ _ _ h => h) (Or.inl ⟨by rfl, ?_⟩) hHeld ?_ ?_
                            rotate_left
                            · rintro w' ⟨s0, s1, s2, s3⟩
                              go_simp
                              with_reducible rfl
                            rotate_left
                            · simp only [Act.put, List.setIfInBounds_toArray, List.set_cons_zero, List.set_cons_succ, i64_w, i32_w]
                              rfl
                            refine one_ (i := 8) (N := some 29) #[true, true, true, true, true, true, true, true, true, false] rfl rfl (one_of HT_.out (by kernel_rfl)) (by decide) (fun K hK => ?_)
                            refine goes_ Try.func40 (by kernel_rfl) rfl #[.agg #[.int .u32 ((rd_T30 x3_1 x5_2).f0), .int .u32 ((rd_T30 x3_1 x5_2).f1)], .agg #[.int .u32 ((rd_T30 l0 x4_1).f0), .int .u32 ((rd_T30 l0 x4_1).f1)]] (by rfl) rfl rfl (by (try simp only [List.map_toArray, List.map_cons, List.map_nil]); first | done | rfl | (simp only [List.length_drop, List.length_take]; rfl)) ?_
                            with_reducible refine (waystoneref05_less.calls ((rd_T30 x3_1 x5_2).f0) ((rd_T30 x3_1 x5_2).f1) ((rd_T30 l0 x4_1).f0) ((rd_T30 l0 x4_1).f1) true _ A12.out).mono ?_
                            rintro e w16 ⟨rfl, hb⟩
                            have HS0_ := (hb.cell (World.block_lt_of_cell? _ _ (hHeld.1))).trans (hHeld.1)
                            have HS1_ := (hb.cell (World.block_lt_of_cell? _ _ (hHeld.2.1))).trans (hHeld.2.1)
                            refine ⟨_, rfl, ?_⟩
                            have n0_ := Aside0.mk (Kd.R_below (by (with_reducible repeat (first | apply Kd.R_alloc | apply Kd.R_drewN | apply Kd.R_drew)); exact HO_3.out) hb)
                            have n1_ := Aside0.mk (below_step (by repeat (first | (with_reducible first | exact HB.out | apply below_alloc | apply pw_below_drewN | apply below_drew1) | exact HB.out)) hb)
                            clear HO_3
                            clear HB
                            have HO_3 := n0_
                            have HB := n1_
                            clear n0_ n1_
                            (try clear hb)
                            (try clear hb2)
                            (try clear hk)
                            (try clear hi)
                            refine hK.out _ _ ⟨HS0_, HS1_, ((HB.out.cell (World.block_lt_of_cell? w _ hw171_0)).trans hw171_0), ((HB.out.cell (World.block_lt_of_cell? w _ hw171_1)).trans hw171_1)⟩ (fun hHeld => ?_)
                            clear hK K
                            refine norm_ (a' := ?_) ?_ ?_
                            rotate_left
                            · show Act.put _ (some 29) _ = _
                              simp only [Act.put, List.setIfInBounds_toArray, List.set_cons_zero, List.set_cons_succ, i64_w, i32_w]
                              rfl
                            refine pure_ (i := 9) (N := some 6) (v := ?_) (a' := ?_) #[true, true, true, true, true, true, true, true, true, true] rfl rfl (any_of HT_.out (by kernel_rfl)) (fun _ _ _ h => h) (Or.inl ⟨by rfl, ?_⟩) ?_ ?_
                            rotate_left
                            · intro w'
                              go_simp
                              with_reducible rfl
                            rotate_left
                            · simp only [Act.put, List.setIfInBounds_toArray, List.set_cons_zero, List.set_cons_succ, i64_w, i32_w]
                              rfl
                            refine done_ (done_of HT_.out (by kernel_rfl)) ?_
                            try go_wp2
                            go_roundg kj2
                            case measure => have := HK1.out; have := HK2.out; have := HJ2.out; omega
                            case rel => exact ⟨(wrap64 (x5_2 + 1)), (true), (by first | rfl | (simp; done) | (simp [*]; done)), (by first | rfl | (simp; done) | (simp [*]; done)), H', ⟨by have := HK1.out; have := HK2.out; have := HJ2.out; omega⟩, ⟨by (with_reducible repeat (first | apply Kd.R_alloc | apply Kd.R_drewN | apply Kd.R_drew)); exact HO_3.out⟩, ⟨by repeat (first | (with_reducible first | exact HB.out | apply below_alloc | apply pw_below_drewN | apply below_drew1) | exact HB.out)⟩⟩
                          · replace c13 := Bool.eq_false_iff.mpr c13
                            subst c13
                            have H1 : (waystoneref05_Ranges.l1 kj2 l0 x3_1 x4_1 x5_2 false) = some r := by rw [if_neg (show ¬ (false = true) by decide)] at H; exact H
                            clear H
                            have H := H1
                            clear H1
                            have H' := Aside0.mk H
                            clear H
                            try go_wp2
                            have n0_ := Aside0.mk (Kd.R_drew HO_3.out)
                            have n1_ := Aside0.mk (below_drew1 HB.out)
                            clear HO_3
                            clear HB
                            have HO_3 := n0_
                            have HB := n1_
                            clear n0_ n1_
                            obtain ⟨Ao18, co18, eo18⟩ := Kd.R_slice HO_3.out
                            (first | subst eo18 | (injection eo18 with f1_ f2_ f3_; have f4_ := f1_.symm; have f5_ := f3_.symm; clear f1_ f2_ f3_; subst f4_; subst f5_))
                            have p170 : 0 ≤ (x5_2 : Int) := of_decide_eq_true (by first | (with_reducible assumption) | assumption)
                            have q170 : x5_2 < (x3_1.length : Int) := of_decide_eq_true (by first | (with_reducible assumption) | assumption)
                            obtain ⟨ad170, e170, hx170_0, hx170_1⟩ := at_T30 (Kd.R_reads' HO_3.out).2.2 x5_2 p170 q170
                            cases e170
                            replace p170 := eq_true p170
                            replace q170 := eq_true q170
                            have p171 : 0 ≤ (x4_1 : Int) := of_decide_eq_true (by first | (with_reducible assumption) | assumption)
                            have q171 : x4_1 < (l0.length : Int) := of_decide_eq_true (by first | (with_reducible assumption) | assumption)
                            obtain ⟨ad171, e171, hx171_0, hx171_1⟩ := at_T30 HR0.out x4_1 p171 q171
                            have hw171_1 := hx171_1
                            have hw171_0 := hx171_0
                            cases e171
                            replace hx171_0 := (HB.out.cell (World.block_lt_of_cell? w _ hx171_0)).trans hx171_0
                            replace hx171_1 := (HB.out.cell (World.block_lt_of_cell? w _ hx171_1)).trans hx171_1
                            replace p171 := eq_true p171
                            replace q171 := eq_true q171
                            refine start_ (n := 10) (S := fun w' => w'.cell? (ad170.add ((x5_2).toNat * 2)) = some (.int .u32 ((rd_T30 x3_1 x5_2).f0)) ∧ w'.cell? ⟨(ad170.add ((x5_2).toNat * 2)).block, (ad170.add ((x5_2).toNat * 2)).off + 1, none⟩ = some (.int .u32 ((rd_T30 x3_1 x5_2).f1)) ∧ w'.cell? (ad171.add ((x4_1).toNat * 2)) = some (.int .u32 ((rd_T30 l0 x4_1).f0)) ∧ w'.cell? ⟨(ad171.add ((x4_1).toNat * 2)).block, (ad171.add ((x4_1).toNat * 2)).off + 1, none⟩ = some (.int .u32 ((rd_T30 l0 x4_1).f1))) (ds := []) #[false, false, false, false, false, false, false, false, false, false] (by kernel_rfl) rfl rfl ⟨hx170_0, hx170_1, ((HB.out.cell (World.block_lt_of_cell? w _ hw171_0)).trans hw171_0), ((HB.out.cell (World.block_lt_of_cell? w _ hw171_1)).trans hw171_1)⟩ (fun hHeld => ?_); refine with_tabW waystoneref05_Ranges.tab8 waystoneref05_Ranges.bits8 (fun HT_ HW_ => ?_)
                            generalize wc.drew = w17 at HO_3 HB hx170_0 hx170_1 hx171_0 hx171_1 hHeld ⊢
                            refine pure_ (i := 0) (N := some 21) (v := ?_) (a' := ?_) #[true, false, false, false, false, false, false, false, false, false] rfl rfl (any_of HT_.out (by kernel_rfl)) (fun _ _ _ h => h) (Or.inl ⟨by rfl, ?_⟩) ?_ ?_
                            rotate_left
                            · intro w'
                              go_simp
                              with_reducible rfl
                            rotate_left
                            · simp only [Act.put, List.setIfInBounds_toArray, List.set_cons_zero, List.set_cons_succ, i64_w, i32_w]
                              rfl
                            refine pure_ (i := 1) (N := some 22) (v := ?_) (a' := ?_) #[true, true, false, false, false, false, false, false, false, false] rfl rfl (any_of HT_.out (by kernel_rfl)) (fun _ _ _ h => h) (Or.inl ⟨by rfl, ?_⟩) ?_ ?_
                            rotate_left
                            · intro w'
                              go_simp
                              with_reducible rfl
                            rotate_left
                            · simp only [Act.put, List.setIfInBounds_toArray, List.set_cons_zero, List.set_cons_succ, i64_w, i32_w]
                              rfl
                            refine pure_ (i := 2) (N := some 23) (v := ?_) (a' := ?_) #[true, true, true, false, false, false, false, false, false, false] rfl rfl (any_of HT_.out (by kernel_rfl)) (fun _ _ _ h => h) (Or.inl ⟨by rfl, ?_⟩) ?_ ?_
                            rotate_left
                            · intro w'
                              go_simp
                              with_reducible rfl
                            rotate_left
                            · simp only [Act.put, List.setIfInBounds_toArray, List.set_cons_zero, List.set_cons_succ, i64_w, i32_w]
                              rfl
                            refine pure_ (i := 4) (N := some 25) (v := ?_) (a' := ?_) #[true, true, true, false, true, false, false, false, false, false] rfl rfl (any_of HT_.out (by kernel_rfl)) (fun _ _ _ h => h) (Or.inl ⟨by rfl, ?_⟩) ?_ ?_
                            rotate_left
                            · intro w'
                              go_simp
                              with_reducible rfl
                            rotate_left
                            · simp only [Act.put, List.setIfInBounds_toArray, List.set_cons_zero, List.set_cons_succ, i64_w, i32_w]
                              rfl
                            refine pure_ (i := 5) (N := some 26) (v := ?_) (a' := ?_) #[true, true, true, false, true, true, false, false, false, false] rfl rfl (any_of HT_.out (by kernel_rfl)) (fun _ _ _ h => h) (Or.inl ⟨by rfl, ?_⟩) ?_ ?_
                            rotate_left
                            · intro w'
                              go_simp
                              with_reducible rfl
                            rotate_left
                            · simp only [Act.put, List.setIfInBounds_toArray, List.set_cons_zero, List.set_cons_succ, i64_w, i32_w]
                              rfl
                            refine pure_ (i := 6) (N := some 27) (v := ?_) (a' := ?_) #[true, true, true, false, true, true, true, false, false, false] rfl rfl (any_of HT_.out (by kernel_rfl)) (fun _ _ _ h => h) (Or.inl ⟨by rfl, ?_⟩) ?_ ?_
                            rotate_left
                            · intro w'
                              go_simp
                              with_reducible rfl
                            rotate_left
                            · simp only [Act.put, List.setIfInBounds_toArray, List.set_cons_zero, List.set_cons_succ, i64_w, i32_w]
                              rfl
                            refine take_ (i := 3) (N := some 24) (v := ?_) (a' := ?_) #[true, true, true, true, true, true, true, false, false, false] rfl rfl (take_ofW HT_.out HW_.out (by kernel_rfl)) (fun _ _ _ h => h) (Or.inl ⟨by rfl, ?_⟩) hHeld ?_ ?_
                            rotate_left
                            · rintro w' ⟨s0, s1, s2, s3⟩
                              go_simp
                              with_reducible rfl
                            rotate_left
                            · simp only [Act.put, List.setIfInBounds_toArray, List.set_cons_zero, List.set_cons_succ, i64_w, i32_w]
                              rfl
                            refine take_ (i := 7) (N := some 28) (v := ?_) (a' := ?_) #[true, true, true, true, true, true, true, true, false, false] rfl rfl (take_ofW HT_.out HW_.out (by kernel_rfl)) (fun _ _ _ h => h) (Or.inl ⟨by rfl, ?_⟩) hHeld ?_ ?_
                            rotate_left
                            · rintro w' ⟨s0, s1, s2, s3⟩
                              go_simp
                              with_reducible rfl
                            rotate_left
                            · simp only [Act.put, List.setIfInBounds_toArray, List.set_cons_zero, List.set_cons_succ, i64_w, i32_w]
                              rfl
                            refine one_ (i := 8) (N := some 29) #[true, true, true, true, true, true, true, true, true, false] rfl rfl (one_of HT_.out (by kernel_rfl)) (by decide) (fun K hK => ?_)
                            refine goes_ Try.func40 (by kernel_rfl) rfl #[.agg #[.int .u32 ((rd_T30 x3_1 x5_2).f0), .int .u32 ((rd_T30 x3_1 x5_2).f1)], .agg #[.int .u32 ((rd_T30 l0 x4_1).f0), .int .u32 ((rd_T30 l0 x4_1).f1)]] (by rfl) rfl rfl (by (try simp only [List.map_toArray, List.map_cons, List.map_nil]); first | done | rfl | (simp only [List.length_drop, List.length_take]; rfl)) ?_
                            with_reducible refine (waystoneref05_less.calls ((rd_T30 x3_1 x5_2).f0) ((rd_T30 x3_1 x5_2).f1) ((rd_T30 l0 x4_1).f0) ((rd_T30 l0 x4_1).f1) false _ A12.out).mono ?_
                            rintro e w19 ⟨rfl, hb⟩
                            have HS0_ := (hb.cell (World.block_lt_of_cell? _ _ (hHeld.1))).trans (hHeld.1)
                            have HS1_ := (hb.cell (World.block_lt_of_cell? _ _ (hHeld.2.1))).trans (hHeld.2.1)
                            refine ⟨_, rfl, ?_⟩
                            have n0_ := Aside0.mk (Kd.R_below (by (with_reducible repeat (first | apply Kd.R_alloc | apply Kd.R_drewN | apply Kd.R_drew)); exact HO_3.out) hb)
                            have n1_ := Aside0.mk (below_step (by repeat (first | (with_reducible first | exact HB.out | apply below_alloc | apply pw_below_drewN | apply below_drew1) | exact HB.out)) hb)
                            clear HO_3
                            clear HB
                            have HO_3 := n0_
                            have HB := n1_
                            clear n0_ n1_
                            (try clear hb)
                            (try clear hb2)
                            (try clear hk)
                            (try clear hi)
                            refine hK.out _ _ ⟨HS0_, HS1_, ((HB.out.cell (World.block_lt_of_cell? w _ hw171_0)).trans hw171_0), ((HB.out.cell (World.block_lt_of_cell? w _ hw171_1)).trans hw171_1)⟩ (fun hHeld => ?_)
                            clear hK K
                            refine norm_ (a' := ?_) ?_ ?_
                            rotate_left
                            · show Act.put _ (some 29) _ = _
                              simp only [Act.put, List.setIfInBounds_toArray, List.set_cons_zero, List.set_cons_succ, i64_w, i32_w]
                              rfl
                            refine pure_ (i := 9) (N := some 6) (v := ?_) (a' := ?_) #[true, true, true, true, true, true, true, true, true, true] rfl rfl (any_of HT_.out (by kernel_rfl)) (fun _ _ _ h => h) (Or.inl ⟨by rfl, ?_⟩) ?_ ?_
                            rotate_left
                            · intro w'
                              go_simp
                              with_reducible rfl
                            rotate_left
                            · simp only [Act.put, List.setIfInBounds_toArray, List.set_cons_zero, List.set_cons_succ, i64_w, i32_w]
                              rfl
                            refine done_ (done_of HT_.out (by kernel_rfl)) ?_
                            try go_wp2
                            go_roundg kj2
                            case measure => have := HK1.out; have := HK2.out; have := HJ2.out; omega
                            case rel => exact ⟨(x5_2), (false), (by first | rfl | (simp; done) | (simp [*]; done)), (by first | rfl | (simp; done) | (simp [*]; done)), H', ⟨by have := HK1.out; have := HK2.out; have := HJ2.out; omega⟩, ⟨by (with_reducible repeat (first | apply Kd.R_alloc | apply Kd.R_drewN | apply Kd.R_drew)); exact HO_3.out⟩, ⟨by repeat (first | (with_reducible first | exact HB.out | apply below_alloc | apply pw_below_drewN | apply below_drew1) | exact HB.out)⟩⟩
                        · rw [if_neg c11] at H
                          exact absurd H (by simp)
                      · rw [if_neg c10] at H
                        exact absurd H (by simp)
                    · rw [if_neg c9] at H
                      exact absurd H (by simp)
                  · rw [if_neg c8] at H
                    exact absurd H (by simp)
                · replace c7 := Bool.eq_false_iff.mpr c7
                  subst c7
                  have H1 : (if x5_2 < (x3_1.length : Int) then (if 0 ≤ x5_2 then (if 0 ≤ x4_1 then (if x4_1 < (l0.length : Int) then (if (((rd_T30 x3_1 x5_2).f0) == ((rd_T30 l0 x4_1).f0) && (((rd_T30 x3_1 x5_2).f1) == ((rd_T30 l0 x4_1).f1))) = true then (waystoneref05_Ranges.l0 kj2 l0 x3_1 (wrap64 (x4_1 + 1))) else ((some (([] : List (S30)) : List (S30))).bind fun y175 => (if x5_2 ≤ (x3_1.length : Int) then ((some (x3_1.take (x5_2 : Int).toNat : List (S30))).bind fun y178 => (if y175.length + y178.length < 17592186044416 then ((some (y175 ++ y178 : List (S30))).bind fun y182 => (if y182.length < 17592186044416 then ((some (y182 ++ [(⟨(rd_T30 l0 x4_1).f0, (rd_T30 l0 x4_1).f1⟩ : S30)] : List (S30))).bind fun y186 => ((some (x3_1.drop (x5_2 : Int).toNat : List (S30))).bind fun y189 => (if y186.length + y189.length < 17592186044416 then (waystoneref05_Ranges.l0 kj2 l0 (y186 ++ y189) (wrap64 (x4_1 + 1))) else (none)))) else (none))) else (none))) else (none)))) else (none)) else (none)) else (none)) else ((some (([] : List (S30)) : List (S30))).bind fun y196 => (if 0 ≤ x5_2 then (if x5_2 ≤ (x3_1.length : Int) then ((some (x3_1.take (x5_2 : Int).toNat : List (S30))).bind fun y199 => (if y196.length + y199.length < 17592186044416 then ((some (y196 ++ y199 : List (S30))).bind fun y203 => (if 0 ≤ x4_1 then (if x4_1 < (l0.length : Int) then (if y203.length < 17592186044416 then ((some (y203 ++ [(⟨(rd_T30 l0 x4_1).f0, (rd_T30 l0 x4_1).f1⟩ : S30)] : List (S30))).bind fun y207 => ((some (x3_1.drop (x5_2 : Int).toNat : List (S30))).bind fun y210 => (if y207.length + y210.length < 17592186044416 then (waystoneref05_Ranges.l0 kj2 l0 (y207 ++ y210) (wrap64 (x4_1 + 1))) else (none)))) else (none)) else (none)) else (none))) else (none))) else (none)) else (none)))) = some r := by rw [if_neg (show ¬ (false = true) by decide)] at H; exact H
                  clear H
                  have H := H1
                  clear H1
                  by_cases c20 : x5_2 < (x3_1.length : Int)
                  · rw [if_pos c20] at H
                    have c20b0 : decide (x5_2 < (x3_1.length : Int)) = true := decide_eq_true c20
                    clear c20
                    by_cases c21 : 0 ≤ x5_2
                    · rw [if_pos c21] at H
                      have c21b0 : decide (0 ≤ x5_2) = true := decide_eq_true c21
                      clear c21
                      by_cases c22 : 0 ≤ x4_1
                      · rw [if_pos c22] at H
                        have c22b0 : decide (0 ≤ x4_1) = true := decide_eq_true c22
                        clear c22
                        by_cases c23 : x4_1 < (l0.length : Int)
                        · rw [if_pos c23] at H
                          have c23b0 : decide (x4_1 < (l0.length : Int)) = true := decide_eq_true c23
                          clear c23
                          by_cases c24 : (((rd_T30 x3_1 x5_2).f0) == ((rd_T30 l0 x4_1).f0) && (((rd_T30 x3_1 x5_2).f1) == ((rd_T30 l0 x4_1).f1))) = true
                          · rw [if_pos c24] at H
                            have c24b0 : (((rd_T30 x3_1 x5_2).f0) == ((rd_T30 l0 x4_1).f0) && (((rd_T30 x3_1 x5_2).f1) == ((rd_T30 l0 x4_1).f1))) = true := c24
                            (try (have c24b1 : decide (((rd_T30 x3_1 x5_2).f0) = ((rd_T30 l0 x4_1).f0) && (((rd_T30 x3_1 x5_2).f1) == ((rd_T30 l0 x4_1).f1))) = true := by simpa using c24))
                            (try (have c24b2 : (((rd_T30 x3_1 x5_2).f0) == ((rd_T30 l0 x4_1).f0) && (((rd_T30 x3_1 x5_2).f1) == ((rd_T30 l0 x4_1).f1))) = true := by simpa using c24))
                            clear c24
                            have H' := Aside0.mk H
                            clear H
                            try go_wp2
                            have n0_ := Aside0.mk (Kd.R_drew HO_3.out)
                            have n1_ := Aside0.mk (below_drew1 HB.out)
                            clear HO_3
                            clear HB
                            have HO_3 := n0_
                            have HB := n1_
                            clear n0_ n1_
                            obtain ⟨Ao26, co26, eo26⟩ := Kd.R_slice HO_3.out
                            (first | subst eo26 | (injection eo26 with f1_ f2_ f3_; have f4_ := f1_.symm; have f5_ := f3_.symm; clear f1_ f2_ f3_; subst f4_; subst f5_))
                            have p173 : 0 ≤ (x5_2 : Int) := of_decide_eq_true (by first | (with_reducible assumption) | assumption)
                            have q173 : x5_2 < (x3_1.length : Int) := of_decide_eq_true (by first | (with_reducible assumption) | assumption)
                            obtain ⟨ad173, e173, hx173_0, hx173_1⟩ := at_T30 (Kd.R_reads' HO_3.out).2.2 x5_2 p173 q173
                            cases e173
                            replace p173 := eq_true p173
                            replace q173 := eq_true q173
                            have p174 : 0 ≤ (x4_1 : Int) := of_decide_eq_true (by first | (with_reducible assumption) | assumption)
                            have q174 : x4_1 < (l0.length : Int) := of_decide_eq_true (by first | (with_reducible assumption) | assumption)
                            obtain ⟨ad174, e174, hx174_0, hx174_1⟩ := at_T30 HR0.out x4_1 p174 q174
                            have hw174_1 := hx174_1
                            have hw174_0 := hx174_0
                            cases e174
                            replace hx174_0 := (HB.out.cell (World.block_lt_of_cell? w _ hx174_0)).trans hx174_0
                            replace hx174_1 := (HB.out.cell (World.block_lt_of_cell? w _ hx174_1)).trans hx174_1
                            replace p174 := eq_true p174
                            replace q174 := eq_true q174
                            refine start_ (n := 15) (S := fun w' => w'.cell? (ad173.add ((x5_2).toNat * 2)) = some (.int .u32 ((rd_T30 x3_1 x5_2).f0)) ∧ w'.cell? ⟨(ad173.add ((x5_2).toNat * 2)).block, (ad173.add ((x5_2).toNat * 2)).off + 1, none⟩ = some (.int .u32 ((rd_T30 x3_1 x5_2).f1)) ∧ w'.cell? (ad174.add ((x4_1).toNat * 2)) = some (.int .u32 ((rd_T30 l0 x4_1).f0)) ∧ w'.cell? ⟨(ad174.add ((x4_1).toNat * 2)).block, (ad174.add ((x4_1).toNat * 2)).off + 1, none⟩ = some (.int .u32 ((rd_T30 l0 x4_1).f1))) (ds := []) #[false, false, false, false, false, false, false, false, false, false, false, false, false, false, false] (by kernel_rfl) rfl rfl ⟨hx173_0, hx173_1, ((HB.out.cell (World.block_lt_of_cell? w _ hw174_0)).trans hw174_0), ((HB.out.cell (World.block_lt_of_cell? w _ hw174_1)).trans hw174_1)⟩ (fun hHeld => ?_); refine with_tabW waystoneref05_Ranges.tab11 waystoneref05_Ranges.bits11 (fun HT_ HW_ => ?_)
                            generalize wc.drew = w25 at HO_3 HB hx173_0 hx173_1 hx174_0 hx174_1 hHeld ⊢
                            refine pure_ (i := 0) (N := some 33) (v := ?_) (a' := ?_) #[true, false, false, false, false, false, false, false, false, false, false, false, false, false, false] rfl rfl (any_of HT_.out (by kernel_rfl)) (fun _ _ _ h => h) (Or.inl ⟨by rfl, ?_⟩) ?_ ?_
                            rotate_left
                            · intro w'
                              go_simp
                              with_reducible rfl
                            rotate_left
                            · simp only [Act.put, List.setIfInBounds_toArray, List.set_cons_zero, List.set_cons_succ, i64_w, i32_w]
                              rfl
                            refine pure_ (i := 1) (N := some 34) (v := ?_) (a' := ?_) #[true, true, false, false, false, false, false, false, false, false, false, false, false, false, false] rfl rfl (any_of HT_.out (by kernel_rfl)) (fun _ _ _ h => h) (Or.inl ⟨by rfl, ?_⟩) ?_ ?_
                            rotate_left
                            · intro w'
                              go_simp
                              with_reducible rfl
                            rotate_left
                            · simp only [Act.put, List.setIfInBounds_toArray, List.set_cons_zero, List.set_cons_succ, i64_w, i32_w]
                              rfl
                            refine pure_ (i := 2) (N := some 35) (v := ?_) (a' := ?_) #[true, true, true, false, false, false, false, false, false, false, false, false, false, false, false] rfl rfl (any_of HT_.out (by kernel_rfl)) (fun _ _ _ h => h) (Or.inl ⟨by rfl, ?_⟩) ?_ ?_
                            rotate_left
                            · intro w'
                              go_simp
                              with_reducible rfl
                            rotate_left
                            · simp only [Act.put, List.setIfInBounds_toArray, List.set_cons_zero, List.set_cons_succ, i64_w, i32_w]
                              rfl
                            refine pure_ (i := 3) (N := some 36) (v := ?_) (a' := ?_) #[true, true, true, true, false, false, false, false, false, false, false, false, false, false, false] rfl rfl (any_of HT_.out (by kernel_rfl)) (fun _ _ _ h => h) (Or.inl ⟨by rfl, ?_⟩) ?_ ?_
                            rotate_left
                            · intro w'
                              go_simp
                              with_reducible rfl
                            rotate_left
                            · simp only [Act.put, List.setIfInBounds_toArray, List.set_cons_zero, List.set_cons_succ, i64_w, i32_w]
                              rfl
                            refine pure_ (i := 4) (N := some 37) (v := ?_) (a' := ?_) #[true, true, true, true, true, false, false, false, false, false, false, false, false, false, false] rfl rfl (any_of HT_.out (by kernel_rfl)) (fun _ _ _ h => h) (Or.inl ⟨by rfl, ?_⟩) ?_ ?_
                            rotate_left
                            · intro w'
                              go_simp
                              with_reducible rfl
                            rotate_left
                            · simp only [Act.put, List.setIfInBounds_toArray, List.set_cons_zero, List.set_cons_succ, i64_w, i32_w]
                              rfl
                            refine pure_ (i := 5) (N := some 38) (v := ?_) (a' := ?_) #[true, true, true, true, true, true, false, false, false, false, false, false, false, false, false] rfl rfl (any_of HT_.out (by kernel_rfl)) (fun _ _ _ h => h) (Or.inl ⟨by rfl, ?_⟩) ?_ ?_
                            rotate_left
                            · intro w'
                              go_simp
                              with_reducible rfl
                            rotate_left
                            · simp only [Act.put, List.setIfInBounds_toArray, List.set_cons_zero, List.set_cons_succ, i64_w, i32_w]
                              rfl
                            refine pure_ (i := 6) (N := some 39) (v := ?_) (a' := ?_) #[true, true, true, true, true, true, true, false, false, false, false, false, false, false, false] rfl rfl (any_of HT_.out (by kernel_rfl)) (fun _ _ _ h => h) (Or.inl ⟨by rfl, ?_⟩) ?_ ?_
                            rotate_left
                            · intro w'
                              go_simp
                              with_reducible rfl
                            rotate_left
                            · simp only [Act.put, List.setIfInBounds_toArray, List.set_cons_zero, List.set_cons_succ, i64_w, i32_w]
                              rfl
                            refine pure_ (i := 7) (N := some 40) (v := ?_) (a' := ?_) #[true, true, true, true, true, true, true, true, false, false, false, false, false, false, false] rfl rfl (any_of HT_.out (by kernel_rfl)) (fun _ _ _ h => h) (Or.inl ⟨by rfl, ?_⟩) ?_ ?_
                            rotate_left
                            · intro w'
                              go_simp
                              with_reducible rfl
                            rotate_left
                            · simp only [Act.put, List.setIfInBounds_toArray, List.set_cons_zero, List.set_cons_succ, i64_w, i32_w]
                              rfl
                            refine pure_ (i := 9) (N := some 42) (v := ?_) (a' := ?_) #[true, true, true, true, true, true, true, true, false, true, false, false, false, false, false] rfl rfl (any_of HT_.out (by kernel_rfl)) (fun _ _ _ h => h) (Or.inl ⟨by rfl, ?_⟩) ?_ ?_
                            rotate_left
                            · intro w'
                              go_simp
                              with_reducible rfl
                            rotate_left
                            · simp only [Act.put, List.setIfInBounds_toArray, List.set_cons_zero, List.set_cons_succ, i64_w, i32_w]
                              rfl
                            refine pure_ (i := 10) (N := some 43) (v := ?_) (a' := ?_) #[true, true, true, true, true, true, true, true, false, true, true, false, false, false, false] rfl rfl (any_of HT_.out (by kernel_rfl)) (fun _ _ _ h => h) (Or.inl ⟨by rfl, ?_⟩) ?_ ?_
                            rotate_left
                            · intro w'
                              go_simp
                              with_reducible rfl
                            rotate_left
                            · simp only [Act.put, List.setIfInBounds_toArray, List.set_cons_zero, List.set_cons_succ, i64_w, i32_w]
                              rfl
                            refine pure_ (i := 11) (N := some 44) (v := ?_) (a' := ?_) #[true, true, true, true, true, true, true, true, false, true, true, true, false, false, false] rfl rfl (any_of HT_.out (by kernel_rfl)) (fun _ _ _ h => h) (Or.inl ⟨by rfl, ?_⟩) ?_ ?_
                            rotate_left
                            · intro w'
                              go_simp
                              with_reducible rfl
                            rotate_left
                            · simp only [Act.put, List.setIfInBounds_toArray, List.set_cons_zero, List.set_cons_succ, i64_w, i32_w]
                              rfl
                            refine take_ (i := 8) (N := some 41) (v := ?_) (a' := ?_) #[true, true, true, true, true, true, true, true, true, true, true, true, false, false, false] rfl rfl (take_ofW HT_.out HW_.out (by kernel_rfl)) (fun _ _ _ h => h) (Or.inl ⟨by rfl, ?_⟩) hHeld ?_ ?_
                            rotate_left
                            · rintro w' ⟨s0, s1, s2, s3⟩
                              go_simp
                              with_reducible rfl
                            rotate_left
                            · simp only [Act.put, List.setIfInBounds_toArray, List.set_cons_zero, List.set_cons_succ, i64_w, i32_w]
                              rfl
                            refine take_ (i := 12) (N := some 45) (v := ?_) (a' := ?_) #[true, true, true, true, true, true, true, true, true, true, true, true, true, false, false] rfl rfl (take_ofW HT_.out HW_.out (by kernel_rfl)) (fun _ _ _ h => h) (Or.inl ⟨by rfl, ?_⟩) hHeld ?_ ?_
                            rotate_left
                            · rintro w' ⟨s0, s1, s2, s3⟩
                              go_simp
                              with_reducible rfl
                            rotate_left
                            · simp only [Act.put, List.setIfInBounds_toArray, List.set_cons_zero, List.set_cons_succ, i64_w, i32_w]
                              rfl
                            refine pure_ (i := 13) (N := some 46) (v := ?_) (a' := ?_) #[true, true, true, true, true, true, true, true, true, true, true, true, true, true, false] rfl rfl (any_of HT_.out (by kernel_rfl)) (fun _ _ _ h => h) (Or.inl ⟨by rfl, ?_⟩) ?_ ?_
                            rotate_left
                            · intro w'
                              go_simp
                              with_reducible rfl
                            rotate_left
                            · simp only [Act.put, List.setIfInBounds_toArray, List.set_cons_zero, List.set_cons_succ, i64_w, i32_w]
                              rfl
                            refine pure_ (i := 14) (N := some 47) (v := ?_) (a' := ?_) #[true, true, true, true, true, true, true, true, true, true, true, true, true, true, true] rfl rfl (any_of HT_.out (by kernel_rfl)) (fun _ _ _ h => h) (Or.inl ⟨by rfl, ?_⟩) ?_ ?_
                            rotate_left
                            · intro w'
                              go_simp
                              with_reducible rfl
                            rotate_left
                            · simp only [Act.put, List.setIfInBounds_toArray, List.set_cons_zero, List.set_cons_succ, i64_w, i32_w]
                              rfl
                            refine done_ (done_of HT_.out (by kernel_rfl)) ?_
                            try go_wp2
                            go_roundg kj2
                            case measure => have := HK1.out; have := HK2.out; have := HJ2.out; omega
                            case rel => exact ⟨(x3_1), (wrap64 (x4_1 + 1)), (by first | rfl | (simp; done) | (simp [*]; done)), H', ⟨by have := HK1.out; have := HK2.out; have := HJ2.out; omega⟩, ⟨by (with_reducible repeat (first | apply Kd.R_alloc | apply Kd.R_drewN | apply Kd.R_drew)); exact HO_3.out⟩, ⟨by repeat (first | (with_reducible first | exact HB.out | apply below_alloc | apply pw_below_drewN | apply below_drew1) | exact HB.out)⟩⟩
                          · rw [if_neg c24] at H
                            have c24b0 : (((rd_T30 x3_1 x5_2).f0) == ((rd_T30 l0 x4_1).f0) && (((rd_T30 x3_1 x5_2).f1) == ((rd_T30 l0 x4_1).f1))) = false := by simpa using c24
                            (try (have c24b1 : decide (((rd_T30 x3_1 x5_2).f0) = ((rd_T30 l0 x4_1).f0) && (((rd_T30 x3_1 x5_2).f1) == ((rd_T30 l0 x4_1).f1))) = false := by simpa using c24))
                            (try (have c24b2 : (((rd_T30 x3_1 x5_2).f0) == ((rd_T30 l0 x4_1).f0) && (((rd_T30 x3_1 x5_2).f1) == ((rd_T30 l0 x4_1).f1))) = false := by simpa using c24))
                            (try (have c24b3 : ¬ (((rd_T30 x3_1 x5_2).f0) = ((rd_T30 l0 x4_1).f0) && (((rd_T30 x3_1 x5_2).f1) == ((rd_T30 l0 x4_1).f1))) := by simpa using c24))
                            clear c24
                            obtain ⟨y175, hy175⟩ : ∃ y_ : List (S30), y_ = (([] : List (S30))) := ⟨_, rfl⟩
                            replace H : (if x5_2 ≤ (x3_1.length : Int) then ((some (x3_1.take (x5_2 : Int).toNat : List (S30))).bind fun y178 => (if y175.length + y178.length < 17592186044416 then ((some (y175 ++ y178 : List (S30))).bind fun y182 => (if y182.length < 17592186044416 then ((some (y182 ++ [(⟨(rd_T30 l0 x4_1).f0, (rd_T30 l0 x4_1).f1⟩ : S30)] : List (S30))).bind fun y186 => ((some (x3_1.drop (x5_2 : Int).toNat : List (S30))).bind fun y189 => (if y186.length + y189.length < 17592186044416 then (waystoneref05_Ranges.l0 kj2 l0 (y186 ++ y189) (wrap64 (x4_1 + 1))) else (none)))) else (none))) else (none))) else (none)) = some r := by first | (rw [hy175]; with_reducible exact H) | (have H2_ := (Option.bind_some _ _).symm.trans H; rw [hy175]; with_reducible exact H2_) | (have H2_ := (Option.bind_some _ _).symm.trans H; with_reducible exact H2_) | with_reducible exact H | (rw [hy175]; exact H) | exact H
                            have Ny175 := Aside0.mk hy175
                            clear hy175
                            have c27b0 := eq_true (of_decide_eq_true (by first | (with_reducible assumption) | assumption) : 0 ≤ x5_2)
                            by_cases c28 : x5_2 ≤ (x3_1.length : Int)
                            · rw [if_pos c28] at H
                              have c28b0 := eq_true c28
                              have c28b1 : decide (x5_2 ≤ (x3_1.length : Int)) = true := decide_eq_true c28
                              clear c28
                              obtain ⟨y178, hy178⟩ : ∃ y_ : List (S30), y_ = (x3_1.take (x5_2 : Int).toNat) := ⟨_, rfl⟩
                              replace H : (if y175.length + y178.length < 17592186044416 then ((some (y175 ++ y178 : List (S30))).bind fun y182 => (if y182.length < 17592186044416 then ((some (y182 ++ [(⟨(rd_T30 l0 x4_1).f0, (rd_T30 l0 x4_1).f1⟩ : S30)] : List (S30))).bind fun y186 => ((some (x3_1.drop (x5_2 : Int).toNat : List (S30))).bind fun y189 => (if y186.length + y189.length < 17592186044416 then (waystoneref05_Ranges.l0 kj2 l0 (y186 ++ y189) (wrap64 (x4_1 + 1))) else (none)))) else (none))) else (none)) = some r := by first | (rw [hy178]; with_reducible exact H) | (have H2_ := (Option.bind_some _ _).symm.trans H; rw [hy178]; with_reducible exact H2_) | (have H2_ := (Option.bind_some _ _).symm.trans H; with_reducible exact H2_) | with_reducible exact H | (rw [hy178]; exact H) | exact H
                              have Ny178 := Aside0.mk hy178
                              clear hy178
                              by_cases c29 : y175.length + y178.length < 17592186044416
                              · rw [if_pos c29] at H
                                have LMc29 := Aside0.mk c29
                                clear c29
                                obtain ⟨y182, hy182⟩ : ∃ y_ : List (S30), y_ = (y175 ++ y178) := ⟨_, rfl⟩
                                replace H : (if y182.length < 17592186044416 then ((some (y182 ++ [(⟨(rd_T30 l0 x4_1).f0, (rd_T30 l0 x4_1).f1⟩ : S30)] : List (S30))).bind fun y186 => ((some (x3_1.drop (x5_2 : Int).toNat : List (S30))).bind fun y189 => (if y186.length + y189.length < 17592186044416 then (waystoneref05_Ranges.l0 kj2 l0 (y186 ++ y189) (wrap64 (x4_1 + 1))) else (none)))) else (none)) = some r := by first | (rw [hy182]; with_reducible exact H) | (have H2_ := (Option.bind_some _ _).symm.trans H; rw [hy182]; with_reducible exact H2_) | (have H2_ := (Option.bind_some _ _).symm.trans H; with_reducible exact H2_) | with_reducible exact H | (rw [hy182]; exact H) | exact H
                                have Ny182 := Aside0.mk hy182
                                clear hy182
                                by_cases c30 : y182.length < 17592186044416
                                · rw [if_pos c30] at H
                                  have LMc30 := Aside0.mk c30
                                  clear c30
                                  obtain ⟨y186, hy186⟩ : ∃ y_ : List (S30), y_ = (y182 ++ [(⟨(rd_T30 l0 x4_1).f0, (rd_T30 l0 x4_1).f1⟩ : S30)]) := ⟨_, rfl⟩
                                  replace H : ((some (x3_1.drop (x5_2 : Int).toNat : List (S30))).bind fun y189 => (if y186.length + y189.length < 17592186044416 then (waystoneref05_Ranges.l0 kj2 l0 (y186 ++ y189) (wrap64 (x4_1 + 1))) else (none))) = some r := by first | (rw [hy186]; with_reducible exact H) | (have H2_ := (Option.bind_some _ _).symm.trans H; rw [hy186]; with_reducible exact H2_) | (have H2_ := (Option.bind_some _ _).symm.trans H; with_reducible exact H2_) | with_reducible exact H | (rw [hy186]; exact H) | exact H
                                  have Ny186 := Aside0.mk hy186
                                  clear hy186
                                  have c31b0 := eq_true (of_decide_eq_true (by first | (with_reducible assumption) | assumption) : 0 ≤ x5_2)
                                  have c32b0 := eq_true (of_decide_eq_true (by first | (with_reducible assumption) | assumption) : x5_2 ≤ (x3_1.length : Int))
                                  obtain ⟨y189, hy189⟩ : ∃ y_ : List (S30), y_ = (x3_1.drop (x5_2 : Int).toNat) := ⟨_, rfl⟩
                                  replace H : (if y186.length + y189.length < 17592186044416 then (waystoneref05_Ranges.l0 kj2 l0 (y186 ++ y189) (wrap64 (x4_1 + 1))) else (none)) = some r := by first | (rw [hy189]; with_reducible exact H) | (have H2_ := (Option.bind_some _ _).symm.trans H; rw [hy189]; with_reducible exact H2_) | (have H2_ := (Option.bind_some _ _).symm.trans H; with_reducible exact H2_) | with_reducible exact H | (rw [hy189]; exact H) | exact H
                                  have Ny189 := Aside0.mk hy189
                                  clear hy189
                                  by_cases c33 : y186.length + y189.length < 17592186044416
                                  · rw [if_pos c33] at H
                                    have LMc33 := Aside0.mk c33
                                    clear c33
                                    obtain ⟨y193, hy193⟩ : ∃ y_ : List (S30), y_ = (y186 ++ y189) := ⟨_, rfl⟩
                                    replace H : (waystoneref05_Ranges.l0 kj2 l0 y193 (wrap64 (x4_1 + 1))) = some r := by first | (rw [hy193]; with_reducible exact H) | (have H2_ := (Option.bind_some _ _).symm.trans H; rw [hy193]; with_reducible exact H2_) | (have H2_ := (Option.bind_some _ _).symm.trans H; with_reducible exact H2_) | with_reducible exact H | (rw [hy193]; exact H) | exact H
                                    have Ny193 := Aside0.mk hy193
                                    clear hy193
                                    have H' := Aside0.mk H
                                    clear H
                                    try go_wp2
                                    have n0_ := Aside0.mk (Kd.R_drew HO_3.out)
                                    have n1_ := Aside0.mk (below_drew1 HB.out)
                                    clear HO_3
                                    clear HB
                                    have HO_3 := n0_
                                    have HB := n1_
                                    clear n0_ n1_
                                    obtain ⟨Ao35, co35, eo35⟩ := Kd.R_slice HO_3.out
                                    (first | subst eo35 | (injection eo35 with f1_ f2_ f3_; have f4_ := f1_.symm; have f5_ := f3_.symm; clear f1_ f2_ f3_; subst f4_; subst f5_))
                                    have p173 : 0 ≤ (x5_2 : Int) := of_decide_eq_true (by first | (with_reducible assumption) | assumption)
                                    have q173 : x5_2 < (x3_1.length : Int) := of_decide_eq_true (by first | (with_reducible assumption) | assumption)
                                    obtain ⟨ad173, e173, hx173_0, hx173_1⟩ := at_T30 (Kd.R_reads' HO_3.out).2.2 x5_2 p173 q173
                                    cases e173
                                    replace p173 := eq_true p173
                                    replace q173 := eq_true q173
                                    have p174 : 0 ≤ (x4_1 : Int) := of_decide_eq_true (by first | (with_reducible assumption) | assumption)
                                    have q174 : x4_1 < (l0.length : Int) := of_decide_eq_true (by first | (with_reducible assumption) | assumption)
                                    obtain ⟨ad174, e174, hx174_0, hx174_1⟩ := at_T30 HR0.out x4_1 p174 q174
                                    have hw174_1 := hx174_1
                                    have hw174_0 := hx174_0
                                    cases e174
                                    replace hx174_0 := (HB.out.cell (World.block_lt_of_cell? w _ hx174_0)).trans hx174_0
                                    replace hx174_1 := (HB.out.cell (World.block_lt_of_cell? w _ hx174_1)).trans hx174_1
                                    replace p174 := eq_true p174
                                    replace q174 := eq_true q174
                                    refine start_ (n := 15) (S := fun w' => w'.cell? (ad173.add ((x5_2).toNat * 2)) = some (.int .u32 ((rd_T30 x3_1 x5_2).f0)) ∧ w'.cell? ⟨(ad173.add ((x5_2).toNat * 2)).block, (ad173.add ((x5_2).toNat * 2)).off + 1, none⟩ = some (.int .u32 ((rd_T30 x3_1 x5_2).f1)) ∧ w'.cell? (ad174.add ((x4_1).toNat * 2)) = some (.int .u32 ((rd_T30 l0 x4_1).f0)) ∧ w'.cell? ⟨(ad174.add ((x4_1).toNat * 2)).block, (ad174.add ((x4_1).toNat * 2)).off + 1, none⟩ = some (.int .u32 ((rd_T30 l0 x4_1).f1))) (ds := []) #[false, false, false, false, false, false, false, false, false, false, false, false, false, false, false] (by kernel_rfl) rfl rfl ⟨hx173_0, hx173_1, ((HB.out.cell (World.block_lt_of_cell? w _ hw174_0)).trans hw174_0), ((HB.out.cell (World.block_lt_of_cell? w _ hw174_1)).trans hw174_1)⟩ (fun hHeld => ?_); refine with_tabW waystoneref05_Ranges.tab11 waystoneref05_Ranges.bits11 (fun HT_ HW_ => ?_)
                                    generalize wc.drew = w34 at HO_3 HB hx173_0 hx173_1 hx174_0 hx174_1 hHeld ⊢
                                    refine pure_ (i := 0) (N := some 33) (v := ?_) (a' := ?_) #[true, false, false, false, false, false, false, false, false, false, false, false, false, false, false] rfl rfl (any_of HT_.out (by kernel_rfl)) (fun _ _ _ h => h) (Or.inl ⟨by rfl, ?_⟩) ?_ ?_
                                    rotate_left
                                    · intro w'
                                      go_simp
                                      with_reducible rfl
                                    rotate_left
                                    · simp only [Act.put, List.setIfInBounds_toArray, List.set_cons_zero, List.set_cons_succ, i64_w, i32_w]
                                      rfl
                                    refine pure_ (i := 1) (N := some 34) (v := ?_) (a' := ?_) #[true, true, false, false, false, false, false, false, false, false, false, false, false, false, false] rfl rfl (any_of HT_.out (by kernel_rfl)) (fun _ _ _ h => h) (Or.inl ⟨by rfl, ?_⟩) ?_ ?_
                                    rotate_left
                                    · intro w'
                                      go_simp
                                      with_reducible rfl
                                    rotate_left
                                    · simp only [Act.put, List.setIfInBounds_toArray, List.set_cons_zero, List.set_cons_succ, i64_w, i32_w]
                                      rfl
                                    refine pure_ (i := 2) (N := some 35) (v := ?_) (a' := ?_) #[true, true, true, false, false, false, false, false, false, false, false, false, false, false, false] rfl rfl (any_of HT_.out (by kernel_rfl)) (fun _ _ _ h => h) (Or.inl ⟨by rfl, ?_⟩) ?_ ?_
                                    rotate_left
                                    · intro w'
                                      go_simp
                                      with_reducible rfl
                                    rotate_left
                                    · simp only [Act.put, List.setIfInBounds_toArray, List.set_cons_zero, List.set_cons_succ, i64_w, i32_w]
                                      rfl
                                    refine pure_ (i := 3) (N := some 36) (v := ?_) (a' := ?_) #[true, true, true, true, false, false, false, false, false, false, false, false, false, false, false] rfl rfl (any_of HT_.out (by kernel_rfl)) (fun _ _ _ h => h) (Or.inl ⟨by rfl, ?_⟩) ?_ ?_
                                    rotate_left
                                    · intro w'
                                      go_simp
                                      with_reducible rfl
                                    rotate_left
                                    · simp only [Act.put, List.setIfInBounds_toArray, List.set_cons_zero, List.set_cons_succ, i64_w, i32_w]
                                      rfl
                                    refine pure_ (i := 4) (N := some 37) (v := ?_) (a' := ?_) #[true, true, true, true, true, false, false, false, false, false, false, false, false, false, false] rfl rfl (any_of HT_.out (by kernel_rfl)) (fun _ _ _ h => h) (Or.inl ⟨by rfl, ?_⟩) ?_ ?_
                                    rotate_left
                                    · intro w'
                                      go_simp
                                      with_reducible rfl
                                    rotate_left
                                    · simp only [Act.put, List.setIfInBounds_toArray, List.set_cons_zero, List.set_cons_succ, i64_w, i32_w]
                                      rfl
                                    refine pure_ (i := 5) (N := some 38) (v := ?_) (a' := ?_) #[true, true, true, true, true, true, false, false, false, false, false, false, false, false, false] rfl rfl (any_of HT_.out (by kernel_rfl)) (fun _ _ _ h => h) (Or.inl ⟨by rfl, ?_⟩) ?_ ?_
                                    rotate_left
                                    · intro w'
                                      go_simp
                                      with_reducible rfl
                                    rotate_left
                                    · simp only [Act.put, List.setIfInBounds_toArray, List.set_cons_zero, List.set_cons_succ, i64_w, i32_w]
                                      rfl
                                    refine pure_ (i := 6) (N := some 39) (v := ?_) (a' := ?_) #[true, true, true, true, true, true, true, false, false, false, false, false, false, false, false] rfl rfl (any_of HT_.out (by kernel_rfl)) (fun _ _ _ h => h) (Or.inl ⟨by rfl, ?_⟩) ?_ ?_
                                    rotate_left
                                    · intro w'
                                      go_simp
                                      with_reducible rfl
                                    rotate_left
                                    · simp only [Act.put, List.setIfInBounds_toArray, List.set_cons_zero, List.set_cons_succ, i64_w, i32_w]
                                      rfl
                                    refine pure_ (i := 7) (N := some 40) (v := ?_) (a' := ?_) #[true, true, true, true, true, true, true, true, false, false, false, false, false, false, false] rfl rfl (any_of HT_.out (by kernel_rfl)) (fun _ _ _ h => h) (Or.inl ⟨by rfl, ?_⟩) ?_ ?_
                                    rotate_left
                                    · intro w'
                                      go_simp
                                      with_reducible rfl
                                    rotate_left
                                    · simp only [Act.put, List.setIfInBounds_toArray, List.set_cons_zero, List.set_cons_succ, i64_w, i32_w]
                                      rfl
                                    refine pure_ (i := 9) (N := some 42) (v := ?_) (a' := ?_) #[true, true, true, true, true, true, true, true, false, true, false, false, false, false, false] rfl rfl (any_of HT_.out (by kernel_rfl)) (fun _ _ _ h => h) (Or.inl ⟨by rfl, ?_⟩) ?_ ?_
                                    rotate_left
                                    · intro w'
                                      go_simp
                                      with_reducible rfl
                                    rotate_left
                                    · simp only [Act.put, List.setIfInBounds_toArray, List.set_cons_zero, List.set_cons_succ, i64_w, i32_w]
                                      rfl
                                    refine pure_ (i := 10) (N := some 43) (v := ?_) (a' := ?_) #[true, true, true, true, true, true, true, true, false, true, true, false, false, false, false] rfl rfl (any_of HT_.out (by kernel_rfl)) (fun _ _ _ h => h) (Or.inl ⟨by rfl, ?_⟩) ?_ ?_
                                    rotate_left
                                    · intro w'
                                      go_simp
                                      with_reducible rfl
                                    rotate_left
                                    · simp only [Act.put, List.setIfInBounds_toArray, List.set_cons_zero, List.set_cons_succ, i64_w, i32_w]
                                      rfl
                                    refine pure_ (i := 11) (N := some 44) (v := ?_) (a' := ?_) #[true, true, true, true, true, true, true, true, false, true, true, true, false, false, false] rfl rfl (any_of HT_.out (by kernel_rfl)) (fun _ _ _ h => h) (Or.inl ⟨by rfl, ?_⟩) ?_ ?_
                                    rotate_left
                                    · intro w'
                                      go_simp
                                      with_reducible rfl
                                    rotate_left
                                    · simp only [Act.put, List.setIfInBounds_toArray, List.set_cons_zero, List.set_cons_succ, i64_w, i32_w]
                                      rfl
                                    refine take_ (i := 8) (N := some 41) (v := ?_) (a' := ?_) #[true, true, true, true, true, true, true, true, true, true, true, true, false, false, false] rfl rfl (take_ofW HT_.out HW_.out (by kernel_rfl)) (fun _ _ _ h => h) (Or.inl ⟨by rfl, ?_⟩) hHeld ?_ ?_
                                    rotate_left
                                    · rintro w' ⟨s0, s1, s2, s3⟩
                                      go_simp
                                      with_reducible rfl
                                    rotate_left
                                    · simp only [Act.put, List.setIfInBounds_toArray, List.set_cons_zero, List.set_cons_succ, i64_w, i32_w]
                                      rfl
                                    refine take_ (i := 12) (N := some 45) (v := ?_) (a' := ?_) #[true, true, true, true, true, true, true, true, true, true, true, true, true, false, false] rfl rfl (take_ofW HT_.out HW_.out (by kernel_rfl)) (fun _ _ _ h => h) (Or.inl ⟨by rfl, ?_⟩) hHeld ?_ ?_
                                    rotate_left
                                    · rintro w' ⟨s0, s1, s2, s3⟩
                                      go_simp
                                      with_reducible rfl
                                    rotate_left
                                    · simp only [Act.put, List.setIfInBounds_toArray, List.set_cons_zero, List.set_cons_succ, i64_w, i32_w]
                                      rfl
                                    refine pure_ (i := 13) (N := some 46) (v := ?_) (a' := ?_) #[true, true, true, true, true, true, true, true, true, true, true, true, true, true, false] rfl rfl (any_of HT_.out (by kernel_rfl)) (fun _ _ _ h => h) (Or.inl ⟨by rfl, ?_⟩) ?_ ?_
                                    rotate_left
                                    · intro w'
                                      go_simp
                                      with_reducible rfl
                                    rotate_left
                                    · simp only [Act.put, List.setIfInBounds_toArray, List.set_cons_zero, List.set_cons_succ, i64_w, i32_w]
                                      rfl
                                    refine pure_ (i := 14) (N := some 47) (v := ?_) (a' := ?_) #[true, true, true, true, true, true, true, true, true, true, true, true, true, true, true] rfl rfl (any_of HT_.out (by kernel_rfl)) (fun _ _ _ h => h) (Or.inl ⟨by rfl, ?_⟩) ?_ ?_
                                    rotate_left
                                    · intro w'
                                      go_simp
                                      with_reducible rfl
                                    rotate_left
                                    · simp only [Act.put, List.setIfInBounds_toArray, List.set_cons_zero, List.set_cons_succ, i64_w, i32_w]
                                      rfl
                                    refine done_ (done_of HT_.out (by kernel_rfl)) ?_
                                    try go_wp2_with (first | ((with_reducible refine gate_dst (N := 48) rfl ?_); refine Kd.R_lit k30 _ 30 ?hg (N := 48) ?hd (xs := ([] : List (S30))) (inner := []) (ok := fun _ => True) (okp := fun _ => True) ?hr ?hp (fun _ hk => hk) trivial (Below.refl _ _) (Nat.le_refl _) (by simp) ?_; (case hd => rfl); (case hg => rfl); (case hr => first | (go_simp; done) | (go_simp; rfl)); (case hp => exact (Reps.none _ _)); intro v176 w36 ho37 hb hg_ hnew_; clear hg_ hnew_; (first | rw [← Ny175.out] at ho37 | (simp only [Int.reduceToNat] at ho37; rw [← Ny175.out] at ho37)); have n0_ := Aside0.mk (Kd.R_elder' (by (with_reducible repeat (first | apply Kd.R_alloc | apply Kd.R_drewN | apply Kd.R_drew)); exact HO_3.out) (Kd.R_base ho37) hb); have n1_ := Aside0.mk (Kd.R_lower (Kd.R_new' ho37 (Kd.R_lt (by (with_reducible repeat (first | apply Kd.R_alloc | apply Kd.R_drewN | apply Kd.R_drew)); exact HO_3.out))) (below_size (by repeat (first | (with_reducible first | exact HB.out | apply below_alloc | apply pw_below_drewN | apply below_drew1) | exact HB.out)))); have n2_ := Aside0.mk (below_step (by repeat (first | (with_reducible first | exact HB.out | apply below_alloc | apply pw_below_drewN | apply below_drew1) | exact HB.out)) hb); clear HO_3; clear HB; have HO_3 := n0_; have HO177 := n1_; have HB := n2_; clear n0_ n1_ n2_; clear hb ho37; have q38 : (x5_2 : Int) ≤ ((x3_1.length : Int) : Int) := of_decide_eq_true (by first | (with_reducible assumption) | assumption); obtain ⟨i038, hi038, _, hsz38, _⟩ := info_parts info30; have hroom38 : x3_1.length ≤ co35 := (Kd.R_reads' HO_3.out).2.1; have hC38 : Kd.C k30 _ (some ad173) x3_1.length x3_1 := (Kd.R_reads' HO_3.out).2.2; have hcut38 := cut_to (P := Try.prog) 22 30 .i64 Try.underlying22 hi038 (some ad173) x3_1.length co35 x5_2 (of_decide_eq_true (by first | (with_reducible assumption) | assumption)) q38 hroom38; have hr38 := Kd.C_take (m := (x5_2 : Int).toNat) hC38 (by omega); have hy38 : y178.length = (x5_2 : Int).toNat := (by rw [Ny178.out, List.length_take]; omega); rw [← Ny178.out] at hr38; rw [← hy38] at hcut38; have HR181 := Aside0.mk hr38; have HC181 := Aside0.mk (show y178.length ≤ co35 from by omega); clear hr38 hC38 hroom38 hi038 hsz38; have KY38 := Aside0.mk hy38; clear hy38; have KL38 := Aside0.mk (show (x5_2 : Int).toNat ≤ x3_1.length from by omega); replace q38 := eq_true q38) | ((with_reducible refine gate_builtin (b := .append) (xs := #[.tmp 48, .tmp 51]) rfl ?_); at_builtin; refine Kd.R_append_rows k30 (w0 := w) w.heap.size rfl (.tmp 48) (.tmp 51) 22 30 (.agg #[(.int .u32 0), (.int .u32 0)]) 8 rfl Try.underlying22 info30 rfl (by decide) (by omega) v176 y175 y178 _ _ _ (fun k_ => some k_ ≠ (.slice (some ad173) x3_1.length co35 : Value).ownBlock) (fun _ => False) rfl rfl ?aO ?aR (fun _ _ h => h) (fun _ h => h.elim) ?aF ?aB ?aS ?aL ?_; (case aR => repeat (first | exact (by repeat (first | (with_reducible exact HR181.out) | (with_reducible refine Kd.C_alloc ?_ _) | (with_reducible refine Kd.C_drewN ?_ _) | (with_reducible refine Kd.C_drew ?_) | exact HR181.out)) | (with_reducible refine Kd.C_alloc ?_ _) | (with_reducible refine Kd.C_drewN ?_ _) | (with_reducible refine Kd.C_drew ?_))); (case aB => exact (by repeat (first | (with_reducible first | exact HB.out | apply below_alloc | apply pw_below_drewN | apply below_drew1) | exact HB.out))); (case aF => exact (fun k_ hk => Kd.fresh' (Kd.R_lt (by (with_reducible repeat (first | apply Kd.R_alloc | apply Kd.R_drewN | apply Kd.R_drew)); exact HO_3.out)) k_ hk)); (case aO => exact (by (with_reducible repeat (first | apply Kd.R_alloc | apply Kd.R_drewN | apply Kd.R_drew)); exact Kd.R_mono HO177.out (fun _ hk => hk.2))); (case aS => exact (below_size (by repeat (first | (with_reducible first | exact HB.out | apply below_alloc | apply pw_below_drewN | apply below_drew1) | exact HB.out)))); (case aL => have := LMc29.out; omega); intro v183 w39 ho hb hg hat; rw [← Ny182.out] at ho; have n0_ := Aside0.mk (Kd.R_after (ok := (fun _ => True)) (by (with_reducible repeat (first | apply Kd.R_alloc | apply Kd.R_drewN | apply Kd.R_drew)); exact HO_3.out) hg hat); have n1_ := Aside0.mk (hb); have n2_ := Aside0.mk ((show Kd.C k30 w39 (some ad173) y178.length y178 from by rw [Ny178.out]; exact Kd.C_take (m := (x5_2 : Int).toNat) ((Kd.R_reads' (Kd.R_after (ok := (fun _ => True)) (by (with_reducible repeat (first | apply Kd.R_alloc | apply Kd.R_drewN | apply Kd.R_drew)); exact HO_3.out) hg hat)).2.2) KL38.out)); have n3_ := Aside0.mk (ho); clear HO_3; clear HB; clear HR181; clear HO177; have HO_3 := n0_; have HB := n1_; have HR181 := n2_; have HO184 := n3_; clear n0_ n1_ n2_ n3_; clear ho hb hg hat; have p185 : 0 ≤ (x4_1 : Int) := of_decide_eq_true (by first | (with_reducible assumption) | assumption); have q185 : x4_1 < (l0.length : Int) := of_decide_eq_true (by first | (with_reducible assumption) | assumption); obtain ⟨ad185, e185, hx185_0, hx185_1⟩ := at_T30 HR0.out x4_1 p185 q185; obtain rfl : ad174 = ad185 := (by injection e185); replace hx185_0 := (HB.out.cell (World.block_lt_of_cell? w _ hx185_0)).trans hx185_0; replace hx185_1 := (HB.out.cell (World.block_lt_of_cell? w _ hx185_1)).trans hx185_1; replace p185 := eq_true p185; replace q185 := eq_true q185) | ((with_reducible refine gate_builtin (b := .append) (xs := #[.tmp 53, .tmp 58]) rfl ?_); at_builtin; refine Kd.R_append k30 (w0 := w) w.heap.size rfl (.tmp 53) (.tmp 58) 22 30 (.agg #[(.int .u32 0), (.int .u32 0)]) 8 rfl Try.underlying22 info30 rfl (by decide) (by omega) v183 y182 (⟨(rd_T30 l0 x4_1).f0, (rd_T30 l0 x4_1).f1⟩ : S30) [.int .u32 ((rd_T30 l0 x4_1).f0), .int .u32 ((rd_T30 l0 x4_1).f1)] (fun k_ => some k_ ≠ (.slice (some ad173) x3_1.length co35 : Value).ownBlock) (fun _ => False) rfl rfl ?aP (fun _ hk => hk.elim) ?aF ?aO ?aB ?aS ?aL ?_; (case aP => exact k30_mkM _ _ _ (⟨(rd_T30 l0 x4_1).f0, (rd_T30 l0 x4_1).f1⟩ : S30)); (case aB => exact (by repeat (first | (with_reducible first | exact HB.out | apply below_alloc | apply pw_below_drewN | apply below_drew1) | exact HB.out))); (case aF => exact (fun k_ hk => Kd.fresh' (Kd.R_lt (by (with_reducible repeat (first | apply Kd.R_alloc | apply Kd.R_drewN | apply Kd.R_drew)); exact HO_3.out)) k_ hk)); (case aO => exact (by (with_reducible repeat (first | apply Kd.R_alloc | apply Kd.R_drewN | apply Kd.R_drew)); exact HO184.out)); (case aS => exact (below_size (by repeat (first | (with_reducible first | exact HB.out | apply below_alloc | apply pw_below_drewN | apply below_drew1) | exact HB.out)))); (case aL => have := LMc30.out; omega); intro v187 w40 ho hb hg hat; rw [← Ny186.out] at ho; have n0_ := Aside0.mk (Kd.R_after (ok := (fun _ => True)) (by (with_reducible repeat (first | apply Kd.R_alloc | apply Kd.R_drewN | apply Kd.R_drew)); exact HO_3.out) hg hat); have n1_ := Aside0.mk (hb); have n2_ := Aside0.mk ((show Kd.C k30 w40 (some ad173) y178.length y178 from by rw [Ny178.out]; exact Kd.C_take (m := (x5_2 : Int).toNat) ((Kd.R_reads' (Kd.R_after (ok := (fun _ => True)) (by (with_reducible repeat (first | apply Kd.R_alloc | apply Kd.R_drewN | apply Kd.R_drew)); exact HO_3.out) hg hat)).2.2) KL38.out)); have n3_ := Aside0.mk (ho); clear HO_3; clear HB; clear HR181; clear HO184; have HO_3 := n0_; have HB := n1_; have HR181 := n2_; have HO188 := n3_; clear n0_ n1_ n2_ n3_; clear ho hb hg hat; have q41 : (x5_2 : Int) ≤ ((x3_1.length : Int) : Int) := of_decide_eq_true (by first | (with_reducible assumption) | assumption); obtain ⟨i041, hi041, _, hsz41, _⟩ := info_parts info30; have hroom41 : x3_1.length ≤ co35 := (Kd.R_reads' HO_3.out).2.1; have hC41 : Kd.C k30 _ (some ad173) x3_1.length x3_1 := (Kd.R_reads' HO_3.out).2.2; have q041 : (0 : Int) ≤ (x5_2 : Int) := of_decide_eq_true (by first | (with_reducible assumption) | assumption); have hcut41 := cut_from (P := Try.prog) 22 30 .i64 Try.underlying22 hi041 2 hsz41 (some ad173) x3_1.length co35 x5_2 q041 q41; have hr41 := Kd.C_drop (m := (x5_2 : Int).toNat) (c := co35) hC41 (by omega) hroom41; obtain ⟨A41, hA41⟩ : ∃ A1, A1 = (if co35 = (x5_2 : Int).toNat then (some ad173) else ((some ad173) : Option Addr).map (·.add ((x5_2 : Int).toNat * 2))) := ⟨_, rfl⟩; obtain ⟨c41, hc41⟩ : ∃ c1, c1 = co35 - (x5_2 : Int).toNat := ⟨_, rfl⟩; have hy41 : y189.length = x3_1.length - (x5_2 : Int).toNat := (by rw [Ny189.out, List.length_drop] <;> omega); rw [show (x3_1).drop (x5_2 : Int).toNat = y189 from Ny189.out.symm] at hr41; replace hr41 : Kd.C k30 _ A41 y189.length y189 := (by rw [hA41]; exact hr41); rw [← hy41, ← hA41, ← hc41] at hcut41; have HR192 := Aside0.mk hr41; have HC192 := Aside0.mk (show y189.length ≤ c41 from by rw [hy41, hc41]; exact Nat.sub_le_sub_right hroom41 _); clear hr41 hC41 hroom41 hi041 hsz41 hc41; have KY41 := Aside0.mk hy41; have KA41 := Aside0.mk hA41; clear hy41 hA41; have KL41 := Aside0.mk (show (x5_2 : Int).toNat ≤ x3_1.length from by omega); replace q41 := eq_true q41) | ((with_reducible refine gate_builtin (b := .append) (xs := #[.tmp 60, .tmp 63]) rfl ?_); at_builtin; refine Kd.R_append_rows k30 (w0 := w) w.heap.size rfl (.tmp 60) (.tmp 63) 22 30 (.agg #[(.int .u32 0), (.int .u32 0)]) 8 rfl Try.underlying22 info30 rfl (by decide) (by omega) v187 y186 y189 _ _ _ (fun k_ => some k_ ≠ (.slice (some ad173) x3_1.length co35 : Value).ownBlock) (fun _ => False) rfl rfl ?aO ?aR (fun _ _ h => h) (fun _ h => h.elim) ?aF ?aB ?aS ?aL ?_; (case aR => repeat (first | exact (by repeat (first | (with_reducible exact HR192.out) | (with_reducible refine Kd.C_alloc ?_ _) | (with_reducible refine Kd.C_drewN ?_ _) | (with_reducible refine Kd.C_drew ?_) | exact HR192.out)) | (with_reducible refine Kd.C_alloc ?_ _) | (with_reducible refine Kd.C_drewN ?_ _) | (with_reducible refine Kd.C_drew ?_))); (case aB => exact (by repeat (first | (with_reducible first | exact HB.out | apply below_alloc | apply pw_below_drewN | apply below_drew1) | exact HB.out))); (case aF => exact (fun k_ hk => Kd.fresh' (Kd.R_lt (by (with_reducible repeat (first | apply Kd.R_alloc | apply Kd.R_drewN | apply Kd.R_drew)); exact HO_3.out)) k_ hk)); (case aO => exact (by (with_reducible repeat (first | apply Kd.R_alloc | apply Kd.R_drewN | apply Kd.R_drew)); exact HO188.out)); (case aS => exact (below_size (by repeat (first | (with_reducible first | exact HB.out | apply below_alloc | apply pw_below_drewN | apply below_drew1) | exact HB.out)))); (case aL => have := LMc33.out; omega); intro v194 w42 ho hb hg hat; rw [← Ny193.out] at ho; have n0_ := Aside0.mk (Kd.R_after (ok := (fun _ => True)) (by (with_reducible repeat (first | apply Kd.R_alloc | apply Kd.R_drewN | apply Kd.R_drew)); exact HO_3.out) hg hat); have n1_ := Aside0.mk (hb); have n2_ := Aside0.mk ((show Kd.C k30 w42 (some ad173) y178.length y178 from by rw [Ny178.out]; exact Kd.C_take (m := (x5_2 : Int).toNat) ((Kd.R_reads' (Kd.R_after (ok := (fun _ => True)) (by (with_reducible repeat (first | apply Kd.R_alloc | apply Kd.R_drewN | apply Kd.R_drew)); exact HO_3.out) hg hat)).2.2) KL38.out)); have n3_ := Aside0.mk ((show Kd.C k30 w42 A41 y189.length y189 from by rw [Ny189.out, KA41.out]; exact Kd.C_drop (m := (x5_2 : Int).toNat) (c := co35) ((Kd.R_reads' (Kd.R_after (ok := (fun _ => True)) (by (with_reducible repeat (first | apply Kd.R_alloc | apply Kd.R_drewN | apply Kd.R_drew)); exact HO_3.out) hg hat)).2.2) KL41.out ((Kd.R_reads' (Kd.R_after (ok := (fun _ => True)) (by (with_reducible repeat (first | apply Kd.R_alloc | apply Kd.R_drewN | apply Kd.R_drew)); exact HO_3.out) hg hat)).2.1))); have n4_ := Aside0.mk (ho); clear HO_3; clear HB; clear HR181; clear HR192; clear HO188; have HO_3 := n0_; have HB := n1_; have HR181 := n2_; have HR192 := n3_; have HO195 := n4_; clear n0_ n1_ n2_ n3_ n4_; clear ho hb hg hat))
                                    go_roundg kj2
                                    case measure => have := HK1.out; have := HK2.out; have := HJ2.out; omega
                                    case rel => exact ⟨(y193), (wrap64 (x4_1 + 1)), (by first | rfl | (simp; done) | (simp [*]; done)), H', ⟨by have := HK1.out; have := HK2.out; have := HJ2.out; omega⟩, ⟨by (with_reducible repeat (first | apply Kd.R_alloc | apply Kd.R_drewN | apply Kd.R_drew)); exact Kd.R_mono HO195.out (fun _ hk => trivial)⟩, ⟨by repeat (first | (with_reducible first | exact HB.out | apply below_alloc | apply pw_below_drewN | apply below_drew1) | exact HB.out)⟩⟩
                                  · rw [if_neg c33] at H
                                    exact absurd H (by simp)
                                · rw [if_neg c30] at H
                                  exact absurd H (by simp)
                              · rw [if_neg c29] at H
                                exact absurd H (by simp)
                            · rw [if_neg c28] at H
                              exact absurd H (by simp)
                        · rw [if_neg c23] at H
                          exact absurd H (by simp)
                      · rw [if_neg c22] at H
                        exact absurd H (by simp)
                    · rw [if_neg c21] at H
                      exact absurd H (by simp)
                  · rw [if_neg c20] at H
                    have c20b0 : decide (x5_2 < (x3_1.length : Int)) = false := decide_eq_false c20
                    clear c20
                    obtain ⟨y196, hy196⟩ : ∃ y_ : List (S30), y_ = (([] : List (S30))) := ⟨_, rfl⟩
                    replace H : (if 0 ≤ x5_2 then (if x5_2 ≤ (x3_1.length : Int) then ((some (x3_1.take (x5_2 : Int).toNat : List (S30))).bind fun y199 => (if y196.length + y199.length < 17592186044416 then ((some (y196 ++ y199 : List (S30))).bind fun y203 => (if 0 ≤ x4_1 then (if x4_1 < (l0.length : Int) then (if y203.length < 17592186044416 then ((some (y203 ++ [(⟨(rd_T30 l0 x4_1).f0, (rd_T30 l0 x4_1).f1⟩ : S30)] : List (S30))).bind fun y207 => ((some (x3_1.drop (x5_2 : Int).toNat : List (S30))).bind fun y210 => (if y207.length + y210.length < 17592186044416 then (waystoneref05_Ranges.l0 kj2 l0 (y207 ++ y210) (wrap64 (x4_1 + 1))) else (none)))) else (none)) else (none)) else (none))) else (none))) else (none)) else (none)) = some r := by first | (rw [hy196]; with_reducible exact H) | (have H2_ := (Option.bind_some _ _).symm.trans H; rw [hy196]; with_reducible exact H2_) | (have H2_ := (Option.bind_some _ _).symm.trans H; with_reducible exact H2_) | with_reducible exact H | (rw [hy196]; exact H) | exact H
                    have Ny196 := Aside0.mk hy196
                    clear hy196
                    by_cases c43 : 0 ≤ x5_2
                    · rw [if_pos c43] at H
                      have c43b0 := eq_true c43
                      have c43b1 : decide (0 ≤ x5_2) = true := decide_eq_true c43
                      clear c43
                      by_cases c44 : x5_2 ≤ (x3_1.length : Int)
                      · rw [if_pos c44] at H
                        have c44b0 := eq_true c44
                        have c44b1 : decide (x5_2 ≤ (x3_1.length : Int)) = true := decide_eq_true c44
                        clear c44
                        obtain ⟨y199, hy199⟩ : ∃ y_ : List (S30), y_ = (x3_1.take (x5_2 : Int).toNat) := ⟨_, rfl⟩
                        replace H : (if y196.length + y199.length < 17592186044416 then ((some (y196 ++ y199 : List (S30))).bind fun y203 => (if 0 ≤ x4_1 then (if x4_1 < (l0.length : Int) then (if y203.length < 17592186044416 then ((some (y203 ++ [(⟨(rd_T30 l0 x4_1).f0, (rd_T30 l0 x4_1).f1⟩ : S30)] : List (S30))).bind fun y207 => ((some (x3_1.drop (x5_2 : Int).toNat : List (S30))).bind fun y210 => (if y207.length + y210.length < 17592186044416 then (waystoneref05_Ranges.l0 kj2 l0 (y207 ++ y210) (wrap64 (x4_1 + 1))) else (none)))) else (none)) else (none)) else (none))) else (none)) = some r := by first | (rw [hy199]; with_reducible exact H) | (have H2_ := (Option.bind_some _ _).symm.trans H; rw [hy199]; with_reducible exact H2_) | (have H2_ := (Option.bind_some _ _).symm.trans H; with_reducible exact H2_) | with_reducible exact H | (rw [hy199]; exact H) | exact H
                        have Ny199 := Aside0.mk hy199
                        clear hy199
                        by_cases c45 : y196.length + y199.length < 17592186044416
                        · rw [if_pos c45] at H
                          have LMc45 := Aside0.mk c45
                          clear c45
                          obtain ⟨y203, hy203⟩ : ∃ y_ : List (S30), y_ = (y196 ++ y199) := ⟨_, rfl⟩
                          replace H : (if 0 ≤ x4_1 then (if x4_1 < (l0.length : Int) then (if y203.length < 17592186044416 then ((some (y203 ++ [(⟨(rd_T30 l0 x4_1).f0, (rd_T30 l0 x4_1).f1⟩ : S30)] : List (S30))).bind fun y207 => ((some (x3_1.drop (x5_2 : Int).toNat : List (S30))).bind fun y210 => (if y207.length + y210.length < 17592186044416 then (waystoneref05_Ranges.l0 kj2 l0 (y207 ++ y210) (wrap64 (x4_1 + 1))) else (none)))) else (none)) else (none)) else (none)) = some r := by first | (rw [hy203]; with_reducible exact H) | (have H2_ := (Option.bind_some _ _).symm.trans H; rw [hy203]; with_reducible exact H2_) | (have H2_ := (Option.bind_some _ _).symm.trans H; with_reducible exact H2_) | with_reducible exact H | (rw [hy203]; exact H) | exact H
                          have Ny203 := Aside0.mk hy203
                          clear hy203
                          by_cases c46 : 0 ≤ x4_1
                          · rw [if_pos c46] at H
                            have c46b0 : decide (0 ≤ x4_1) = true := decide_eq_true c46
                            clear c46
                            by_cases c47 : x4_1 < (l0.length : Int)
                            · rw [if_pos c47] at H
                              have c47b0 : decide (x4_1 < (l0.length : Int)) = true := decide_eq_true c47
                              clear c47
                              by_cases c48 : y203.length < 17592186044416
                              · rw [if_pos c48] at H
                                have LMc48 := Aside0.mk c48
                                clear c48
                                obtain ⟨y207, hy207⟩ : ∃ y_ : List (S30), y_ = (y203 ++ [(⟨(rd_T30 l0 x4_1).f0, (rd_T30 l0 x4_1).f1⟩ : S30)]) := ⟨_, rfl⟩
                                replace H : ((some (x3_1.drop (x5_2 : Int).toNat : List (S30))).bind fun y210 => (if y207.length + y210.length < 17592186044416 then (waystoneref05_Ranges.l0 kj2 l0 (y207 ++ y210) (wrap64 (x4_1 + 1))) else (none))) = some r := by first | (rw [hy207]; with_reducible exact H) | (have H2_ := (Option.bind_some _ _).symm.trans H; rw [hy207]; with_reducible exact H2_) | (have H2_ := (Option.bind_some _ _).symm.trans H; with_reducible exact H2_) | with_reducible exact H | (rw [hy207]; exact H) | exact H
                                have Ny207 := Aside0.mk hy207
                                clear hy207
                                have c49b0 := eq_true (of_decide_eq_true (by first | (with_reducible assumption) | assumption) : 0 ≤ x5_2)
                                have c50b0 := eq_true (of_decide_eq_true (by first | (with_reducible assumption) | assumption) : x5_2 ≤ (x3_1.length : Int))
                                obtain ⟨y210, hy210⟩ : ∃ y_ : List (S30), y_ = (x3_1.drop (x5_2 : Int).toNat) := ⟨_, rfl⟩
                                replace H : (if y207.length + y210.length < 17592186044416 then (waystoneref05_Ranges.l0 kj2 l0 (y207 ++ y210) (wrap64 (x4_1 + 1))) else (none)) = some r := by first | (rw [hy210]; with_reducible exact H) | (have H2_ := (Option.bind_some _ _).symm.trans H; rw [hy210]; with_reducible exact H2_) | (have H2_ := (Option.bind_some _ _).symm.trans H; with_reducible exact H2_) | with_reducible exact H | (rw [hy210]; exact H) | exact H
                                have Ny210 := Aside0.mk hy210
                                clear hy210
                                by_cases c51 : y207.length + y210.length < 17592186044416
                                · rw [if_pos c51] at H
                                  have LMc51 := Aside0.mk c51
                                  clear c51
                                  obtain ⟨y214, hy214⟩ : ∃ y_ : List (S30), y_ = (y207 ++ y210) := ⟨_, rfl⟩
                                  replace H : (waystoneref05_Ranges.l0 kj2 l0 y214 (wrap64 (x4_1 + 1))) = some r := by first | (rw [hy214]; with_reducible exact H) | (have H2_ := (Option.bind_some _ _).symm.trans H; rw [hy214]; with_reducible exact H2_) | (have H2_ := (Option.bind_some _ _).symm.trans H; with_reducible exact H2_) | with_reducible exact H | (rw [hy214]; exact H) | exact H
                                  have Ny214 := Aside0.mk hy214
                                  clear hy214
                                  have H' := Aside0.mk H
                                  clear H
                                  try go_wp2
                                  have n0_ := Aside0.mk (Kd.R_drew HO_3.out)
                                  have n1_ := Aside0.mk (below_drew1 HB.out)
                                  clear HO_3
                                  clear HB
                                  have HO_3 := n0_
                                  have HB := n1_
                                  clear n0_ n1_
                                  obtain ⟨Ao53, co53, eo53⟩ := Kd.R_slice HO_3.out
                                  (first | subst eo53 | (injection eo53 with f1_ f2_ f3_; have f4_ := f1_.symm; have f5_ := f3_.symm; clear f1_ f2_ f3_; subst f4_; subst f5_))
                                  refine start_ (n := 15) (S := fun w' => True) (ds := []) #[false, false, false, false, false, false, false, false, false, false, false, false, false, false, false] (by kernel_rfl) rfl rfl trivial (fun hHeld => ?_); refine with_tabW waystoneref05_Ranges.tab11 waystoneref05_Ranges.bits11 (fun HT_ HW_ => ?_)
                                  generalize wc.drew = w52 at HO_3 HB hHeld ⊢
                                  refine pure_ (i := 0) (N := some 33) (v := ?_) (a' := ?_) #[true, false, false, false, false, false, false, false, false, false, false, false, false, false, false] rfl rfl (any_of HT_.out (by kernel_rfl)) (fun _ _ _ h => h) (Or.inl ⟨by rfl, ?_⟩) ?_ ?_
                                  rotate_left
                                  · intro w'
                                    go_simp
                                    with_reducible rfl
                                  rotate_left
                                  · simp only [Act.put, List.setIfInBounds_toArray, List.set_cons_zero, List.set_cons_succ, i64_w, i32_w]
                                    rfl
                                  refine pure_ (i := 1) (N := some 34) (v := ?_) (a' := ?_) #[true, true, false, false, false, false, false, false, false, false, false, false, false, false, false] rfl rfl (any_of HT_.out (by kernel_rfl)) (fun _ _ _ h => h) (Or.inl ⟨by rfl, ?_⟩) ?_ ?_
                                  rotate_left
                                  · intro w'
                                    go_simp
                                    with_reducible rfl
                                  rotate_left
                                  · simp only [Act.put, List.setIfInBounds_toArray, List.set_cons_zero, List.set_cons_succ, i64_w, i32_w]
                                    rfl
                                  refine pure_ (i := 2) (N := some 35) (v := ?_) (a' := ?_) #[true, true, true, false, false, false, false, false, false, false, false, false, false, false, false] rfl rfl (any_of HT_.out (by kernel_rfl)) (fun _ _ _ h => h) (Or.inl ⟨by rfl, ?_⟩) ?_ ?_
                                  rotate_left
                                  · intro w'
                                    go_simp
                                    with_reducible rfl
                                  rotate_left
                                  · simp only [Act.put, List.setIfInBounds_toArray, List.set_cons_zero, List.set_cons_succ, i64_w, i32_w]
                                    rfl
                                  refine pure_ (i := 3) (N := some 36) (v := ?_) (a' := ?_) #[true, true, true, true, false, false, false, false, false, false, false, false, false, false, false] rfl rfl (any_of HT_.out (by kernel_rfl)) (fun _ _ _ h => h) (Or.inl ⟨by rfl, ?_⟩) ?_ ?_
                                  rotate_left
                                  · intro w'
                                    go_simp
                                    with_reducible rfl
                                  rotate_left
                                  · simp only [Act.put, List.setIfInBounds_toArray, List.set_cons_zero, List.set_cons_succ, i64_w, i32_w]
                                    rfl
                                  refine pure_ (i := 4) (N := some 37) (v := ?_) (a' := ?_) #[true, true, true, true, true, false, false, false, false, false, false, false, false, false, false] rfl rfl (any_of HT_.out (by kernel_rfl)) (fun _ _ _ h => h) (Or.inl ⟨by rfl, ?_⟩) ?_ ?_
                                  rotate_left
                                  · intro w'
                                    go_simp
                                    with_reducible rfl
                                  rotate_left
                                  · simp only [Act.put, List.setIfInBounds_toArray, List.set_cons_zero, List.set_cons_succ, i64_w, i32_w]
                                    rfl
                                  refine pure_ (i := 5) (N := some 38) (v := undef) (a' := ?_) #[true, true, true, true, true, true, false, false, false, false, false, false, false, false, false] rfl rfl (any_of HT_.out (by kernel_rfl)) (fun _ _ _ h => h) (Or.inr ⟨by rfl, rfl⟩) ?_ ?_
                                  rotate_left
                                  · simp only [Act.put, List.setIfInBounds_toArray, List.set_cons_zero, List.set_cons_succ, i64_w, i32_w]
                                    rfl
                                  refine pure_ (i := 6) (N := some 39) (v := undef) (a' := ?_) #[true, true, true, true, true, true, true, false, false, false, false, false, false, false, false] rfl rfl (any_of HT_.out (by kernel_rfl)) (fun _ _ _ h => h) (Or.inr ⟨by rfl, rfl⟩) ?_ ?_
                                  rotate_left
                                  · simp only [Act.put, List.setIfInBounds_toArray, List.set_cons_zero, List.set_cons_succ, i64_w, i32_w]
                                    rfl
                                  refine pure_ (i := 7) (N := some 40) (v := undef) (a' := ?_) #[true, true, true, true, true, true, true, true, false, false, false, false, false, false, false] rfl rfl (any_of HT_.out (by kernel_rfl)) (fun _ _ _ h => h) (Or.inr ⟨by rfl, rfl⟩) ?_ ?_
                                  rotate_left
                                  · simp only [Act.put, List.setIfInBounds_toArray, List.set_cons_zero, List.set_cons_succ, i64_w, i32_w]
                                    rfl
                                  refine pure_ (i := 8) (N := some 41) (v := undef) (a' := ?_) #[true, true, true, true, true, true, true, true, true, false, false, false, false, false, false] rfl rfl (any_of HT_.out (by kernel_rfl)) (fun _ _ _ h => h) (Or.inr ⟨by rfl, rfl⟩) ?_ ?_
                                  rotate_left
                                  · simp only [Act.put, List.setIfInBounds_toArray, List.set_cons_zero, List.set_cons_succ, i64_w, i32_w]
                                    rfl
                                  refine pure_ (i := 9) (N := some 42) (v := undef) (a' := ?_) #[true, true, true, true, true, true, true, true, true, true, false, false, false, false, false] rfl rfl (any_of HT_.out (by kernel_rfl)) (fun _ _ _ h => h) (Or.inr ⟨by rfl, rfl⟩) ?_ ?_
                                  rotate_left
                                  · simp only [Act.put, List.setIfInBounds_toArray, List.set_cons_zero, List.set_cons_succ, i64_w, i32_w]
                                    rfl
                                  refine pure_ (i := 10) (N := some 43) (v := undef) (a' := ?_) #[true, true, true, true, true, true, true, true, true, true, true, false, false, false, false] rfl rfl (any_of HT_.out (by kernel_rfl)) (fun _ _ _ h => h) (Or.inr ⟨by rfl, rfl⟩) ?_ ?_
                                  rotate_left
                                  · simp only [Act.put, List.setIfInBounds_toArray, List.set_cons_zero, List.set_cons_succ, i64_w, i32_w]
                                    rfl
                                  refine pure_ (i := 11) (N := some 44) (v := undef) (a' := ?_) #[true, true, true, true, true, true, true, true, true, true, true, true, false, false, false] rfl rfl (any_of HT_.out (by kernel_rfl)) (fun _ _ _ h => h) (Or.inr ⟨by rfl, rfl⟩) ?_ ?_
                                  rotate_left
                                  · simp only [Act.put, List.setIfInBounds_toArray, List.set_cons_zero, List.set_cons_succ, i64_w, i32_w]
                                    rfl
                                  refine pure_ (i := 12) (N := some 45) (v := undef) (a' := ?_) #[true, true, true, true, true, true, true, true, true, true, true, true, true, false, false] rfl rfl (any_of HT_.out (by kernel_rfl)) (fun _ _ _ h => h) (Or.inr ⟨by rfl, rfl⟩) ?_ ?_
                                  rotate_left
                                  · simp only [Act.put, List.setIfInBounds_toArray, List.set_cons_zero, List.set_cons_succ, i64_w, i32_w]
                                    rfl
                                  refine pure_ (i := 13) (N := some 46) (v := undef) (a' := ?_) #[true, true, true, true, true, true, true, true, true, true, true, true, true, true, false] rfl rfl (any_of HT_.out (by kernel_rfl)) (fun _ _ _ h => h) (Or.inr ⟨by rfl, rfl⟩) ?_ ?_
                                  rotate_left
                                  · simp only [Act.put, List.setIfInBounds_toArray, List.set_cons_zero, List.set_cons_succ, i64_w, i32_w]
                                    rfl
                                  refine pure_ (i := 14) (N := some 47) (v := ?_) (a' := ?_) #[true, true, true, true, true, true, true, true, true, true, true, true, true, true, true] rfl rfl (any_of HT_.out (by kernel_rfl)) (fun _ _ _ h => h) (Or.inl ⟨by rfl, ?_⟩) ?_ ?_
                                  rotate_left
                                  · intro w'
                                    go_simp
                                    with_reducible rfl
                                  rotate_left
                                  · simp only [Act.put, List.setIfInBounds_toArray, List.set_cons_zero, List.set_cons_succ, i64_w, i32_w]
                                    rfl
                                  refine done_ (done_of HT_.out (by kernel_rfl)) ?_
                                  try go_wp2_with (first | ((with_reducible refine gate_dst (N := 48) rfl ?_); refine Kd.R_lit k30 _ 30 ?hg (N := 48) ?hd (xs := ([] : List (S30))) (inner := []) (ok := fun _ => True) (okp := fun _ => True) ?hr ?hp (fun _ hk => hk) trivial (Below.refl _ _) (Nat.le_refl _) (by simp) ?_; (case hd => rfl); (case hg => rfl); (case hr => first | (go_simp; done) | (go_simp; rfl)); (case hp => exact (Reps.none _ _)); intro v197 w54 ho55 hb hg_ hnew_; clear hg_ hnew_; (first | rw [← Ny196.out] at ho55 | (simp only [Int.reduceToNat] at ho55; rw [← Ny196.out] at ho55)); have n0_ := Aside0.mk (Kd.R_elder' (by (with_reducible repeat (first | apply Kd.R_alloc | apply Kd.R_drewN | apply Kd.R_drew)); exact HO_3.out) (Kd.R_base ho55) hb); have n1_ := Aside0.mk (Kd.R_lower (Kd.R_new' ho55 (Kd.R_lt (by (with_reducible repeat (first | apply Kd.R_alloc | apply Kd.R_drewN | apply Kd.R_drew)); exact HO_3.out))) (below_size (by repeat (first | (with_reducible first | exact HB.out | apply below_alloc | apply pw_below_drewN | apply below_drew1) | exact HB.out)))); have n2_ := Aside0.mk (below_step (by repeat (first | (with_reducible first | exact HB.out | apply below_alloc | apply pw_below_drewN | apply below_drew1) | exact HB.out)) hb); clear HO_3; clear HB; have HO_3 := n0_; have HO198 := n1_; have HB := n2_; clear n0_ n1_ n2_; clear hb ho55; have q56 : (x5_2 : Int) ≤ ((x3_1.length : Int) : Int) := of_decide_eq_true (by first | (with_reducible assumption) | assumption); obtain ⟨i056, hi056, _, hsz56, _⟩ := info_parts info30; have hroom56 : x3_1.length ≤ co53 := (Kd.R_reads' HO_3.out).2.1; have hC56 : Kd.C k30 _ Ao53 x3_1.length x3_1 := (Kd.R_reads' HO_3.out).2.2; have hcut56 := cut_to (P := Try.prog) 22 30 .i64 Try.underlying22 hi056 Ao53 x3_1.length co53 x5_2 (of_decide_eq_true (by first | (with_reducible assumption) | assumption)) q56 hroom56; have hr56 := Kd.C_take (m := (x5_2 : Int).toNat) hC56 (by omega); have hy56 : y199.length = (x5_2 : Int).toNat := (by rw [Ny199.out, List.length_take]; omega); rw [← Ny199.out] at hr56; rw [← hy56] at hcut56; have HR202 := Aside0.mk hr56; have HC202 := Aside0.mk (show y199.length ≤ co53 from by omega); clear hr56 hC56 hroom56 hi056 hsz56; have KY56 := Aside0.mk hy56; clear hy56; have KL56 := Aside0.mk (show (x5_2 : Int).toNat ≤ x3_1.length from by omega); replace q56 := eq_true q56) | ((with_reducible refine gate_builtin (b := .append) (xs := #[.tmp 48, .tmp 51]) rfl ?_); at_builtin; refine Kd.R_append_rows k30 (w0 := w) w.heap.size rfl (.tmp 48) (.tmp 51) 22 30 (.agg #[(.int .u32 0), (.int .u32 0)]) 8 rfl Try.underlying22 info30 rfl (by decide) (by omega) v197 y196 y199 _ _ _ (fun k_ => some k_ ≠ (.slice Ao53 x3_1.length co53 : Value).ownBlock) (fun _ => False) rfl rfl ?aO ?aR (fun _ _ h => h) (fun _ h => h.elim) ?aF ?aB ?aS ?aL ?_; (case aR => repeat (first | exact (by repeat (first | (with_reducible exact HR202.out) | (with_reducible refine Kd.C_alloc ?_ _) | (with_reducible refine Kd.C_drewN ?_ _) | (with_reducible refine Kd.C_drew ?_) | exact HR202.out)) | (with_reducible refine Kd.C_alloc ?_ _) | (with_reducible refine Kd.C_drewN ?_ _) | (with_reducible refine Kd.C_drew ?_))); (case aB => exact (by repeat (first | (with_reducible first | exact HB.out | apply below_alloc | apply pw_below_drewN | apply below_drew1) | exact HB.out))); (case aF => exact (fun k_ hk => Kd.fresh' (Kd.R_lt (by (with_reducible repeat (first | apply Kd.R_alloc | apply Kd.R_drewN | apply Kd.R_drew)); exact HO_3.out)) k_ hk)); (case aO => exact (by (with_reducible repeat (first | apply Kd.R_alloc | apply Kd.R_drewN | apply Kd.R_drew)); exact Kd.R_mono HO198.out (fun _ hk => hk.2))); (case aS => exact (below_size (by repeat (first | (with_reducible first | exact HB.out | apply below_alloc | apply pw_below_drewN | apply below_drew1) | exact HB.out)))); (case aL => have := LMc45.out; omega); intro v204 w57 ho hb hg hat; rw [← Ny203.out] at ho; have n0_ := Aside0.mk (Kd.R_after (ok := (fun _ => True)) (by (with_reducible repeat (first | apply Kd.R_alloc | apply Kd.R_drewN | apply Kd.R_drew)); exact HO_3.out) hg hat); have n1_ := Aside0.mk (hb); have n2_ := Aside0.mk ((show Kd.C k30 w57 Ao53 y199.length y199 from by rw [Ny199.out]; exact Kd.C_take (m := (x5_2 : Int).toNat) ((Kd.R_reads' (Kd.R_after (ok := (fun _ => True)) (by (with_reducible repeat (first | apply Kd.R_alloc | apply Kd.R_drewN | apply Kd.R_drew)); exact HO_3.out) hg hat)).2.2) KL56.out)); have n3_ := Aside0.mk (ho); clear HO_3; clear HB; clear HR202; clear HO198; have HO_3 := n0_; have HB := n1_; have HR202 := n2_; have HO205 := n3_; clear n0_ n1_ n2_ n3_; clear ho hb hg hat; have p206 : 0 ≤ (x4_1 : Int) := of_decide_eq_true (by first | (with_reducible assumption) | assumption); have q206 : x4_1 < (l0.length : Int) := of_decide_eq_true (by first | (with_reducible assumption) | assumption); obtain ⟨ad206, e206, hx206_0, hx206_1⟩ := at_T30 HR0.out x4_1 p206 q206; cases e206; replace hx206_0 := (HB.out.cell (World.block_lt_of_cell? w _ hx206_0)).trans hx206_0; replace hx206_1 := (HB.out.cell (World.block_lt_of_cell? w _ hx206_1)).trans hx206_1; replace p206 := eq_true p206; replace q206 := eq_true q206) | ((with_reducible refine gate_builtin (b := .append) (xs := #[.tmp 53, .tmp 58]) rfl ?_); at_builtin; refine Kd.R_append k30 (w0 := w) w.heap.size rfl (.tmp 53) (.tmp 58) 22 30 (.agg #[(.int .u32 0), (.int .u32 0)]) 8 rfl Try.underlying22 info30 rfl (by decide) (by omega) v204 y203 (⟨(rd_T30 l0 x4_1).f0, (rd_T30 l0 x4_1).f1⟩ : S30) [.int .u32 ((rd_T30 l0 x4_1).f0), .int .u32 ((rd_T30 l0 x4_1).f1)] (fun k_ => some k_ ≠ (.slice Ao53 x3_1.length co53 : Value).ownBlock) (fun _ => False) rfl rfl ?aP (fun _ hk => hk.elim) ?aF ?aO ?aB ?aS ?aL ?_; (case aP => exact k30_mkM _ _ _ (⟨(rd_T30 l0 x4_1).f0, (rd_T30 l0 x4_1).f1⟩ : S30)); (case aB => exact (by repeat (first | (with_reducible first | exact HB.out | apply below_alloc | apply pw_below_drewN | apply below_drew1) | exact HB.out))); (case aF => exact (fun k_ hk => Kd.fresh' (Kd.R_lt (by (with_reducible repeat (first | apply Kd.R_alloc | apply Kd.R_drewN | apply Kd.R_drew)); exact HO_3.out)) k_ hk)); (case aO => exact (by (with_reducible repeat (first | apply Kd.R_alloc | apply Kd.R_drewN | apply Kd.R_drew)); exact HO205.out)); (case aS => exact (below_size (by repeat (first | (with_reducible first | exact HB.out | apply below_alloc | apply pw_below_drewN | apply below_drew1) | exact HB.out)))); (case aL => have := LMc48.out; omega); intro v208 w58 ho hb hg hat; rw [← Ny207.out] at ho; have n0_ := Aside0.mk (Kd.R_after (ok := (fun _ => True)) (by (with_reducible repeat (first | apply Kd.R_alloc | apply Kd.R_drewN | apply Kd.R_drew)); exact HO_3.out) hg hat); have n1_ := Aside0.mk (hb); have n2_ := Aside0.mk ((show Kd.C k30 w58 Ao53 y199.length y199 from by rw [Ny199.out]; exact Kd.C_take (m := (x5_2 : Int).toNat) ((Kd.R_reads' (Kd.R_after (ok := (fun _ => True)) (by (with_reducible repeat (first | apply Kd.R_alloc | apply Kd.R_drewN | apply Kd.R_drew)); exact HO_3.out) hg hat)).2.2) KL56.out)); have n3_ := Aside0.mk (ho); clear HO_3; clear HB; clear HR202; clear HO205; have HO_3 := n0_; have HB := n1_; have HR202 := n2_; have HO209 := n3_; clear n0_ n1_ n2_ n3_; clear ho hb hg hat; have q59 : (x5_2 : Int) ≤ ((x3_1.length : Int) : Int) := of_decide_eq_true (by first | (with_reducible assumption) | assumption); obtain ⟨i059, hi059, _, hsz59, _⟩ := info_parts info30; have hroom59 : x3_1.length ≤ co53 := (Kd.R_reads' HO_3.out).2.1; have hC59 : Kd.C k30 _ Ao53 x3_1.length x3_1 := (Kd.R_reads' HO_3.out).2.2; have q059 : (0 : Int) ≤ (x5_2 : Int) := of_decide_eq_true (by first | (with_reducible assumption) | assumption); have hcut59 := cut_from (P := Try.prog) 22 30 .i64 Try.underlying22 hi059 2 hsz59 Ao53 x3_1.length co53 x5_2 q059 q59; have hr59 := Kd.C_drop (m := (x5_2 : Int).toNat) (c := co53) hC59 (by omega) hroom59; obtain ⟨A59, hA59⟩ : ∃ A1, A1 = (if co53 = (x5_2 : Int).toNat then Ao53 else (Ao53 : Option Addr).map (·.add ((x5_2 : Int).toNat * 2))) := ⟨_, rfl⟩; obtain ⟨c59, hc59⟩ : ∃ c1, c1 = co53 - (x5_2 : Int).toNat := ⟨_, rfl⟩; have hy59 : y210.length = x3_1.length - (x5_2 : Int).toNat := (by rw [Ny210.out, List.length_drop] <;> omega); rw [show (x3_1).drop (x5_2 : Int).toNat = y210 from Ny210.out.symm] at hr59; replace hr59 : Kd.C k30 _ A59 y210.length y210 := (by rw [hA59]; exact hr59); rw [← hy59, ← hA59, ← hc59] at hcut59; have HR213 := Aside0.mk hr59; have HC213 := Aside0.mk (show y210.length ≤ c59 from by rw [hy59, hc59]; exact Nat.sub_le_sub_right hroom59 _); clear hr59 hC59 hroom59 hi059 hsz59 hc59; have KY59 := Aside0.mk hy59; have KA59 := Aside0.mk hA59; clear hy59 hA59; have KL59 := Aside0.mk (show (x5_2 : Int).toNat ≤ x3_1.length from by omega); replace q59 := eq_true q59) | ((with_reducible refine gate_builtin (b := .append) (xs := #[.tmp 60, .tmp 63]) rfl ?_); at_builtin; refine Kd.R_append_rows k30 (w0 := w) w.heap.size rfl (.tmp 60) (.tmp 63) 22 30 (.agg #[(.int .u32 0), (.int .u32 0)]) 8 rfl Try.underlying22 info30 rfl (by decide) (by omega) v208 y207 y210 _ _ _ (fun k_ => some k_ ≠ (.slice Ao53 x3_1.length co53 : Value).ownBlock) (fun _ => False) rfl rfl ?aO ?aR (fun _ _ h => h) (fun _ h => h.elim) ?aF ?aB ?aS ?aL ?_; (case aR => repeat (first | exact (by repeat (first | (with_reducible exact HR213.out) | (with_reducible refine Kd.C_alloc ?_ _) | (with_reducible refine Kd.C_drewN ?_ _) | (with_reducible refine Kd.C_drew ?_) | exact HR213.out)) | (with_reducible refine Kd.C_alloc ?_ _) | (with_reducible refine Kd.C_drewN ?_ _) | (with_reducible refine Kd.C_drew ?_))); (case aB => exact (by repeat (first | (with_reducible first | exact HB.out | apply below_alloc | apply pw_below_drewN | apply below_drew1) | exact HB.out))); (case aF => exact (fun k_ hk => Kd.fresh' (Kd.R_lt (by (with_reducible repeat (first | apply Kd.R_alloc | apply Kd.R_drewN | apply Kd.R_drew)); exact HO_3.out)) k_ hk)); (case aO => exact (by (with_reducible repeat (first | apply Kd.R_alloc | apply Kd.R_drewN | apply Kd.R_drew)); exact HO209.out)); (case aS => exact (below_size (by repeat (first | (with_reducible first | exact HB.out | apply below_alloc | apply pw_below_drewN | apply below_drew1) | exact HB.out)))); (case aL => have := LMc51.out; omega); intro v215 w60 ho hb hg hat; rw [← Ny214.out] at ho; have n0_ := Aside0.mk (Kd.R_after (ok := (fun _ => True)) (by (with_reducible repeat (first | apply Kd.R_alloc | apply Kd.R_drewN | apply Kd.R_drew)); exact HO_3.out) hg hat); have n1_ := Aside0.mk (hb); have n2_ := Aside0.mk ((show Kd.C k30 w60 Ao53 y199.length y199 from by rw [Ny199.out]; exact Kd.C_take (m := (x5_2 : Int).toNat) ((Kd.R_reads' (Kd.R_after (ok := (fun _ => True)) (by (with_reducible repeat (first | apply Kd.R_alloc | apply Kd.R_drewN | apply Kd.R_drew)); exact HO_3.out) hg hat)).2.2) KL56.out)); have n3_ := Aside0.mk ((show Kd.C k30 w60 A59 y210.length y210 from by rw [Ny210.out, KA59.out]; exact Kd.C_drop (m := (x5_2 : Int).toNat) (c := co53) ((Kd.R_reads' (Kd.R_after (ok := (fun _ => True)) (by (with_reducible repeat (first | apply Kd.R_alloc | apply Kd.R_drewN | apply Kd.R_drew)); exact HO_3.out) hg hat)).2.2) KL59.out ((Kd.R_reads' (Kd.R_after (ok := (fun _ => True)) (by (with_reducible repeat (first | apply Kd.R_alloc | apply Kd.R_drewN | apply Kd.R_drew)); exact HO_3.out) hg hat)).2.1))); have n4_ := Aside0.mk (ho); clear HO_3; clear HB; clear HR202; clear HR213; clear HO209; have HO_3 := n0_; have HB := n1_; have HR202 := n2_; have HR213 := n3_; have HO216 := n4_; clear n0_ n1_ n2_ n3_ n4_; clear ho hb hg hat))
                                  go_roundg kj2
                                  case measure => have := HK1.out; have := HK2.out; have := HJ2.out; omega
                                  case rel => exact ⟨(y214), (wrap64 (x4_1 + 1)), (by first | rfl | (simp; done) | (simp [*]; done)), H', ⟨by have := HK1.out; have := HK2.out; have := HJ2.out; omega⟩, ⟨by (with_reducible repeat (first | apply Kd.R_alloc | apply Kd.R_drewN | apply Kd.R_drew)); exact Kd.R_mono HO216.out (fun _ hk => trivial)⟩, ⟨by repeat (first | (with_reducible first | exact HB.out | apply below_alloc | apply pw_below_drewN | apply below_drew1) | exact HB.out)⟩⟩
                                · rw [if_neg c51] at H
                                  exact absurd H (by simp)
                              · rw [if_neg c48] at H
                                exact absurd H (by simp)
                            · rw [if_neg c47] at H
                              exact absurd H (by simp)
                          · rw [if_neg c46] at H
                            exact absurd H (by simp)
                        · rw [if_neg c45] at H
                          exact absurd H (by simp)
                      · rw [if_neg c44] at H
                        exact absurd H (by simp)
                    · rw [if_neg c43] at H
                      exact absurd H (by simp)
      · rw [if_neg c2] at H
        have c2b0 : decide (x4_1 < (l0.length : Int)) = false := decide_eq_false c2
        clear c2
        obtain rfl := Option.some.inj H
        go_wp2
        go_ret
        exact ⟨_, by first | rfl | (simp [errW_none, errW_some] <;> rfl) | (simp [*, errW_none, errW_some] <;> rfl), by (with_reducible repeat (first | apply Kd.R_alloc | apply Kd.R_drewN | apply Kd.R_drew)); exact HO_3.out, by repeat (first | (with_reducible first | exact HB.out | apply below_alloc | apply pw_below_drewN | apply below_drew1) | exact HB.out)⟩

end Go.Proofs.Ytjfbiabgeickjaa.P
