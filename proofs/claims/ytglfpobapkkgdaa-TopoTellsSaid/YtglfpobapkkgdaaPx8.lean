-- By myprint.py (a session's own program over the kit's print.py; some functions' texts are by hand). Lean checks it.
import Derived.Test.YtglfpobapkkgdaaPx0
import Derived.Test.YtglfpobapkkgdaaTopo4b
namespace Go.Proofs.Ytglfpobapkkgdaa.P
open Go.RowKit Go.Proofs.YtglfpobapkkgdaaW.PrintWords Go.Proofs.YtglfpobapkkgdaaW.PrintLast Go.Proofs.YtglfpobapkkgdaaW.PrintMore
attribute [local go_sem] max2_int min2_int max_two min_two max_three min_three max_four min_four   -- for this text's walks alone
set_option linter.unusedVariables false
set_option linter.unusedSimpArgs false

/-! ### waystoneref08_Reaches: function 16 -/
mutual
def waystoneref08_Reaches.j0 : Nat → Int → Int → Int → Bool → List Int → List (S38) → Option (Bool)
  | 0, _, _, _, _, _, _ => none
  | k + 1, x1, x2, x7, x32, x193000, x193001 => if x32 = true then (some false) else (if 0 ≤ x7 then (if (x7 : Int).toNat ≤ 281474976710656 then ((some (List.replicate (x7 : Int).toNat false : List Bool)).bind fun y193 => (if 0 ≤ x1 then (if x1 < (y193.length : Int) then (waystoneref08_Reaches.l0 k x2 x7 (y193.set (x1 : Int).toNat true) 0 x193000 x193001) else (none)) else (none))) else (none)) else (none))
def waystoneref08_Reaches.l0 : Nat → Int → Int → List Bool → Int → List Int → List (S38) → Option (Bool)
  | 0, _, _, _, _, _, _ => none
  | k + 1, x2, x7, x8, x9, x193000, x193001 => if x9 < x7 then (waystoneref08_Reaches.l1 k x2 x7 x8 x9 0 x193000 x193001) else (if 0 ≤ x2 then (if x2 < (x8.length : Int) then (some (rdOf false x8 x2)) else (none)) else (none))
def waystoneref08_Reaches.l1 : Nat → Int → Int → List Bool → Int → Int → List Int → List (S38) → Option (Bool)
  | 0, _, _, _, _, _, _, _ => none
  | k + 1, x2, x7, x8, x9, x10, x193000, x193001 => if x10 < (x193001.length : Int) then (if 0 ≤ x10 then (if 0 ≤ ((rd_T38 x193001 x10).f0.f0) then (if ((rd_T38 x193001 x10).f0.f0) < (x8.length : Int) then (if rdOf false x8 ((rd_T38 x193001 x10).f0.f0) = true then (if 0 ≤ ((rd_T38 x193001 x10).f1.f0) then (if ((rd_T38 x193001 x10).f1.f0) < (x8.length : Int) then (waystoneref08_Reaches.l1 k x2 x7 ((x8.set (((rd_T38 x193001 x10).f0.f0) : Int).toNat true).set (((rd_T38 x193001 x10).f1.f0) : Int).toNat true) x9 (wrap64 (x10 + 1)) x193000 x193001) else (none)) else (none)) else (if 0 ≤ ((rd_T38 x193001 x10).f1.f0) then (if ((rd_T38 x193001 x10).f1.f0) < (x8.length : Int) then (waystoneref08_Reaches.l1 k x2 x7 ((x8.set (((rd_T38 x193001 x10).f0.f0) : Int).toNat (rdOf false x8 ((rd_T38 x193001 x10).f1.f0))).set (((rd_T38 x193001 x10).f1.f0) : Int).toNat (rdOf false x8 ((rd_T38 x193001 x10).f1.f0))) x9 (wrap64 (x10 + 1)) x193000 x193001) else (none)) else (none))) else (none)) else (none)) else (none)) else (waystoneref08_Reaches.l0 k x2 x7 x8 (wrap64 (x9 + 1)) x193000 x193001)
end
def waystoneref08_Reaches.f (k : Nat) (l0_0 : List Int) (l0_1 : List (S38)) (a1 : Int) (a2 : Int) : Option (Bool) := if a1 < 0 then (waystoneref08_Reaches.j0 k a1 a2 (l0_0.length : Int) true l0_0 l0_1) else (if a1 ≥ (l0_0.length : Int) then (waystoneref08_Reaches.j0 k a1 a2 (l0_0.length : Int) true l0_0 l0_1) else (if a2 < 0 then (waystoneref08_Reaches.j0 k a1 a2 (l0_0.length : Int) true l0_0 l0_1) else (waystoneref08_Reaches.j0 k a1 a2 (l0_0.length : Int) (decide (a2 ≥ (l0_0.length : Int))) l0_0 l0_1)))
theorem waystoneref08_Reaches.mono_l : ∀ k, (∀ y0 y1 y2 y3 y4 y5, LeO (waystoneref08_Reaches.j0 k y0 y1 y2 y3 y4 y5) (waystoneref08_Reaches.j0 (k + 1) y0 y1 y2 y3 y4 y5)) ∧ (∀ y0 y1 y2 y3 y4 y5, LeO (waystoneref08_Reaches.l0 k y0 y1 y2 y3 y4 y5) (waystoneref08_Reaches.l0 (k + 1) y0 y1 y2 y3 y4 y5)) ∧ (∀ y0 y1 y2 y3 y4 y5 y6, LeO (waystoneref08_Reaches.l1 k y0 y1 y2 y3 y4 y5 y6) (waystoneref08_Reaches.l1 (k + 1) y0 y1 y2 y3 y4 y5 y6))
  | 0 => ⟨fun _ _ _ _ _ _ r h => by simp [waystoneref08_Reaches.j0] at h, fun _ _ _ _ _ _ r h => by simp [waystoneref08_Reaches.l0] at h, fun _ _ _ _ _ _ _ r h => by simp [waystoneref08_Reaches.l1] at h⟩
  | k + 1 => by
    obtain ⟨ih0, ih1, ih2⟩ := waystoneref08_Reaches.mono_l k
    refine ⟨?_, ?_, ?_⟩
    · intro y0 y1 y2 y3 y4 y5
      unfold waystoneref08_Reaches.j0
      repeat' first
      | (with_reducible exact ih0 _ _ _ _ _ _)
      | (with_reducible exact ih1 _ _ _ _ _ _)
      | (with_reducible exact ih2 _ _ _ _ _ _ _)
      | (with_reducible exact LeO.refl _)
      | (with_reducible exact LeO.none _)
      | (with_reducible refine LeO.ite ?_ ?_)
      | (with_reducible refine LeO.bind ?_ (fun _ => ?_))
      | exact ih0 _ _ _ _ _ _
      | exact ih1 _ _ _ _ _ _
      | exact ih2 _ _ _ _ _ _ _
      | exact LeO.none _
      | refine LeO.ite ?_ ?_
      | refine LeO.bind ?_ (fun _ => ?_)
    · intro y0 y1 y2 y3 y4 y5
      unfold waystoneref08_Reaches.l0
      repeat' first
      | (with_reducible exact ih0 _ _ _ _ _ _)
      | (with_reducible exact ih1 _ _ _ _ _ _)
      | (with_reducible exact ih2 _ _ _ _ _ _ _)
      | (with_reducible exact LeO.refl _)
      | (with_reducible exact LeO.none _)
      | (with_reducible refine LeO.ite ?_ ?_)
      | (with_reducible refine LeO.bind ?_ (fun _ => ?_))
      | exact ih0 _ _ _ _ _ _
      | exact ih1 _ _ _ _ _ _
      | exact ih2 _ _ _ _ _ _ _
      | exact LeO.none _
      | refine LeO.ite ?_ ?_
      | refine LeO.bind ?_ (fun _ => ?_)
    · intro y0 y1 y2 y3 y4 y5 y6
      unfold waystoneref08_Reaches.l1
      repeat' first
      | (with_reducible exact ih0 _ _ _ _ _ _)
      | (with_reducible exact ih1 _ _ _ _ _ _)
      | (with_reducible exact ih2 _ _ _ _ _ _ _)
      | (with_reducible exact LeO.refl _)
      | (with_reducible exact LeO.none _)
      | (with_reducible refine LeO.ite ?_ ?_)
      | (with_reducible refine LeO.bind ?_ (fun _ => ?_))
      | exact ih0 _ _ _ _ _ _
      | exact ih1 _ _ _ _ _ _
      | exact ih2 _ _ _ _ _ _ _
      | exact LeO.none _
      | refine LeO.ite ?_ ?_
      | refine LeO.bind ?_ (fun _ => ?_)
theorem waystoneref08_Reaches.mono : ∀ a0 a1 a2 a3 k, LeO (waystoneref08_Reaches.f k a0 a1 a2 a3) (waystoneref08_Reaches.f (k + 1) a0 a1 a2 a3) := by
  intro a0 a1 a2 a3 k
  obtain ⟨ih0, ih1, ih2⟩ := waystoneref08_Reaches.mono_l k
  unfold waystoneref08_Reaches.f
  repeat' first
      | (with_reducible exact ih0 _ _ _ _ _ _)
      | (with_reducible exact ih1 _ _ _ _ _ _)
      | (with_reducible exact ih2 _ _ _ _ _ _ _)
      | (with_reducible exact LeO.refl _)
      | (with_reducible exact LeO.none _)
      | (with_reducible refine LeO.ite ?_ ?_)
      | (with_reducible refine LeO.bind ?_ (fun _ => ?_))
      | exact ih0 _ _ _ _ _ _
      | exact ih1 _ _ _ _ _ _
      | exact ih2 _ _ _ _ _ _ _
      | exact LeO.none _
      | refine LeO.ite ?_ ?_
      | refine LeO.bind ?_ (fun _ => ?_)
set_option maxHeartbeats 8000000 in
set_option maxRecDepth 100000 in
theorem waystoneref08_Reaches.calls (k : Nat) (A0_0 : Option Addr) (c0_0 : Nat) (l0_0 : List Int) (A0_1 : Option Addr) (c0_1 : Nat) (l0_1 : List (S38)) (a1 : Int) (a2 : Int) (r : Bool) (w : World) (hr0_0 : Kd.C (Kd.int .i64) w A0_0 l0_0.length l0_0) (hc0_0 : l0_0.length ≤ c0_0) (hr0_1 : Kd.C k38 w A0_1 l0_1.length l0_1) (hc0_1 : l0_1.length ≤ c0_1) (h : waystoneref08_Reaches.f k l0_0 l0_1 a1 a2 = some r) :
    Calls Try.prog 16 #[.agg #[.slice A0_0 l0_0.length c0_0, .slice A0_1 l0_1.length c0_1], .int .i64 a1, .int .i64 a2] w fun e w' => e = .returned (.bool r) ∧ Below w.heap.size w w' := by
  have hu25 := Try.underlying25
  have HR0_0 := Aside0.mk hr0_0
  have HC0_0 := Aside0.mk hc0_0
  clear hr0_0 hc0_0
  have HR0_1 := Aside0.mk hr0_1
  have HC0_1 := Aside0.mk hc0_1
  clear hr0_1 hc0_1
  have HB := Aside0.mk (Below.refl w.heap.size w)
  have H : (if a1 < 0 then (waystoneref08_Reaches.j0 k a1 a2 (l0_0.length : Int) true l0_0 l0_1) else (if a1 ≥ (l0_0.length : Int) then (waystoneref08_Reaches.j0 k a1 a2 (l0_0.length : Int) true l0_0 l0_1) else (if a2 < 0 then (waystoneref08_Reaches.j0 k a1 a2 (l0_0.length : Int) true l0_0 l0_1) else (waystoneref08_Reaches.j0 k a1 a2 (l0_0.length : Int) (decide (a2 ≥ (l0_0.length : Int))) l0_0 l0_1)))) = some r := h
  clear h
  have HC4 := Aside0.mk H
  clear H
  go_enter Try.func16, Try.ntmps16
  go_upto_region 2 with (first | ((with_reducible refine gate_dst (N := 3) rfl ?_); refine box_event ?hg (N := 3) ?hd (cs := #[.slice A0_0 l0_0.length c0_0, .slice A0_1 l0_1.length c0_1]) (t := 25) ?hr ?_; (case hd => rfl); (case hg => rfl); (case hr => first | (go_simp; done) | (go_simp; rfl)); intro gb192 hg w5 hbox hb; have n0_ := Aside0.mk (below_step (by repeat (first | (with_reducible first | exact HB.out | apply below_alloc | apply pw_below_drewN | apply below_drew1) | exact HB.out)) hb); have n1_ := Aside0.mk (hbox); have n2_ := Aside0.mk ((by rw [hg]; exact (below_size (by repeat (first | (with_reducible first | exact HB.out | apply below_alloc | apply pw_below_drewN | apply below_drew1) | exact HB.out))) : w.heap.size ≤ gb192)); have n3_ := Aside0.mk ((by rw [hg]; exact (below_size (by repeat (first | (with_reducible first | exact HB.out | apply below_alloc | apply pw_below_drewN | apply below_drew1) | exact HB.out))) : w.heap.size ≤ gb192)); clear HB; have HB := n0_; have BK192 := n1_; have GW192 := n2_; have GE192 := n3_; clear n0_ n1_ n2_ n3_; clear hb hbox hg; have hcz6_0 : w5.cell? ⟨gb192, 0, none⟩ = some (.slice A0_0 l0_0.length c0_0) := (blk_cell BK192.out 0).trans rfl; have hcz6_1 : w5.cell? ⟨gb192, 1, none⟩ = some (.slice A0_1 l0_1.length c0_1) := (blk_cell BK192.out 1).trans rfl; have hfz6_0 := blk_frozen BK192.out 0; have hfz6_1 := blk_frozen BK192.out 1))
  (try simp only [Act.put, List.setIfInBounds_toArray, List.set_cons_zero, List.set_cons_succ])
  go_cut [32] (fun v32 wc => ∃ (kq : Nat) (x32_3 : Bool), v32 = .bool x32_3 ∧ Aside0 (waystoneref08_Reaches.j0 kq a1 a2 (l0_0.length : Int) x32_3 l0_0 l0_1 = some r) ∧ Aside0 (kq ≤ k) ∧ Aside0 (wc.heap[gb192]? = some (.cells #[(.slice A0_0 l0_0.length c0_0), (.slice A0_1 l0_1.length c0_1)] 25 (0, 0))) ∧ Aside0 (Below w.heap.size w wc))
  case first =>
    have H := HC4.out
    clear HC4
    by_cases c7 : a1 < 0
    · rw [if_pos c7] at H
      have c7b0 : decide (a1 < 0) = true := decide_eq_true c7
      clear c7
      (first | rw [c7b0] | (simp only [i64_w, i32_w]; rw [c7b0]) | skip)
      have H' := Aside0.mk H
      clear H
      go_wp2
      go_meet
      case rel => exact ⟨_, (true), (by first | rfl | (simp; done) | (simp [*]; done)), H', ⟨by first | omega | exact Nat.le_refl _⟩, ⟨by (with_reducible repeat (first | refine blk_drewN ?_ _ | refine blk_drew ?_ | refine blk_alloc ?_ _)); exact BK192.out⟩, ⟨by repeat (first | (with_reducible first | exact HB.out | apply below_alloc | apply pw_below_drewN | apply below_drew1 | refine below_set ?_ GE192.out) | exact HB.out)⟩⟩
    · rw [if_neg c7] at H
      have c7b0 : decide (a1 < 0) = false := decide_eq_false c7
      clear c7
      (first | rw [c7b0] | (simp only [i64_w, i32_w]; rw [c7b0]) | skip)
      by_cases c8 : a1 ≥ (l0_0.length : Int)
      · rw [if_pos c8] at H
        have c8b0 : decide ((l0_0.length : Int) ≤ a1) = true := decide_eq_true c8
        clear c8
        have H' := Aside0.mk H
        clear H
        go_wp2
        go_meet
        case rel => exact ⟨_, (true), (by first | rfl | (simp; done) | (simp [*]; done)), H', ⟨by first | omega | exact Nat.le_refl _⟩, ⟨by (with_reducible repeat (first | refine blk_drewN ?_ _ | refine blk_drew ?_ | refine blk_alloc ?_ _)); exact BK192.out⟩, ⟨by repeat (first | (with_reducible first | exact HB.out | apply below_alloc | apply pw_below_drewN | apply below_drew1 | refine below_set ?_ GE192.out) | exact HB.out)⟩⟩
      · rw [if_neg c8] at H
        have c8b0 : decide ((l0_0.length : Int) ≤ a1) = false := decide_eq_false c8
        clear c8
        by_cases c9 : a2 < 0
        · rw [if_pos c9] at H
          have c9b0 : decide (a2 < 0) = true := decide_eq_true c9
          clear c9
          have H' := Aside0.mk H
          clear H
          go_wp2
          go_meet
          case rel => exact ⟨_, (true), (by first | rfl | (simp; done) | (simp [*]; done)), H', ⟨by first | omega | exact Nat.le_refl _⟩, ⟨by (with_reducible repeat (first | refine blk_drewN ?_ _ | refine blk_drew ?_ | refine blk_alloc ?_ _)); exact BK192.out⟩, ⟨by repeat (first | (with_reducible first | exact HB.out | apply below_alloc | apply pw_below_drewN | apply below_drew1 | refine below_set ?_ GE192.out) | exact HB.out)⟩⟩
        · rw [if_neg c9] at H
          have c9b0 : decide (a2 < 0) = false := decide_eq_false c9
          clear c9
          have H' := Aside0.mk H
          clear H
          go_wp2
          go_meet
          case rel => exact ⟨_, (decide (a2 ≥ (l0_0.length : Int))), (by first | rfl | (simp; done) | (simp [*]; done)), H', ⟨by first | omega | exact Nat.le_refl _⟩, ⟨by (with_reducible repeat (first | refine blk_drewN ?_ _ | refine blk_drew ?_ | refine blk_alloc ?_ _)); exact BK192.out⟩, ⟨by repeat (first | (with_reducible first | exact HB.out | apply below_alloc | apply pw_below_drewN | apply below_drew1 | refine below_set ?_ GE192.out) | exact HB.out)⟩⟩
  case rest =>
    clear HC4
    try clear c1
    try clear p2
    try clear c7
    try clear c7b0
    try clear c8
    try clear c8b0
    try clear c9
    try clear c9b0
    try clear hcz6_0
    try clear hcz6_1
    try clear hfz6_0
    try clear hfz6_1
    obtain ⟨kq, x32_3, rfl, HA, HJ3, BK192, HB⟩ := hcut
    cases kq with
    | zero => exact absurd HA.out (by simp [waystoneref08_Reaches.j0])
    | succ kj3 =>
      have H := HA.out
      clear HA
      simp only [waystoneref08_Reaches.j0] at H
      by_cases c10 : x32_3 = true
      · subst c10
        have H1 : (some false) = some r := by rw [if_pos rfl] at H; exact H
        clear H
        have H := H1
        clear H1
        obtain rfl := Option.some.inj H
        go_wp2
        go_ret
        exact ⟨by first | rfl | (simp [errW_none, errW_some] <;> rfl) | (simp [*, errW_none, errW_some] <;> rfl), by repeat (first | (with_reducible first | exact HB.out | apply below_alloc | apply pw_below_drewN | apply below_drew1 | refine below_set ?_ GE192.out) | exact HB.out)⟩
      · replace c10 := Bool.eq_false_iff.mpr c10
        subst c10
        have H1 : (if 0 ≤ (l0_0.length : Int) then (if ((l0_0.length : Int) : Int).toNat ≤ 281474976710656 then ((some (List.replicate ((l0_0.length : Int) : Int).toNat false : List Bool)).bind fun y193 => (if 0 ≤ a1 then (if a1 < (y193.length : Int) then (waystoneref08_Reaches.l0 kj3 a2 (l0_0.length : Int) (y193.set (a1 : Int).toNat true) 0 l0_0 l0_1) else (none)) else (none))) else (none)) else (none)) = some r := by rw [if_neg (show ¬ (false = true) by decide)] at H; exact H
        clear H
        have H := H1
        clear H1
        by_cases c11 : 0 ≤ (l0_0.length : Int)
        · rw [if_pos c11] at H
          have c11b0 := eq_true c11
          have c11b1 : decide (0 ≤ (l0_0.length : Int)) = true := decide_eq_true c11
          clear c11
          by_cases c12 : ((l0_0.length : Int) : Int).toNat ≤ 281474976710656
          · rw [if_pos c12] at H
            have c12b0 := eq_true c12
            have c12b1 : decide (((l0_0.length : Int) : Int).toNat ≤ 281474976710656) = true := decide_eq_true c12
            clear c12
            obtain ⟨y193, hy193⟩ : ∃ y_ : List Bool, y_ = (List.replicate ((l0_0.length : Int) : Int).toNat false) := ⟨_, rfl⟩
            replace H : (if 0 ≤ a1 then (if a1 < (y193.length : Int) then (waystoneref08_Reaches.l0 kj3 a2 (l0_0.length : Int) (y193.set (a1 : Int).toNat true) 0 l0_0 l0_1) else (none)) else (none)) = some r := by first | (rw [hy193]; with_reducible exact H) | (have H2_ := (Option.bind_some _ _).symm.trans H; rw [hy193]; with_reducible exact H2_) | (have H2_ := (Option.bind_some _ _).symm.trans H; with_reducible exact H2_) | with_reducible exact H | (rw [hy193]; exact H) | exact H
            have Ny193 := Aside0.mk hy193
            clear hy193
            by_cases c13 : 0 ≤ a1
            · rw [if_pos c13] at H
              have c13b0 : decide (0 ≤ a1) = true := decide_eq_true c13
              clear c13
              by_cases c14 : a1 < (y193.length : Int)
              · rw [if_pos c14] at H
                have c14b0 : decide (a1 < (y193.length : Int)) = true := decide_eq_true c14
                clear c14
                obtain ⟨y196, hy196⟩ : ∃ y_ : List Bool, y_ = (y193.set (a1 : Int).toNat true) := ⟨_, rfl⟩
                replace H : (waystoneref08_Reaches.l0 kj3 a2 (l0_0.length : Int) y196 0 l0_0 l0_1) = some r := by first | (rw [hy196]; with_reducible exact H) | (have H2_ := (Option.bind_some _ _).symm.trans H; rw [hy196]; with_reducible exact H2_) | (have H2_ := (Option.bind_some _ _).symm.trans H; with_reducible exact H2_) | with_reducible exact H | (rw [hy196]; exact H) | exact H
                have Ny196 := Aside0.mk hy196
                clear hy196
                have H' := Aside0.mk H
                clear H
                go_wp2_with (first | ((with_reducible refine gate_dst (N := 34) rfl ?_); refine Kd.R_make Kd.bool _ 4 rfl (N := 34) rfl 55 _ _ rfl (l0_0.length : Int) rfl rfl Try.underlying55 (.bool false) 1 info4 rfl (by decide) (by omega) false (ok := fun _ => True) (okp := fun _ => True) rfl (fun _ hk => hk) trivial (of_decide_eq_true (by first | (with_reducible assumption) | assumption)) (Nat.le_trans (Nat.mul_le_mul_right _ (of_decide_eq_true (by first | (with_reducible assumption) | assumption) : (l0_0.length : Int).toNat ≤ 281474976710656)) (by omega)) (Below.refl _ _) (Nat.le_refl _) ?_; intro v194 w16 ho17 hb hg_ hnew_; clear hg_ hnew_; (first | rw [← Ny193.out] at ho17 | (simp only [Int.reduceToNat] at ho17; rw [← Ny193.out] at ho17)); have n0_ := Aside0.mk (Kd.R_lower ho17 (below_size (by repeat (first | (with_reducible first | exact HB.out | apply below_alloc | apply pw_below_drewN | apply below_drew1 | refine below_set ?_ GE192.out) | exact HB.out)))); have n1_ := Aside0.mk (blk_below (g := gb192) (o := .cells #[.slice A0_0 l0_0.length c0_0, .slice A0_1 l0_1.length c0_1] 25 (0, 0)) (by (with_reducible repeat (first | refine blk_drewN ?_ _ | refine blk_drew ?_ | refine blk_alloc ?_ _)); exact BK192.out) hb); have n2_ := Aside0.mk (below_step (by repeat (first | (with_reducible first | exact HB.out | apply below_alloc | apply pw_below_drewN | apply below_drew1 | refine below_set ?_ GE192.out) | exact HB.out)) hb); clear BK192; clear HB; have HO195 := n0_; have BK192 := n1_; have HB := n2_; clear n0_ n1_ n2_; clear hb ho17; have p15 : 0 ≤ (a1 : Int) := of_decide_eq_true (by first | (with_reducible assumption) | assumption); have q15 : (a1 : Int) < ((y193.length : Int) : Int) := of_decide_eq_true (by first | (with_reducible assumption) | assumption); obtain ⟨go15, co15, eo15, gb15, gl15, cl15, HG15⟩ := Kd.R_form HO195.out (by omega); (first | cases eo15 | (injection eo15 with ea_ en_ ec_; (first | subst ea_ | (injection ea_ with ea_; subst ea_)); subst ec_; clear en_)); have GB15 := Aside0.mk gb15; have GG15 := Aside0.mk HG15; clear gb15 gl15 HG15; obtain ⟨hx15_0, hf15_0⟩ := Kd.R_celln false HO195.out (a1 : Int) p15 q15; replace p15 := eq_true p15; replace q15 := eq_true q15; obtain ⟨hy18_, hz18_⟩ := Kd.R_celln false HO195.out (a1 : Int) (of_decide_eq_true (by first | (with_reducible assumption) | assumption)) (of_decide_eq_true (by first | (with_reducible assumption) | assumption)); have HP18 := Kd.R_putg HO195.out (a1 : Int) true) | ((with_reducible refine gate_store (t := 4) (p := 37) rfl ?_); refine store_event (t := 4) (p := 37) (v := ?vo_w19) (w1 := (w16.setCell ⟨go15, (a1 : Int).toNat, none⟩ (.bool true))) ?hg ?ho ?hn ?hr ?_; (case ho => rfl); (case hg => rfl); (case hn => rfl); (case hr => first | (go_simp; done) | (go_simp; rfl)); intro w19 hw; have hg : w16.grownBy w19 (some go15) := (by rw [hw]; exact HP18.2); have hp_ : Kd.R Kd.bool 4 w19 w.heap.size (fun _ => True) (.slice (some ⟨go15, 0, none⟩) y193.length co15) y196 := (by rw [hw, Ny196.out]; exact HP18.1); clear HP18; have n0_ := Aside0.mk (blk_grown (g := gb192) (o := .cells #[.slice A0_0 l0_0.length c0_0, .slice A0_1 l0_1.length c0_1] 25 (0, 0)) (by (with_reducible repeat (first | refine blk_drewN ?_ _ | refine blk_drew ?_ | refine blk_alloc ?_ _)); exact BK192.out) hg (Kd.R_ne HO195.out BK192.out (by decide))); have n1_ := Aside0.mk (hp_); have n2_ := Aside0.mk ((by rw [hw]; exact below_set (HB.out) GB15.out : Below w.heap.size w w19)); clear BK192; clear HO195; clear HB; have BK192 := n0_; have HO195 := n1_; have HB := n2_; clear n0_ n1_ n2_; clear hg hw hp_))
                go_loopg [9] kj3 (fun kq v9 w' => ∃ (x8_2 : List Bool) (x9_2 : Int), v9 = .int .i64 x9_2 ∧ Aside0 (waystoneref08_Reaches.l0 kq a2 (l0_0.length : Int) x8_2 x9_2 l0_0 l0_1 = some r) ∧ Aside0 (kq ≤ kj3) ∧ Aside0 (Kd.R Kd.bool 4 w' w.heap.size (fun _ => True) (.slice (some ⟨go15, 0, none⟩) y193.length co15) x8_2) ∧ Aside0 (w'.heap[gb192]? = some (.cells #[(.slice A0_0 l0_0.length c0_0), (.slice A0_1 l0_1.length c0_1)] 25 (0, 0))) ∧ Aside0 (Below w.heap.size w w'))
                case atStart => exact ⟨(y196), (0), (by first | rfl | (simp; done) | (simp [*]; done)), H', ⟨Nat.le_refl _⟩, ⟨by (with_reducible repeat (first | apply Kd.R_alloc | apply Kd.R_drewN | apply Kd.R_drew)); exact HO195.out⟩, ⟨by (with_reducible repeat (first | refine blk_drewN ?_ _ | refine blk_drew ?_ | refine blk_alloc ?_ _)); exact BK192.out⟩, ⟨by repeat (first | (with_reducible first | exact HB.out | apply below_alloc | apply pw_below_drewN | apply below_drew1 | refine below_set ?_ GE192.out) | exact HB.out)⟩⟩
                case round =>
                  clear H'
                  try clear c1
                  try clear p1
                  try clear q1
                  try clear hx1
                  try clear p2
                  try clear c7
                  try clear c7b0
                  try clear c8
                  try clear c8b0
                  try clear c9
                  try clear c9b0
                  try clear c10
                  try clear c11
                  try clear c11b0
                  try clear c11b1
                  try clear c12
                  try clear c12b0
                  try clear c12b1
                  try clear c13
                  try clear c13b0
                  try clear c14
                  try clear c14b0
                  try clear p15
                  try clear q15
                  try clear hx15
                  try clear hf15
                  try clear c16
                  try clear hcz6_0
                  try clear hcz6_1
                  try clear hfz6_0
                  try clear hfz6_1
                  try clear hx15_0
                  try clear p15
                  try clear p2
                  try clear q15
                  obtain ⟨x8_2, x9_2, rfl, HA, HK2, HO_8, BK192, HB⟩ := hrel
                  have hl8_2 := (Kd.R_reads' HO_8.out).1
                  rw [hl8_2] at HO_8
                  (try simp only [hl8_2])
                  (try simp only [hl8_2] at BK192)
                  cases gk with
                  | zero => exact absurd HA.out (by simp [waystoneref08_Reaches.l0])
                  | succ k2 =>
                    have H := HA.out
                    clear HA
                    simp only [waystoneref08_Reaches.l0] at H
                    by_cases c20 : x9_2 < (l0_0.length : Int)
                    · rw [if_pos c20] at H
                      have c20b0 : decide (x9_2 < (l0_0.length : Int)) = true := decide_eq_true c20
                      clear c20
                      have H' := Aside0.mk H
                      clear H
                      go_wp2
                      go_loopg [10] k2 (fun kq v10 w' => ∃ (x8_3 : List Bool) (x10_3 : Int), v10 = .int .i64 x10_3 ∧ Aside0 (waystoneref08_Reaches.l1 kq a2 (l0_0.length : Int) x8_3 x9_2 x10_3 l0_0 l0_1 = some r) ∧ Aside0 (kq ≤ k2) ∧ Aside0 (Kd.R Kd.bool 4 w' w.heap.size (fun _ => True) (.slice (some ⟨go15, 0, none⟩) x8_2.length co15) x8_3) ∧ Aside0 (w'.heap[gb192]? = some (.cells #[(.slice A0_0 l0_0.length c0_0), (.slice A0_1 l0_1.length c0_1)] 25 (0, 0))) ∧ Aside0 (Below w.heap.size w w'))
                      case atStart => exact ⟨(x8_2), (0), (by first | rfl | (simp; done) | (simp [*]; done)), H', ⟨Nat.le_refl _⟩, ⟨by (try simp only [hl8_2]); (with_reducible repeat (first | apply Kd.R_alloc | apply Kd.R_drewN | apply Kd.R_drew)); exact HO_8.out⟩, ⟨by (try simp only [hl8_2]); (with_reducible repeat (first | refine blk_drewN ?_ _ | refine blk_drew ?_ | refine blk_alloc ?_ _)); exact BK192.out⟩, ⟨by repeat (first | (with_reducible first | exact HB.out | apply below_alloc | apply pw_below_drewN | apply below_drew1 | refine below_set ?_ GE192.out) | exact HB.out)⟩⟩
                      case round =>
                        clear H'
                        try clear c1
                        try clear p1
                        try clear q1
                        try clear hx1
                        try clear c2
                        try clear p2
                        try clear c7
                        try clear c7b0
                        try clear c8
                        try clear c8b0
                        try clear c9
                        try clear c9b0
                        try clear c10
                        try clear c11
                        try clear c11b0
                        try clear c11b1
                        try clear c12
                        try clear c12b0
                        try clear c12b1
                        try clear c13
                        try clear c13b0
                        try clear c14
                        try clear c14b0
                        try clear p15
                        try clear q15
                        try clear hx15
                        try clear hf15
                        try clear c16
                        try clear c20
                        try clear c20b0
                        try clear hcz6_0
                        try clear hcz6_1
                        try clear hfz6_0
                        try clear hfz6_1
                        try clear hx15_0
                        try clear p1
                        try clear p15
                        try clear p2
                        try clear q1
                        try clear q15
                        obtain ⟨x8_3, x10_3, rfl, HA, HK3, HO_8, BK192, HB⟩ := hrel
                        have hl8_3 := (Kd.R_reads' HO_8.out).1
                        rw [hl8_3] at HO_8
                        (try simp only [hl8_3])
                        (try simp only [hl8_3] at BK192)
                        cases gk with
                        | zero => exact absurd HA.out (by simp [waystoneref08_Reaches.l1])
                        | succ k3 =>
                          have H := HA.out
                          clear HA
                          simp only [waystoneref08_Reaches.l1] at H
                          by_cases c21 : x10_3 < (l0_1.length : Int)
                          · rw [if_pos c21] at H
                            have c21b0 : decide (x10_3 < (l0_1.length : Int)) = true := decide_eq_true c21
                            clear c21
                            by_cases c22 : 0 ≤ x10_3
                            · rw [if_pos c22] at H
                              have c22b0 : decide (0 ≤ x10_3) = true := decide_eq_true c22
                              clear c22
                              by_cases c23 : 0 ≤ ((rd_T38 l0_1 x10_3).f0.f0)
                              · rw [if_pos c23] at H
                                have c23b0 : decide (0 ≤ ((rd_T38 l0_1 x10_3).f0.f0)) = true := decide_eq_true c23
                                clear c23
                                by_cases c24 : ((rd_T38 l0_1 x10_3).f0.f0) < (x8_3.length : Int)
                                · rw [if_pos c24] at H
                                  have c24b0 : decide (((rd_T38 l0_1 x10_3).f0.f0) < (x8_3.length : Int)) = true := decide_eq_true c24
                                  clear c24
                                  obtain ⟨bq25, hbq25⟩ : ∃ b_ : Bool, b_ = (rdOf false x8_3 ((rd_T38 l0_1 x10_3).f0.f0)) := ⟨_, rfl⟩
                                  replace H : (if bq25 = true then (if 0 ≤ ((rd_T38 l0_1 x10_3).f1.f0) then (if ((rd_T38 l0_1 x10_3).f1.f0) < (x8_3.length : Int) then (waystoneref08_Reaches.l1 k3 a2 (l0_0.length : Int) ((x8_3.set (((rd_T38 l0_1 x10_3).f0.f0) : Int).toNat true).set (((rd_T38 l0_1 x10_3).f1.f0) : Int).toNat true) x9_2 (wrap64 (x10_3 + 1)) l0_0 l0_1) else (none)) else (none)) else (if 0 ≤ ((rd_T38 l0_1 x10_3).f1.f0) then (if ((rd_T38 l0_1 x10_3).f1.f0) < (x8_3.length : Int) then (waystoneref08_Reaches.l1 k3 a2 (l0_0.length : Int) ((x8_3.set (((rd_T38 l0_1 x10_3).f0.f0) : Int).toNat (rdOf false x8_3 ((rd_T38 l0_1 x10_3).f1.f0))).set (((rd_T38 l0_1 x10_3).f1.f0) : Int).toNat (rdOf false x8_3 ((rd_T38 l0_1 x10_3).f1.f0))) x9_2 (wrap64 (x10_3 + 1)) l0_0 l0_1) else (none)) else (none))) = some r := by rw [← hbq25] at H; exact H
                                  have Nbq25 := Aside0.mk hbq25
                                  clear hbq25
                                  by_cases c26 : bq25 = true
                                  · subst c26
                                    have H1 : (if 0 ≤ ((rd_T38 l0_1 x10_3).f1.f0) then (if ((rd_T38 l0_1 x10_3).f1.f0) < (x8_3.length : Int) then (waystoneref08_Reaches.l1 k3 a2 (l0_0.length : Int) ((x8_3.set (((rd_T38 l0_1 x10_3).f0.f0) : Int).toNat true).set (((rd_T38 l0_1 x10_3).f1.f0) : Int).toNat true) x9_2 (wrap64 (x10_3 + 1)) l0_0 l0_1) else (none)) else (none)) = some r := by rw [if_pos rfl] at H; exact H
                                    clear H
                                    have H := H1
                                    clear H1
                                    obtain ⟨y201, hy201⟩ : ∃ y_ : List Bool, y_ = (x8_3.set (((rd_T38 l0_1 x10_3).f0.f0) : Int).toNat true) := ⟨_, rfl⟩
                                    replace H : (if 0 ≤ ((rd_T38 l0_1 x10_3).f1.f0) then (if ((rd_T38 l0_1 x10_3).f1.f0) < (x8_3.length : Int) then (waystoneref08_Reaches.l1 k3 a2 (l0_0.length : Int) (y201.set (((rd_T38 l0_1 x10_3).f1.f0) : Int).toNat true) x9_2 (wrap64 (x10_3 + 1)) l0_0 l0_1) else (none)) else (none)) = some r := by first | (rw [hy201]; with_reducible exact H) | (have H2_ := (Option.bind_some _ _).symm.trans H; rw [hy201]; with_reducible exact H2_) | (have H2_ := (Option.bind_some _ _).symm.trans H; with_reducible exact H2_) | with_reducible exact H | (rw [hy201]; exact H) | exact H
                                    have Ny201 := Aside0.mk hy201
                                    clear hy201
                                    by_cases c28 : 0 ≤ ((rd_T38 l0_1 x10_3).f1.f0)
                                    · rw [if_pos c28] at H
                                      have c28b0 : decide (0 ≤ ((rd_T38 l0_1 x10_3).f1.f0)) = true := decide_eq_true c28
                                      clear c28
                                      by_cases c29 : ((rd_T38 l0_1 x10_3).f1.f0) < (x8_3.length : Int)
                                      · rw [if_pos c29] at H
                                        have c29b0 : decide (((rd_T38 l0_1 x10_3).f1.f0) < (x8_3.length : Int)) = true := decide_eq_true c29
                                        clear c29
                                        obtain ⟨y202, hy202⟩ : ∃ y_ : List Bool, y_ = (y201.set (((rd_T38 l0_1 x10_3).f1.f0) : Int).toNat true) := ⟨_, rfl⟩
                                        replace H : (waystoneref08_Reaches.l1 k3 a2 (l0_0.length : Int) y202 x9_2 (wrap64 (x10_3 + 1)) l0_0 l0_1) = some r := by first | (rw [hy202]; with_reducible exact H) | (have H2_ := (Option.bind_some _ _).symm.trans H; rw [hy202]; with_reducible exact H2_) | (have H2_ := (Option.bind_some _ _).symm.trans H; with_reducible exact H2_) | with_reducible exact H | (rw [hy202]; exact H) | exact H
                                        have Ny202 := Aside0.mk hy202
                                        clear hy202
                                        have H' := Aside0.mk H
                                        clear H
                                        have hcz31_0 : wr.cell? ⟨gb192, 0, none⟩ = some (.slice A0_0 l0_0.length c0_0) := (blk_cell BK192.out 0).trans rfl
                                        have hcz31_1 : wr.cell? ⟨gb192, 1, none⟩ = some (.slice A0_1 l0_1.length c0_1) := (blk_cell BK192.out 1).trans rfl
                                        have hfz31_0 := blk_frozen BK192.out 0
                                        have hfz31_1 := blk_frozen BK192.out 1
                                        have p198 : 0 ≤ (x10_3 : Int) := of_decide_eq_true (by first | (with_reducible assumption) | assumption)
                                        have q198 : x10_3 < (l0_1.length : Int) := of_decide_eq_true (by first | (with_reducible assumption) | assumption)
                                        obtain ⟨ad198, e198, hx198_0, hx198_1, hx198_2, hx198_3⟩ := at_T38 HR0_1.out x10_3 p198 q198
                                        cases e198
                                        replace hx198_0 := (HB.out.cell (World.block_lt_of_cell? w _ hx198_0)).trans hx198_0
                                        replace hx198_1 := (HB.out.cell (World.block_lt_of_cell? w _ hx198_1)).trans hx198_1
                                        replace hx198_2 := (HB.out.cell (World.block_lt_of_cell? w _ hx198_2)).trans hx198_2
                                        replace hx198_3 := (HB.out.cell (World.block_lt_of_cell? w _ hx198_3)).trans hx198_3
                                        replace p198 := eq_true p198
                                        replace q198 := eq_true q198
                                        have p199 : 0 ≤ (x10_3 : Int) := of_decide_eq_true (by first | (with_reducible assumption) | assumption)
                                        have q199 : x10_3 < (l0_1.length : Int) := of_decide_eq_true (by first | (with_reducible assumption) | assumption)
                                        obtain ⟨ad199, e199, hx199_0, hx199_1, hx199_2, hx199_3⟩ := at_T38 HR0_1.out x10_3 p199 q199
                                        obtain rfl : ad198 = ad199 := (by injection e199)
                                        replace hx199_0 := (HB.out.cell (World.block_lt_of_cell? w _ hx199_0)).trans hx199_0
                                        replace hx199_1 := (HB.out.cell (World.block_lt_of_cell? w _ hx199_1)).trans hx199_1
                                        replace hx199_2 := (HB.out.cell (World.block_lt_of_cell? w _ hx199_2)).trans hx199_2
                                        replace hx199_3 := (HB.out.cell (World.block_lt_of_cell? w _ hx199_3)).trans hx199_3
                                        replace p199 := eq_true p199
                                        replace q199 := eq_true q199
                                        have p200 : 0 ≤ (((rd_T38 l0_1 x10_3).f0.f0) : Int) := of_decide_eq_true (by first | (with_reducible assumption) | assumption)
                                        have q200 : ((rd_T38 l0_1 x10_3).f0.f0) < (x8_3.length : Int) := of_decide_eq_true (by first | (with_reducible assumption) | assumption)
                                        obtain ⟨ad200, e200, hx200_0⟩ := Kd.at_bool (Kd.R_reads' HO_8.out).2.2 ((rd_T38 l0_1 x10_3).f0.f0) p200 q200
                                        (try rw [← Nbq25.out] at hx200_0)
                                        obtain rfl : (⟨go15, 0, none⟩ : Addr) = ad200 := (by injection e200)
                                        (first | simp only [add_plain] at hx200_0 | simp only [add_at] at hx200_0 | simp only [Addr.add, Nat.zero_add] at hx200_0 | skip)
                                        replace p200 := eq_true p200
                                        replace q200 := eq_true q200
                                        have p27 : 0 ≤ (((rd_T38 l0_1 x10_3).f0.f0) : Int) := of_decide_eq_true (by first | (with_reducible assumption) | assumption)
                                        have q27 : (((rd_T38 l0_1 x10_3).f0.f0) : Int) < ((x8_3.length : Int) : Int) := of_decide_eq_true (by first | (with_reducible assumption) | assumption)
                                        obtain ⟨hx27_0, hf27_0⟩ := Kd.R_celln false HO_8.out (((rd_T38 l0_1 x10_3).f0.f0) : Int) p27 q27
                                        replace p27 := eq_true p27
                                        replace q27 := eq_true q27
                                        have HP32 := Kd.R_putg HO_8.out (((rd_T38 l0_1 x10_3).f0.f0) : Int) true
                                        go_wp2_with (first | ((with_reducible refine gate_store (t := 4) (p := 77) rfl ?_); refine store_event (t := 4) (p := 77) (v := ?vo_w33) (w1 := (wr.setCell ⟨go15, (((rd_T38 l0_1 x10_3).f0.f0) : Int).toNat, none⟩ (.bool true))) ?hg ?ho ?hn ?hr ?_; (case ho => rfl); (case hg => rfl); (case hn => rfl); (case hr => first | (go_simp; done) | (go_simp; rfl)); intro w33 hw; have hg : wr.grownBy w33 (some go15) := (by rw [hw]; exact HP32.2); have hp_ : Kd.R Kd.bool 4 w33 w.heap.size (fun _ => True) (.slice (some ⟨go15, 0, none⟩) x8_3.length co15) y201 := (by rw [hw, Ny201.out]; exact HP32.1); clear HP32; have n0_ := Aside0.mk (hp_); have n1_ := Aside0.mk (blk_grown (g := gb192) (o := .cells #[.slice A0_0 l0_0.length c0_0, .slice (some ad198) l0_1.length c0_1] 25 (0, 0)) (by (with_reducible repeat (first | refine blk_drewN ?_ _ | refine blk_drew ?_ | refine blk_alloc ?_ _)); exact BK192.out) hg (Kd.R_ne HO_8.out BK192.out (by decide))); have n2_ := Aside0.mk ((by rw [hw]; exact below_set (HB.out) GB15.out : Below w.heap.size w w33)); clear HO_8; clear BK192; clear HB; have HO_8 := n0_; have BK192 := n1_; have HB := n2_; clear n0_ n1_ n2_; clear hg hw hp_; have p30 : 0 ≤ (((rd_T38 l0_1 x10_3).f1.f0) : Int) := of_decide_eq_true (by first | (with_reducible assumption) | assumption); have q30 : (((rd_T38 l0_1 x10_3).f1.f0) : Int) < ((x8_3.length : Int) : Int) := of_decide_eq_true (by first | (with_reducible assumption) | assumption); obtain ⟨hx30_0, hf30_0⟩ := Kd.R_celln false HO_8.out (((rd_T38 l0_1 x10_3).f1.f0) : Int) p30 q30; replace p30 := eq_true p30; replace q30 := eq_true q30; obtain ⟨hy34_, hz34_⟩ := Kd.R_celln false HO_8.out (((rd_T38 l0_1 x10_3).f1.f0) : Int) (of_decide_eq_true (by first | (with_reducible assumption) | assumption)) (of_decide_eq_true (by first | (with_reducible assumption) | assumption)); have HP34 := Kd.R_putg HO_8.out (((rd_T38 l0_1 x10_3).f1.f0) : Int) true) | ((with_reducible refine gate_store (t := 4) (p := 81) rfl ?_); refine store_event (t := 4) (p := 81) (v := ?vo_w35) (w1 := (w33.setCell ⟨go15, (((rd_T38 l0_1 x10_3).f1.f0) : Int).toNat, none⟩ (.bool true))) ?hg ?ho ?hn ?hr ?_; (case ho => rfl); (case hg => rfl); (case hn => rfl); (case hr => first | (go_simp; done) | (go_simp; rfl)); intro w35 hw; have hg : w33.grownBy w35 (some go15) := (by rw [hw]; exact HP34.2); have hp_ : Kd.R Kd.bool 4 w35 w.heap.size (fun _ => True) (.slice (some ⟨go15, 0, none⟩) x8_3.length co15) y202 := (by rw [hw, Ny202.out]; exact HP34.1); clear HP34; have n0_ := Aside0.mk (hp_); have n1_ := Aside0.mk (blk_grown (g := gb192) (o := .cells #[.slice A0_0 l0_0.length c0_0, .slice (some ad198) l0_1.length c0_1] 25 (0, 0)) (by (with_reducible repeat (first | refine blk_drewN ?_ _ | refine blk_drew ?_ | refine blk_alloc ?_ _)); exact BK192.out) hg (Kd.R_ne HO_8.out BK192.out (by decide))); have n2_ := Aside0.mk ((by rw [hw]; exact below_set (HB.out) GB15.out : Below w.heap.size w w35)); clear HO_8; clear BK192; clear HB; have HO_8 := n0_; have BK192 := n1_; have HB := n2_; clear n0_ n1_ n2_; clear hg hw hp_))
                                        (try simp only [← hl8_3])
                                        go_roundg k3
                                        case measure => have := HJ3.out; have := HK2.out; have := HK3.out; omega
                                        case rel => exact ⟨(y202), (wrap64 (x10_3 + 1)), (by first | rfl | (simp; done) | (simp [*]; done)), H', ⟨by have := HJ3.out; have := HK2.out; have := HK3.out; omega⟩, ⟨by (try simp only [hl8_2]); (try simp only [hl8_3]); (with_reducible repeat (first | apply Kd.R_alloc | apply Kd.R_drewN | apply Kd.R_drew)); exact HO_8.out⟩, ⟨by (try simp only [hl8_2]); (try simp only [hl8_3]); (with_reducible repeat (first | refine blk_drewN ?_ _ | refine blk_drew ?_ | refine blk_alloc ?_ _)); exact BK192.out⟩, ⟨by repeat (first | (with_reducible first | exact HB.out | apply below_alloc | apply pw_below_drewN | apply below_drew1 | refine below_set ?_ GE192.out) | exact HB.out)⟩⟩
                                      · rw [if_neg c29] at H
                                        exact absurd H (by simp)
                                    · rw [if_neg c28] at H
                                      exact absurd H (by simp)
                                  · replace c26 := Bool.eq_false_iff.mpr c26
                                    subst c26
                                    have H1 : (if 0 ≤ ((rd_T38 l0_1 x10_3).f1.f0) then (if ((rd_T38 l0_1 x10_3).f1.f0) < (x8_3.length : Int) then (waystoneref08_Reaches.l1 k3 a2 (l0_0.length : Int) ((x8_3.set (((rd_T38 l0_1 x10_3).f0.f0) : Int).toNat (rdOf false x8_3 ((rd_T38 l0_1 x10_3).f1.f0))).set (((rd_T38 l0_1 x10_3).f1.f0) : Int).toNat (rdOf false x8_3 ((rd_T38 l0_1 x10_3).f1.f0))) x9_2 (wrap64 (x10_3 + 1)) l0_0 l0_1) else (none)) else (none)) = some r := by rw [if_neg (show ¬ (false = true) by decide)] at H; exact H
                                    clear H
                                    have H := H1
                                    clear H1
                                    by_cases c36 : 0 ≤ ((rd_T38 l0_1 x10_3).f1.f0)
                                    · rw [if_pos c36] at H
                                      have c36b0 : decide (0 ≤ ((rd_T38 l0_1 x10_3).f1.f0)) = true := decide_eq_true c36
                                      clear c36
                                      by_cases c37 : ((rd_T38 l0_1 x10_3).f1.f0) < (x8_3.length : Int)
                                      · rw [if_pos c37] at H
                                        have c37b0 : decide (((rd_T38 l0_1 x10_3).f1.f0) < (x8_3.length : Int)) = true := decide_eq_true c37
                                        clear c37
                                        obtain ⟨y204, hy204⟩ : ∃ y_ : List Bool, y_ = (x8_3.set (((rd_T38 l0_1 x10_3).f0.f0) : Int).toNat (rdOf false x8_3 ((rd_T38 l0_1 x10_3).f1.f0))) := ⟨_, rfl⟩
                                        replace H : (waystoneref08_Reaches.l1 k3 a2 (l0_0.length : Int) (y204.set (((rd_T38 l0_1 x10_3).f1.f0) : Int).toNat (rdOf false x8_3 ((rd_T38 l0_1 x10_3).f1.f0))) x9_2 (wrap64 (x10_3 + 1)) l0_0 l0_1) = some r := by first | (rw [hy204]; with_reducible exact H) | (have H2_ := (Option.bind_some _ _).symm.trans H; rw [hy204]; with_reducible exact H2_) | (have H2_ := (Option.bind_some _ _).symm.trans H; with_reducible exact H2_) | with_reducible exact H | (rw [hy204]; exact H) | exact H
                                        have Ny204 := Aside0.mk hy204
                                        clear hy204
                                        obtain ⟨y205, hy205⟩ : ∃ y_ : List Bool, y_ = (y204.set (((rd_T38 l0_1 x10_3).f1.f0) : Int).toNat (rdOf false x8_3 ((rd_T38 l0_1 x10_3).f1.f0))) := ⟨_, rfl⟩
                                        replace H : (waystoneref08_Reaches.l1 k3 a2 (l0_0.length : Int) y205 x9_2 (wrap64 (x10_3 + 1)) l0_0 l0_1) = some r := by first | (rw [hy205]; with_reducible exact H) | (have H2_ := (Option.bind_some _ _).symm.trans H; rw [hy205]; with_reducible exact H2_) | (have H2_ := (Option.bind_some _ _).symm.trans H; with_reducible exact H2_) | with_reducible exact H | (rw [hy205]; exact H) | exact H
                                        have Ny205 := Aside0.mk hy205
                                        clear hy205
                                        have H' := Aside0.mk H
                                        clear H
                                        have hcz40_0 : wr.cell? ⟨gb192, 0, none⟩ = some (.slice A0_0 l0_0.length c0_0) := (blk_cell BK192.out 0).trans rfl
                                        have hcz40_1 : wr.cell? ⟨gb192, 1, none⟩ = some (.slice A0_1 l0_1.length c0_1) := (blk_cell BK192.out 1).trans rfl
                                        have hfz40_0 := blk_frozen BK192.out 0
                                        have hfz40_1 := blk_frozen BK192.out 1
                                        have p198 : 0 ≤ (x10_3 : Int) := of_decide_eq_true (by first | (with_reducible assumption) | assumption)
                                        have q198 : x10_3 < (l0_1.length : Int) := of_decide_eq_true (by first | (with_reducible assumption) | assumption)
                                        obtain ⟨ad198, e198, hx198_0, hx198_1, hx198_2, hx198_3⟩ := at_T38 HR0_1.out x10_3 p198 q198
                                        cases e198
                                        replace hx198_0 := (HB.out.cell (World.block_lt_of_cell? w _ hx198_0)).trans hx198_0
                                        replace hx198_1 := (HB.out.cell (World.block_lt_of_cell? w _ hx198_1)).trans hx198_1
                                        replace hx198_2 := (HB.out.cell (World.block_lt_of_cell? w _ hx198_2)).trans hx198_2
                                        replace hx198_3 := (HB.out.cell (World.block_lt_of_cell? w _ hx198_3)).trans hx198_3
                                        replace p198 := eq_true p198
                                        replace q198 := eq_true q198
                                        have p199 : 0 ≤ (x10_3 : Int) := of_decide_eq_true (by first | (with_reducible assumption) | assumption)
                                        have q199 : x10_3 < (l0_1.length : Int) := of_decide_eq_true (by first | (with_reducible assumption) | assumption)
                                        obtain ⟨ad199, e199, hx199_0, hx199_1, hx199_2, hx199_3⟩ := at_T38 HR0_1.out x10_3 p199 q199
                                        obtain rfl : ad198 = ad199 := (by injection e199)
                                        replace hx199_0 := (HB.out.cell (World.block_lt_of_cell? w _ hx199_0)).trans hx199_0
                                        replace hx199_1 := (HB.out.cell (World.block_lt_of_cell? w _ hx199_1)).trans hx199_1
                                        replace hx199_2 := (HB.out.cell (World.block_lt_of_cell? w _ hx199_2)).trans hx199_2
                                        replace hx199_3 := (HB.out.cell (World.block_lt_of_cell? w _ hx199_3)).trans hx199_3
                                        replace p199 := eq_true p199
                                        replace q199 := eq_true q199
                                        have p200 : 0 ≤ (((rd_T38 l0_1 x10_3).f0.f0) : Int) := of_decide_eq_true (by first | (with_reducible assumption) | assumption)
                                        have q200 : ((rd_T38 l0_1 x10_3).f0.f0) < (x8_3.length : Int) := of_decide_eq_true (by first | (with_reducible assumption) | assumption)
                                        obtain ⟨ad200, e200, hx200_0⟩ := Kd.at_bool (Kd.R_reads' HO_8.out).2.2 ((rd_T38 l0_1 x10_3).f0.f0) p200 q200
                                        (try rw [← Nbq25.out] at hx200_0)
                                        obtain rfl : (⟨go15, 0, none⟩ : Addr) = ad200 := (by injection e200)
                                        (first | simp only [add_plain] at hx200_0 | simp only [add_at] at hx200_0 | simp only [Addr.add, Nat.zero_add] at hx200_0 | skip)
                                        replace p200 := eq_true p200
                                        replace q200 := eq_true q200
                                        have p203 : 0 ≤ (((rd_T38 l0_1 x10_3).f1.f0) : Int) := of_decide_eq_true (by first | (with_reducible assumption) | assumption)
                                        have q203 : ((rd_T38 l0_1 x10_3).f1.f0) < (x8_3.length : Int) := of_decide_eq_true (by first | (with_reducible assumption) | assumption)
                                        obtain ⟨ad203, e203, hx203_0⟩ := Kd.at_bool (Kd.R_reads' HO_8.out).2.2 ((rd_T38 l0_1 x10_3).f1.f0) p203 q203
                                        (try rw [← Nbq25.out] at hx203_0)
                                        obtain rfl : (⟨go15, 0, none⟩ : Addr) = ad203 := (by injection e203)
                                        (first | simp only [add_plain] at hx203_0 | simp only [add_at] at hx203_0 | simp only [Addr.add, Nat.zero_add] at hx203_0 | skip)
                                        replace p203 := eq_true p203
                                        replace q203 := eq_true q203
                                        have p38 : 0 ≤ (((rd_T38 l0_1 x10_3).f0.f0) : Int) := of_decide_eq_true (by first | (with_reducible assumption) | assumption)
                                        have q38 : (((rd_T38 l0_1 x10_3).f0.f0) : Int) < ((x8_3.length : Int) : Int) := of_decide_eq_true (by first | (with_reducible assumption) | assumption)
                                        obtain ⟨hx38_0, hf38_0⟩ := Kd.R_celln false HO_8.out (((rd_T38 l0_1 x10_3).f0.f0) : Int) p38 q38
                                        replace p38 := eq_true p38
                                        replace q38 := eq_true q38
                                        have HP41 := Kd.R_putg HO_8.out (((rd_T38 l0_1 x10_3).f0.f0) : Int) (rdOf false x8_3 ((rd_T38 l0_1 x10_3).f1.f0))
                                        go_wp2_with (first | ((with_reducible refine gate_store (t := 4) (p := 77) rfl ?_); refine store_event (t := 4) (p := 77) (v := ?vo_w42) (w1 := (wr.setCell ⟨go15, (((rd_T38 l0_1 x10_3).f0.f0) : Int).toNat, none⟩ (.bool (rdOf false x8_3 ((rd_T38 l0_1 x10_3).f1.f0))))) ?hg ?ho ?hn ?hr ?_; (case ho => rfl); (case hg => rfl); (case hn => rfl); (case hr => first | (go_simp; done) | (go_simp; rfl)); intro w42 hw; have hg : wr.grownBy w42 (some go15) := (by rw [hw]; exact HP41.2); have hp_ : Kd.R Kd.bool 4 w42 w.heap.size (fun _ => True) (.slice (some ⟨go15, 0, none⟩) x8_3.length co15) y204 := (by rw [hw, Ny204.out]; exact HP41.1); clear HP41; have n0_ := Aside0.mk (hp_); have n1_ := Aside0.mk (blk_grown (g := gb192) (o := .cells #[.slice A0_0 l0_0.length c0_0, .slice (some ad198) l0_1.length c0_1] 25 (0, 0)) (by (with_reducible repeat (first | refine blk_drewN ?_ _ | refine blk_drew ?_ | refine blk_alloc ?_ _)); exact BK192.out) hg (Kd.R_ne HO_8.out BK192.out (by decide))); have n2_ := Aside0.mk ((by rw [hw]; exact below_set (HB.out) GB15.out : Below w.heap.size w w42)); clear HO_8; clear BK192; clear HB; have HO_8 := n0_; have BK192 := n1_; have HB := n2_; clear n0_ n1_ n2_; clear hg hw hp_; have p39 : 0 ≤ (((rd_T38 l0_1 x10_3).f1.f0) : Int) := of_decide_eq_true (by first | (with_reducible assumption) | assumption); have q39 : (((rd_T38 l0_1 x10_3).f1.f0) : Int) < ((x8_3.length : Int) : Int) := of_decide_eq_true (by first | (with_reducible assumption) | assumption); obtain ⟨hx39_0, hf39_0⟩ := Kd.R_celln false HO_8.out (((rd_T38 l0_1 x10_3).f1.f0) : Int) p39 q39; replace p39 := eq_true p39; replace q39 := eq_true q39; obtain ⟨hy43_, hz43_⟩ := Kd.R_celln false HO_8.out (((rd_T38 l0_1 x10_3).f1.f0) : Int) (of_decide_eq_true (by first | (with_reducible assumption) | assumption)) (of_decide_eq_true (by first | (with_reducible assumption) | assumption)); have HP43 := Kd.R_putg HO_8.out (((rd_T38 l0_1 x10_3).f1.f0) : Int) (rdOf false x8_3 ((rd_T38 l0_1 x10_3).f1.f0))) | ((with_reducible refine gate_store (t := 4) (p := 81) rfl ?_); refine store_event (t := 4) (p := 81) (v := ?vo_w44) (w1 := (w42.setCell ⟨go15, (((rd_T38 l0_1 x10_3).f1.f0) : Int).toNat, none⟩ (.bool (rdOf false x8_3 ((rd_T38 l0_1 x10_3).f1.f0))))) ?hg ?ho ?hn ?hr ?_; (case ho => rfl); (case hg => rfl); (case hn => rfl); (case hr => first | (go_simp; done) | (go_simp; rfl)); intro w44 hw; have hg : w42.grownBy w44 (some go15) := (by rw [hw]; exact HP43.2); have hp_ : Kd.R Kd.bool 4 w44 w.heap.size (fun _ => True) (.slice (some ⟨go15, 0, none⟩) x8_3.length co15) y205 := (by rw [hw, Ny205.out]; exact HP43.1); clear HP43; have n0_ := Aside0.mk (hp_); have n1_ := Aside0.mk (blk_grown (g := gb192) (o := .cells #[.slice A0_0 l0_0.length c0_0, .slice (some ad198) l0_1.length c0_1] 25 (0, 0)) (by (with_reducible repeat (first | refine blk_drewN ?_ _ | refine blk_drew ?_ | refine blk_alloc ?_ _)); exact BK192.out) hg (Kd.R_ne HO_8.out BK192.out (by decide))); have n2_ := Aside0.mk ((by rw [hw]; exact below_set (HB.out) GB15.out : Below w.heap.size w w44)); clear HO_8; clear BK192; clear HB; have HO_8 := n0_; have BK192 := n1_; have HB := n2_; clear n0_ n1_ n2_; clear hg hw hp_))
                                        (try simp only [← hl8_3])
                                        go_roundg k3
                                        case measure => have := HJ3.out; have := HK2.out; have := HK3.out; omega
                                        case rel => exact ⟨(y205), (wrap64 (x10_3 + 1)), (by first | rfl | (simp; done) | (simp [*]; done)), H', ⟨by have := HJ3.out; have := HK2.out; have := HK3.out; omega⟩, ⟨by (try simp only [hl8_2]); (try simp only [hl8_3]); (with_reducible repeat (first | apply Kd.R_alloc | apply Kd.R_drewN | apply Kd.R_drew)); exact HO_8.out⟩, ⟨by (try simp only [hl8_2]); (try simp only [hl8_3]); (with_reducible repeat (first | refine blk_drewN ?_ _ | refine blk_drew ?_ | refine blk_alloc ?_ _)); exact BK192.out⟩, ⟨by repeat (first | (with_reducible first | exact HB.out | apply below_alloc | apply pw_below_drewN | apply below_drew1 | refine below_set ?_ GE192.out) | exact HB.out)⟩⟩
                                      · rw [if_neg c37] at H
                                        exact absurd H (by simp)
                                    · rw [if_neg c36] at H
                                      exact absurd H (by simp)
                                · rw [if_neg c24] at H
                                  exact absurd H (by simp)
                              · rw [if_neg c23] at H
                                exact absurd H (by simp)
                            · rw [if_neg c22] at H
                              exact absurd H (by simp)
                          · rw [if_neg c21] at H
                            have c21b0 : decide (x10_3 < (l0_1.length : Int)) = false := decide_eq_false c21
                            clear c21
                            have H' := Aside0.mk H
                            clear H
                            have hcz45_0 : wr.cell? ⟨gb192, 0, none⟩ = some (.slice A0_0 l0_0.length c0_0) := (blk_cell BK192.out 0).trans rfl
                            have hcz45_1 : wr.cell? ⟨gb192, 1, none⟩ = some (.slice A0_1 l0_1.length c0_1) := (blk_cell BK192.out 1).trans rfl
                            have hfz45_0 := blk_frozen BK192.out 0
                            have hfz45_1 := blk_frozen BK192.out 1
                            go_wp2
                            (try simp only [← hl8_2, ← hl8_3])
                            go_roundg k3
                            case measure => have := HJ3.out; have := HK2.out; have := HK3.out; omega
                            case rel => exact ⟨(x8_3), (wrap64 (x9_2 + 1)), (by first | rfl | (simp; done) | (simp [*]; done)), H', ⟨by have := HJ3.out; have := HK2.out; have := HK3.out; omega⟩, ⟨by (try simp only [hl8_2]); (try simp only [hl8_3]); (with_reducible repeat (first | apply Kd.R_alloc | apply Kd.R_drewN | apply Kd.R_drew)); exact HO_8.out⟩, ⟨by (try simp only [hl8_2]); (try simp only [hl8_3]); (with_reducible repeat (first | refine blk_drewN ?_ _ | refine blk_drew ?_ | refine blk_alloc ?_ _)); exact BK192.out⟩, ⟨by repeat (first | (with_reducible first | exact HB.out | apply below_alloc | apply pw_below_drewN | apply below_drew1 | refine below_set ?_ GE192.out) | exact HB.out)⟩⟩
                    · rw [if_neg c20] at H
                      have c20b0 : decide (x9_2 < (l0_0.length : Int)) = false := decide_eq_false c20
                      clear c20
                      by_cases c46 : 0 ≤ a2
                      · rw [if_pos c46] at H
                        have c46b0 : decide (0 ≤ a2) = true := decide_eq_true c46
                        clear c46
                        by_cases c47 : a2 < (x8_2.length : Int)
                        · rw [if_pos c47] at H
                          have c47b0 : decide (a2 < (x8_2.length : Int)) = true := decide_eq_true c47
                          clear c47
                          obtain rfl := Option.some.inj H
                          have p197 : 0 ≤ (a2 : Int) := of_decide_eq_true (by first | (with_reducible assumption) | assumption)
                          have q197 : a2 < (x8_2.length : Int) := of_decide_eq_true (by first | (with_reducible assumption) | assumption)
                          obtain ⟨ad197, e197, hx197_0⟩ := Kd.at_bool (Kd.R_reads' HO_8.out).2.2 a2 p197 q197
                          obtain rfl : (⟨go15, 0, none⟩ : Addr) = ad197 := (by injection e197)
                          (first | simp only [add_plain] at hx197_0 | simp only [add_at] at hx197_0 | simp only [Addr.add, Nat.zero_add] at hx197_0 | skip)
                          replace p197 := eq_true p197
                          replace q197 := eq_true q197
                          go_wp2
                          go_ret
                          exact ⟨by first | rfl | (simp [errW_none, errW_some] <;> rfl) | (simp [*, errW_none, errW_some] <;> rfl), by repeat (first | (with_reducible first | exact HB.out | apply below_alloc | apply pw_below_drewN | apply below_drew1 | refine below_set ?_ GE192.out) | exact HB.out)⟩
                        · rw [if_neg c47] at H
                          exact absurd H (by simp)
                      · rw [if_neg c46] at H
                        exact absurd H (by simp)
              · rw [if_neg c14] at H
                exact absurd H (by simp)
            · rw [if_neg c13] at H
              exact absurd H (by simp)
          · rw [if_neg c12] at H
            exact absurd H (by simp)
        · rw [if_neg c11] at H
          exact absurd H (by simp)

-- NOT PRINTED: function 40 (api_Rule_40)

-- NOT PRINTED: function 33 (api_Rule_33)

/-! ### topo_Fits: function 17 (by hand) -/
def topo_Fits.f (l0_0 : List Int) (l0_1 : List (S38)) (l1 : List Int) : Option (Bool) := none
theorem topo_Fits.calls : True := trivial

end Go.Proofs.Ytglfpobapkkgdaa.P
