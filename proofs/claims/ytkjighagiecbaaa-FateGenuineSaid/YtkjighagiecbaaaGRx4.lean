/- Rx4. -/
import Derived.Test.YtkjighagiecbaaaGFatR
import Derived.Test.YtkjighagiecbaaaGRx3
import Derived.Test.YtkjighagiecbaaaGTopo5
import Derived.Test.YtkjighagiecbaaaGTopo4b
import Derived.Test.YtkjighagiecbaaaGFatN
namespace Go.Proofs.Ytkjighagiecbaaa.R
open Go.Proofs.Ytkjighagiecbaaa.P
open Go.RowKit Go.Proofs.YtkjighagiecbaaaW.PrintWords Go.Proofs.YtkjighagiecbaaaW.PrintLast Go.Proofs.YtkjighagiecbaaaW.PrintMore
set_option linter.unusedVariables false
set_option linter.unusedSimpArgs false
attribute [local go_sem high] eqA33
mutual
def waystoneref08_Right.j0 : Nat → Bool → List Int → List (S66) → Option (Bool)
  | 0, _, _, _ => none
  | k + 1, x24, x131000, x131001 => if x24 = true then (some false) else (waystoneref08_Right.l0 k 0 x131000 x131001)
def waystoneref08_Right.l0 : Nat → Int → List Int → List (S66) → Option (Bool)
  | 0, _, _, _ => none
  | k + 1, x3, x131000, x131001 => if x3 < (x131000.length : Int) then (if 0 ≤ x3 then (if (rd x131000 x3) < 1 then (some false) else (if (rd x131000 x3) > 4 then (some false) else (waystoneref08_Right.l0 k (wrap64 (x3 + 1)) x131000 x131001))) else (none)) else (waystoneref08_Right.l1 k ([] : List (S33)) 0 x131000 x131001)
def waystoneref08_Right.l1 : Nat → List (S33) → Int → List Int → List (S66) → Option (Bool)
  | 0, _, _, _, _ => none
  | k + 1, x4, x5, x131000, x131001 => if x5 < (x131001.length : Int) then (if 0 ≤ x5 then ((some (([(⟨(rd_T66 x131001 x5).f0.f0, (rd_T66 x131001 x5).f0.f1⟩ : S33), (⟨(rd_T66 x131001 x5).f1.f0, (rd_T66 x131001 x5).f1.f1⟩ : S33)] : List (S33)) : List (S33))).bind fun y135 => (if x4.length + y135.length < 8796093022208 then (waystoneref08_Right.l1 k (x4 ++ y135) (wrap64 (x5 + 1)) x131000 x131001) else (none))) else (none)) else (waystoneref08_Right.l2 k x4 0 x131000 x131001)
def waystoneref08_Right.l2 : Nat → List (S33) → Int → List Int → List (S66) → Option (Bool)
  | 0, _, _, _, _ => none
  | k + 1, x4, x6, x131000, x131001 => if x6 < (x4.length : Int) then (if 0 ≤ x6 then ((waystoneref08_Has.f x131000 x131001 ((rd_T33 x4 x6).f0) ((rd_T33 x4 x6).f1)).bind fun t142 => (if t142 = true then (waystoneref08_Right.l3 k x4 x6 0 x131000 x131001) else (some false))) else (none)) else (some true)
def waystoneref08_Right.l3 : Nat → List (S33) → Int → Int → List Int → List (S66) → Option (Bool)
  | 0, _, _, _, _, _ => none
  | k + 1, x4, x6, x8, x131000, x131001 => if x8 < x6 then (if 0 ≤ x8 then (if x8 < (x4.length : Int) then (if 0 ≤ x6 then (if x6 < (x4.length : Int) then (if (((rd_T33 x4 x8).f0) == ((rd_T33 x4 x6).f0) && (((rd_T33 x4 x8).f1) == ((rd_T33 x4 x6).f1))) = true then (some false) else (waystoneref08_Right.l3 k x4 x6 (wrap64 (x8 + 1)) x131000 x131001)) else (none)) else (none)) else (none)) else (none)) else (waystoneref08_Right.l2 k x4 (wrap64 (x6 + 1)) x131000 x131001)
end
def waystoneref08_Right.f (k : Nat) (l0_0 : List Int) (l0_1 : List (S66)) : Option (Bool) := if (l0_0.length : Int) < 1 then (waystoneref08_Right.j0 k true l0_0 l0_1) else (if (l0_0.length : Int) > 8 then (waystoneref08_Right.j0 k true l0_0 l0_1) else (waystoneref08_Right.j0 k (decide ((l0_1.length : Int) > 16)) l0_0 l0_1))
def waystoneref08_Right.T12 : Bool × List (List Nat × List Nat) := (true, [([], []), ([], []), ([1], [1]), ([], []), ([2, 3], [2, 3]), ([4], [4]), ([5], [5]), ([], []), ([7], [7]), ([], []), ([8, 9], [8, 9]), ([10], [10]), ([11], [11]), ([6, 12], [6, 12]), ([0, 13], [0, 13]), ([14, 14, 0, 1, 2, 3, 4, 5, 6, 7, 8, 9, 10, 11, 12, 13, 14], [0, 14])])
def waystoneref08_Right.B12 : List Nat := [0, 0, 2, 0, 14, 30, 62, 0, 128, 0, 896, 1920, 3968, 8190, 16383, 32767]
theorem waystoneref08_Right.tab12 : rtab .any (opsOf Try.f27 12) = waystoneref08_Right.T12 := by kernel_rfl
theorem waystoneref08_Right.bits12 : waitsOk waystoneref08_Right.T12.2 waystoneref08_Right.B12 = true := by kernel_rfl
def waystoneref08_Right.T22 : Bool × List (List Nat × List Nat) := (true, [([], []), ([], []), ([0, 1], [0, 1]), ([2], [2]), ([], []), ([], []), ([4, 5], [4, 5]), ([6], [6]), ([3, 7], [3, 7])])
def waystoneref08_Right.B22 : List Nat := [0, 0, 3, 7, 0, 0, 48, 112, 255]
theorem waystoneref08_Right.tab22 : rtab .any (opsOf Try.f27 22) = waystoneref08_Right.T22 := by kernel_rfl
theorem waystoneref08_Right.bits22 : waitsOk waystoneref08_Right.T22.2 waystoneref08_Right.B22 = true := by kernel_rfl
set_option maxHeartbeats 8000000 in
set_option maxRecDepth 100000 in
theorem waystoneref08_Right.calls (k : Nat) (A0_0 : Option Addr) (c0_0 : Nat) (l0_0 : List Int) (A0_1 : Option Addr) (c0_1 : Nat) (l0_1 : List (S66)) (r : Bool) (w : World) (hr0_0 : Kd.C (Kd.int .i64) w A0_0 l0_0.length l0_0) (hc0_0 : l0_0.length ≤ c0_0) (hr0_1 : Kd.C k66 w A0_1 l0_1.length l0_1) (hc0_1 : l0_1.length ≤ c0_1) (h : waystoneref08_Right.f k l0_0 l0_1 = some r) :
    Calls Try.prog 27 #[.agg #[.slice A0_0 l0_0.length c0_0, .slice A0_1 l0_1.length c0_1]] w fun e w' => e = .returned (.bool r) ∧ Below w.heap.size w w' := by
  have hu25 := Try.underlying25
  have hu33 := Try.underlying33
  have HR0_0 := Aside0.mk hr0_0
  have HC0_0 := Aside0.mk hc0_0
  clear hr0_0 hc0_0
  have HR0_1 := Aside0.mk hr0_1
  have HC0_1 := Aside0.mk hc0_1
  clear hr0_1 hc0_1
  have HB := Aside0.mk (Below.refl w.heap.size w)
  have H : (if (l0_0.length : Int) < 1 then (waystoneref08_Right.j0 k true l0_0 l0_1) else (if (l0_0.length : Int) > 8 then (waystoneref08_Right.j0 k true l0_0 l0_1) else (waystoneref08_Right.j0 k (decide ((l0_1.length : Int) > 16)) l0_0 l0_1))) = some r := h
  clear h
  have HC2 := Aside0.mk H
  clear H
  go_enter Try.func27, Try.ntmps27
  go_upto_region 1 with (first | ((with_reducible refine gate_dst (N := 1) rfl ?_); (try (refine gate_guard (by rfl) ?_; dsimp only)); refine box_event ?hg (N := 1) ?hd (cs := #[.slice A0_0 l0_0.length c0_0, .slice A0_1 l0_1.length c0_1]) (t := 25) ?hr ?_; (case hd => rfl); (case hg => rfl); (case hr => first | (go_simp; done) | (go_simp; rfl)); intro gb130 hg w3 hbox hb; have n0_ := Aside0.mk (below_step (by repeat (first | (with_reducible first | exact HB.out | apply below_alloc | apply pw_below_drewN | apply below_drew1) | exact HB.out)) hb); have n1_ := Aside0.mk (hbox); have n2_ := Aside0.mk ((by rw [hg]; exact (below_size (by repeat (first | (with_reducible first | exact HB.out | apply below_alloc | apply pw_below_drewN | apply below_drew1) | exact HB.out))) : w.heap.size ≤ gb130)); have n3_ := Aside0.mk ((by rw [hg]; exact (below_size (by repeat (first | (with_reducible first | exact HB.out | apply below_alloc | apply pw_below_drewN | apply below_drew1) | exact HB.out))) : w.heap.size ≤ gb130)); clear HB; have HB := n0_; have BK130 := n1_; have GW130 := n2_; have GE130 := n3_; clear n0_ n1_ n2_ n3_; clear hb hbox hg))
  (try simp only [Act.put, List.setIfInBounds_toArray, List.set_cons_zero, List.set_cons_succ])
  go_cut [24] (fun v24 wc => ∃ (kq : Nat) (x24_1 : Bool), v24 = .bool x24_1 ∧ Aside0 (waystoneref08_Right.j0 kq x24_1 l0_0 l0_1 = some r) ∧ Aside0 (kq ≤ k) ∧ Aside0 (wc.heap[gb130]? = some (.cells #[(.slice A0_0 l0_0.length c0_0), (.slice A0_1 l0_1.length c0_1)] 25 (0, 0))) ∧ Aside0 (Below w.heap.size w wc))
  case first =>
    have H := HC2.out
    clear HC2
    by_cases c4 : (l0_0.length : Int) < 1
    · rw [if_pos c4] at H
      have c4b0 : decide ((l0_0.length : Int) < 1) = true := decide_eq_true c4
      have c4b1 : decide (l0_0.length < 1) = true := decide_eq_true (by omega)
      clear c4
      (first | rw [c4b0] | (simp only [i64_w, i32_w]; rw [c4b0]) | skip)
      have H' := Aside0.mk H
      clear H
      have hcz5_0 : w3.cell? ⟨gb130, 0, none⟩ = some (.slice A0_0 l0_0.length c0_0) := (blk_cell BK130.out 0).trans rfl
      have hcz5_1 : w3.cell? ⟨gb130, 1, none⟩ = some (.slice A0_1 l0_1.length c0_1) := (blk_cell BK130.out 1).trans rfl
      have hfz5_0 := blk_frozen BK130.out 0
      have hfz5_1 := blk_frozen BK130.out 1
      go_wp2
      go_meet
      case rel => exact ⟨_, (true), (by first | rfl | (simp; done) | (simp [*]; done)), H', ⟨by first | omega | exact Nat.le_refl _⟩, ⟨by (with_reducible repeat (first | refine blk_drewN ?_ _ | refine blk_drew ?_ | refine blk_alloc ?_ _)); exact BK130.out⟩, ⟨by repeat (first | (with_reducible first | exact HB.out | apply below_alloc | apply pw_below_drewN | apply below_drew1 | refine below_set ?_ GE130.out) | exact HB.out)⟩⟩
    · rw [if_neg c4] at H
      have c4b0 : decide ((l0_0.length : Int) < 1) = false := decide_eq_false c4
      have c4b1 : decide (l0_0.length < 1) = false := decide_eq_false (by omega)
      clear c4
      (first | rw [c4b0] | (simp only [i64_w, i32_w]; rw [c4b0]) | skip)
      by_cases c6 : (l0_0.length : Int) > 8
      · rw [if_pos c6] at H
        have c6b0 : decide (8 < (l0_0.length : Int)) = true := decide_eq_true c6
        have c6b1 : decide (8 < l0_0.length) = true := decide_eq_true (by omega)
        clear c6
        have H' := Aside0.mk H
        clear H
        have hcz7_0 : w3.cell? ⟨gb130, 0, none⟩ = some (.slice A0_0 l0_0.length c0_0) := (blk_cell BK130.out 0).trans rfl
        have hcz7_1 : w3.cell? ⟨gb130, 1, none⟩ = some (.slice A0_1 l0_1.length c0_1) := (blk_cell BK130.out 1).trans rfl
        have hfz7_0 := blk_frozen BK130.out 0
        have hfz7_1 := blk_frozen BK130.out 1
        go_wp2
        go_meet
        case rel => exact ⟨_, (true), (by first | rfl | (simp; done) | (simp [*]; done)), H', ⟨by first | omega | exact Nat.le_refl _⟩, ⟨by (with_reducible repeat (first | refine blk_drewN ?_ _ | refine blk_drew ?_ | refine blk_alloc ?_ _)); exact BK130.out⟩, ⟨by repeat (first | (with_reducible first | exact HB.out | apply below_alloc | apply pw_below_drewN | apply below_drew1 | refine below_set ?_ GE130.out) | exact HB.out)⟩⟩
      · rw [if_neg c6] at H
        have c6b0 : decide (8 < (l0_0.length : Int)) = false := decide_eq_false c6
        have c6b1 : decide (8 < l0_0.length) = false := decide_eq_false (by omega)
        clear c6
        have H' := Aside0.mk H
        clear H
        have hcz8_0 : w3.cell? ⟨gb130, 0, none⟩ = some (.slice A0_0 l0_0.length c0_0) := (blk_cell BK130.out 0).trans rfl
        have hcz8_1 : w3.cell? ⟨gb130, 1, none⟩ = some (.slice A0_1 l0_1.length c0_1) := (blk_cell BK130.out 1).trans rfl
        have hfz8_0 := blk_frozen BK130.out 0
        have hfz8_1 := blk_frozen BK130.out 1
        go_wp2
        go_meet
        case rel => exact ⟨_, (decide ((l0_1.length : Int) > 16)), (by first | rfl | (simp; done) | (simp [*]; done)), H', ⟨by first | omega | exact Nat.le_refl _⟩, ⟨by (with_reducible repeat (first | refine blk_drewN ?_ _ | refine blk_drew ?_ | refine blk_alloc ?_ _)); exact BK130.out⟩, ⟨by repeat (first | (with_reducible first | exact HB.out | apply below_alloc | apply pw_below_drewN | apply below_drew1 | refine below_set ?_ GE130.out) | exact HB.out)⟩⟩
  case rest =>
    clear HC2
    try clear c2
    try clear p2
    try clear c4
    try clear c4b0
    try clear c4b1
    try clear c6
    try clear c6b0
    try clear c6b1
    try clear hcz5_0
    try clear hcz5_1
    try clear hcz7_0
    try clear hcz7_1
    try clear hcz8_0
    try clear hcz8_1
    try clear hfz5_0
    try clear hfz5_1
    try clear hfz7_0
    try clear hfz7_1
    try clear hfz8_0
    try clear hfz8_1
    obtain ⟨kq, x24_1, rfl, HA, HJ1, BK130, HB⟩ := hcut
    cases kq with
    | zero => exact absurd HA.out (by simp [waystoneref08_Right.j0])
    | succ kj1 =>
      have H := HA.out
      clear HA
      simp only [waystoneref08_Right.j0] at H
      by_cases c9 : x24_1 = true
      · subst c9
        have H1 : (some false) = some r := by rw [if_pos rfl] at H; exact H
        clear H
        have H := H1
        clear H1
        obtain rfl := Option.some.inj H
        go_wp2
        go_ret
        exact ⟨by first | rfl | (simp [errW_none, errW_some] <;> rfl) | (simp [*, errW_none, errW_some] <;> rfl), by repeat (first | (with_reducible first | exact HB.out | apply below_alloc | apply pw_below_drewN | apply below_drew1 | refine below_set ?_ GE130.out) | exact HB.out)⟩
      · replace c9 := Bool.eq_false_iff.mpr c9
        subst c9
        have H1 : (waystoneref08_Right.l0 kj1 0 l0_0 l0_1) = some r := by rw [if_neg (show ¬ (false = true) by decide)] at H; exact H
        clear H
        have H := H1
        clear H1
        have H' := Aside0.mk H
        clear H
        go_wp2
        go_loopg [3] kj1 (fun kq v3 w' => ∃ (x3_2 : Int), v3 = .int .i64 x3_2 ∧ Aside0 (waystoneref08_Right.l0 kq x3_2 l0_0 l0_1 = some r) ∧ Aside0 (kq ≤ kj1) ∧ Aside0 (w'.heap[gb130]? = some (.cells #[(.slice A0_0 l0_0.length c0_0), (.slice A0_1 l0_1.length c0_1)] 25 (0, 0))) ∧ Aside0 (Below w.heap.size w w'))
        case atStart => exact ⟨(0), (by first | rfl | (simp; done) | (simp [*]; done)), H', ⟨Nat.le_refl _⟩, ⟨by (with_reducible repeat (first | refine blk_drewN ?_ _ | refine blk_drew ?_ | refine blk_alloc ?_ _)); exact BK130.out⟩, ⟨by repeat (first | (with_reducible first | exact HB.out | apply below_alloc | apply pw_below_drewN | apply below_drew1 | refine below_set ?_ GE130.out) | exact HB.out)⟩⟩
        case round =>
          clear H'
          try clear c2
          try clear p2
          try clear c4
          try clear c4b0
          try clear c4b1
          try clear c6
          try clear c6b0
          try clear c6b1
          try clear c9
          try clear hcz5_0
          try clear hcz5_1
          try clear hcz7_0
          try clear hcz7_1
          try clear hcz8_0
          try clear hcz8_1
          try clear hfz5_0
          try clear hfz5_1
          try clear hfz7_0
          try clear hfz7_1
          try clear hfz8_0
          try clear hfz8_1
          try clear p2
          obtain ⟨x3_2, rfl, HA, HK2, BK130, HB⟩ := hrel
          cases gk with
          | zero => exact absurd HA.out (by simp [waystoneref08_Right.l0])
          | succ k2 =>
            have H := HA.out
            clear HA
            simp only [waystoneref08_Right.l0] at H
            by_cases c10 : x3_2 < (l0_0.length : Int)
            · rw [if_pos c10] at H
              have c10b0 : decide (x3_2 < (l0_0.length : Int)) = true := decide_eq_true c10
              clear c10
              by_cases c11 : 0 ≤ x3_2
              · rw [if_pos c11] at H
                have c11b0 : decide (0 ≤ x3_2) = true := decide_eq_true c11
                clear c11
                by_cases c12 : (rd l0_0 x3_2) < 1
                · rw [if_pos c12] at H
                  have c12b0 : decide ((rd l0_0 x3_2) < 1) = true := decide_eq_true c12
                  clear c12
                  obtain rfl := Option.some.inj H
                  have hcz13_0 : wr.cell? ⟨gb130, 0, none⟩ = some (.slice A0_0 l0_0.length c0_0) := (blk_cell BK130.out 0).trans rfl
                  have hcz13_1 : wr.cell? ⟨gb130, 1, none⟩ = some (.slice A0_1 l0_1.length c0_1) := (blk_cell BK130.out 1).trans rfl
                  have hfz13_0 := blk_frozen BK130.out 0
                  have hfz13_1 := blk_frozen BK130.out 1
                  have p131 : 0 ≤ (x3_2 : Int) := of_decide_eq_true (by first | (with_reducible assumption) | assumption)
                  have q131 : x3_2 < (l0_0.length : Int) := of_decide_eq_true (by first | (with_reducible assumption) | assumption)
                  obtain ⟨ad131, e131, hx131_0⟩ := Kd.at_int HR0_0.out x3_2 p131 q131
                  cases e131
                  replace hx131_0 := (HB.out.cell (World.block_lt_of_cell? w _ hx131_0)).trans hx131_0
                  replace p131 := eq_true p131
                  replace q131 := eq_true q131
                  go_wp2
                  go_ret
                  exact ⟨by first | rfl | (simp [errW_none, errW_some] <;> rfl) | (simp [*, errW_none, errW_some] <;> rfl), by repeat (first | (with_reducible first | exact HB.out | apply below_alloc | apply pw_below_drewN | apply below_drew1 | refine below_set ?_ GE130.out) | exact HB.out)⟩
                · rw [if_neg c12] at H
                  have c12b0 : decide ((rd l0_0 x3_2) < 1) = false := decide_eq_false c12
                  clear c12
                  by_cases c14 : (rd l0_0 x3_2) > 4
                  · rw [if_pos c14] at H
                    have c14b0 : decide (4 < (rd l0_0 x3_2)) = true := decide_eq_true c14
                    clear c14
                    obtain rfl := Option.some.inj H
                    have hcz15_0 : wr.cell? ⟨gb130, 0, none⟩ = some (.slice A0_0 l0_0.length c0_0) := (blk_cell BK130.out 0).trans rfl
                    have hcz15_1 : wr.cell? ⟨gb130, 1, none⟩ = some (.slice A0_1 l0_1.length c0_1) := (blk_cell BK130.out 1).trans rfl
                    have hfz15_0 := blk_frozen BK130.out 0
                    have hfz15_1 := blk_frozen BK130.out 1
                    have p131 : 0 ≤ (x3_2 : Int) := of_decide_eq_true (by first | (with_reducible assumption) | assumption)
                    have q131 : x3_2 < (l0_0.length : Int) := of_decide_eq_true (by first | (with_reducible assumption) | assumption)
                    obtain ⟨ad131, e131, hx131_0⟩ := Kd.at_int HR0_0.out x3_2 p131 q131
                    cases e131
                    replace hx131_0 := (HB.out.cell (World.block_lt_of_cell? w _ hx131_0)).trans hx131_0
                    replace p131 := eq_true p131
                    replace q131 := eq_true q131
                    have p132 : 0 ≤ (x3_2 : Int) := of_decide_eq_true (by first | (with_reducible assumption) | assumption)
                    have q132 : x3_2 < (l0_0.length : Int) := of_decide_eq_true (by first | (with_reducible assumption) | assumption)
                    obtain ⟨ad132, e132, hx132_0⟩ := Kd.at_int HR0_0.out x3_2 p132 q132
                    obtain rfl : ad131 = ad132 := (by injection e132)
                    replace hx132_0 := (HB.out.cell (World.block_lt_of_cell? w _ hx132_0)).trans hx132_0
                    replace p132 := eq_true p132
                    replace q132 := eq_true q132
                    go_wp2
                    go_ret
                    exact ⟨by first | rfl | (simp [errW_none, errW_some] <;> rfl) | (simp [*, errW_none, errW_some] <;> rfl), by repeat (first | (with_reducible first | exact HB.out | apply below_alloc | apply pw_below_drewN | apply below_drew1 | refine below_set ?_ GE130.out) | exact HB.out)⟩
                  · rw [if_neg c14] at H
                    have c14b0 : decide (4 < (rd l0_0 x3_2)) = false := decide_eq_false c14
                    clear c14
                    have H' := Aside0.mk H
                    clear H
                    have hcz16_0 : wr.cell? ⟨gb130, 0, none⟩ = some (.slice A0_0 l0_0.length c0_0) := (blk_cell BK130.out 0).trans rfl
                    have hcz16_1 : wr.cell? ⟨gb130, 1, none⟩ = some (.slice A0_1 l0_1.length c0_1) := (blk_cell BK130.out 1).trans rfl
                    have hfz16_0 := blk_frozen BK130.out 0
                    have hfz16_1 := blk_frozen BK130.out 1
                    have p131 : 0 ≤ (x3_2 : Int) := of_decide_eq_true (by first | (with_reducible assumption) | assumption)
                    have q131 : x3_2 < (l0_0.length : Int) := of_decide_eq_true (by first | (with_reducible assumption) | assumption)
                    obtain ⟨ad131, e131, hx131_0⟩ := Kd.at_int HR0_0.out x3_2 p131 q131
                    cases e131
                    replace hx131_0 := (HB.out.cell (World.block_lt_of_cell? w _ hx131_0)).trans hx131_0
                    replace p131 := eq_true p131
                    replace q131 := eq_true q131
                    have p132 : 0 ≤ (x3_2 : Int) := of_decide_eq_true (by first | (with_reducible assumption) | assumption)
                    have q132 : x3_2 < (l0_0.length : Int) := of_decide_eq_true (by first | (with_reducible assumption) | assumption)
                    obtain ⟨ad132, e132, hx132_0⟩ := Kd.at_int HR0_0.out x3_2 p132 q132
                    obtain rfl : ad131 = ad132 := (by injection e132)
                    replace hx132_0 := (HB.out.cell (World.block_lt_of_cell? w _ hx132_0)).trans hx132_0
                    replace p132 := eq_true p132
                    replace q132 := eq_true q132
                    go_wp2
                    go_roundg k2
                    case measure => have := HJ1.out; have := HK2.out; omega
                    case rel => exact ⟨(wrap64 (x3_2 + 1)), (by first | rfl | (simp; done) | (simp [*]; done)), H', ⟨by have := HJ1.out; have := HK2.out; omega⟩, ⟨by (with_reducible repeat (first | refine blk_drewN ?_ _ | refine blk_drew ?_ | refine blk_alloc ?_ _)); exact BK130.out⟩, ⟨by repeat (first | (with_reducible first | exact HB.out | apply below_alloc | apply pw_below_drewN | apply below_drew1 | refine below_set ?_ GE130.out) | exact HB.out)⟩⟩
              · rw [if_neg c11] at H
                exact absurd H (by simp)
            · rw [if_neg c10] at H
              have c10b0 : decide (x3_2 < (l0_0.length : Int)) = false := decide_eq_false c10
              clear c10
              have H' := Aside0.mk H
              clear H
              have hcz17_0 : wr.cell? ⟨gb130, 0, none⟩ = some (.slice A0_0 l0_0.length c0_0) := (blk_cell BK130.out 0).trans rfl
              have hcz17_1 : wr.cell? ⟨gb130, 1, none⟩ = some (.slice A0_1 l0_1.length c0_1) := (blk_cell BK130.out 1).trans rfl
              have hfz17_0 := blk_frozen BK130.out 0
              have hfz17_1 := blk_frozen BK130.out 1
              go_wp2
              go_loopg [4, 5] k2 (fun kq v4 v5 w' => ∃ (x4_3 : List (S33)) (x5_3 : Int), v5 = .int .i64 x5_3 ∧ Aside0 (waystoneref08_Right.l1 kq x4_3 x5_3 l0_0 l0_1 = some r) ∧ Aside0 (kq ≤ k2) ∧ Aside0 (Kd.R k33 33 w' w.heap.size (fun _ => True) v4 x4_3) ∧ Aside0 (w'.heap[gb130]? = some (.cells #[(.slice A0_0 l0_0.length c0_0), (.slice A0_1 l0_1.length c0_1)] 25 (0, 0))) ∧ Aside0 (Below w.heap.size w w'))
              case atStart => exact ⟨(([] : List (S33))), (0), (by first | rfl | (simp; done) | (simp [*]; done)), H', ⟨Nat.le_refl _⟩, ⟨by first | exact Kd.R_nil _ _ _ _ _ | exact Kd.N_nil _ _ _ _ _ | exact Kd.V_nil _ _ _ _ _ | exact Kd.Q_nil _ _ _ _ _ | exact Kd.S_nil _ _ _ _ _⟩, ⟨by (with_reducible repeat (first | refine blk_drewN ?_ _ | refine blk_drew ?_ | refine blk_alloc ?_ _)); exact BK130.out⟩, ⟨by repeat (first | (with_reducible first | exact HB.out | apply below_alloc | apply pw_below_drewN | apply below_drew1 | refine below_set ?_ GE130.out) | exact HB.out)⟩⟩
              case round =>
                clear H'
                try clear c1
                try clear p1
                try clear q1
                try clear hx1
                try clear c2
                try clear p2
                try clear c4
                try clear c4b0
                try clear c4b1
                try clear c6
                try clear c6b0
                try clear c6b1
                try clear p6
                try clear c9
                try clear c10
                try clear c10b0
                try clear c11
                try clear c11b0
                try clear c12
                try clear c12b0
                try clear p13
                try clear q13
                try clear hx13
                try clear c14
                try clear c14b0
                try clear hcz13_0
                try clear hcz13_1
                try clear hcz15_0
                try clear hcz15_1
                try clear hcz16_0
                try clear hcz16_1
                try clear hcz17_0
                try clear hcz17_1
                try clear hcz5_0
                try clear hcz5_1
                try clear hcz7_0
                try clear hcz7_1
                try clear hcz8_0
                try clear hcz8_1
                try clear hfz13_0
                try clear hfz13_1
                try clear hfz15_0
                try clear hfz15_1
                try clear hfz16_0
                try clear hfz16_1
                try clear hfz17_0
                try clear hfz17_1
                try clear hfz5_0
                try clear hfz5_1
                try clear hfz7_0
                try clear hfz7_1
                try clear hfz8_0
                try clear hfz8_1
                try clear hx131_0
                try clear hx132_0
                try clear p131
                try clear p132
                try clear p2
                try clear q131
                try clear q132
                obtain ⟨x4_3, x5_3, rfl, HA, HK3, HO_4, BK130, HB⟩ := hrel
                cases gk with
                | zero => exact absurd HA.out (by simp [waystoneref08_Right.l1])
                | succ k3 =>
                  have H := HA.out
                  clear HA
                  simp only [waystoneref08_Right.l1] at H
                  by_cases c18 : x5_3 < (l0_1.length : Int)
                  · rw [if_pos c18] at H
                    have c18b0 : decide (x5_3 < (l0_1.length : Int)) = true := decide_eq_true c18
                    clear c18
                    by_cases c19 : 0 ≤ x5_3
                    · rw [if_pos c19] at H
                      have c19b0 : decide (0 ≤ x5_3) = true := decide_eq_true c19
                      clear c19
                      obtain ⟨y135, hy135⟩ : ∃ y_ : List (S33), y_ = (([(⟨(rd_T66 l0_1 x5_3).f0.f0, (rd_T66 l0_1 x5_3).f0.f1⟩ : S33), (⟨(rd_T66 l0_1 x5_3).f1.f0, (rd_T66 l0_1 x5_3).f1.f1⟩ : S33)] : List (S33))) := ⟨_, rfl⟩
                      replace H : (if x4_3.length + y135.length < 8796093022208 then (waystoneref08_Right.l1 k3 (x4_3 ++ y135) (wrap64 (x5_3 + 1)) l0_0 l0_1) else (none)) = some r := by first | (rw [hy135]; with_reducible exact H) | (have H2_ := (Option.bind_some _ _).symm.trans H; rw [hy135]; with_reducible exact H2_) | (have H2_ := (Option.bind_some _ _).symm.trans H; with_reducible exact H2_) | with_reducible exact H | (rw [hy135]; exact H) | exact H
                      have Ny135 := Aside0.mk hy135
                      clear hy135
                      by_cases c20 : x4_3.length + y135.length < 8796093022208
                      · rw [if_pos c20] at H
                        have LMc20 := Aside0.mk c20
                        clear c20
                        obtain ⟨y138, hy138⟩ : ∃ y_ : List (S33), y_ = (x4_3 ++ y135) := ⟨_, rfl⟩
                        replace H : (waystoneref08_Right.l1 k3 y138 (wrap64 (x5_3 + 1)) l0_0 l0_1) = some r := by first | (rw [hy138]; with_reducible exact H) | (have H2_ := (Option.bind_some _ _).symm.trans H; rw [hy138]; with_reducible exact H2_) | (have H2_ := (Option.bind_some _ _).symm.trans H; with_reducible exact H2_) | with_reducible exact H | (rw [hy138]; exact H) | exact H
                        have Ny138 := Aside0.mk hy138
                        clear hy138
                        have H' := Aside0.mk H
                        clear H
                        have hcz21_0 : wr.cell? ⟨gb130, 0, none⟩ = some (.slice A0_0 l0_0.length c0_0) := (blk_cell BK130.out 0).trans rfl
                        have hcz21_1 : wr.cell? ⟨gb130, 1, none⟩ = some (.slice A0_1 l0_1.length c0_1) := (blk_cell BK130.out 1).trans rfl
                        have hfz21_0 := blk_frozen BK130.out 0
                        have hfz21_1 := blk_frozen BK130.out 1
                        try go_wp2
                        have n0_ := Aside0.mk (Kd.R_drew HO_4.out)
                        have n1_ := Aside0.mk (blk_drew BK130.out)
                        have n2_ := Aside0.mk (below_drew1 HB.out)
                        clear HO_4
                        clear BK130
                        clear HB
                        have HO_4 := n0_
                        have BK130 := n1_
                        have HB := n2_
                        clear n0_ n1_ n2_
                        have p133 : 0 ≤ (x5_3 : Int) := of_decide_eq_true (by first | (with_reducible assumption) | assumption)
                        have q133 : x5_3 < (l0_1.length : Int) := of_decide_eq_true (by first | (with_reducible assumption) | assumption)
                        obtain ⟨ad133, e133, hx133_0, hx133_1, hx133_2, hx133_3⟩ := at_T66 HR0_1.out x5_3 p133 q133
                        have hw133_3 := hx133_3
                        have hw133_2 := hx133_2
                        have hw133_1 := hx133_1
                        have hw133_0 := hx133_0
                        cases e133
                        replace hx133_0 := (HB.out.cell (World.block_lt_of_cell? w _ hx133_0)).trans hx133_0
                        replace hx133_1 := (HB.out.cell (World.block_lt_of_cell? w _ hx133_1)).trans hx133_1
                        replace hx133_2 := (HB.out.cell (World.block_lt_of_cell? w _ hx133_2)).trans hx133_2
                        replace hx133_3 := (HB.out.cell (World.block_lt_of_cell? w _ hx133_3)).trans hx133_3
                        replace p133 := eq_true p133
                        replace q133 := eq_true q133
                        have p134 : 0 ≤ (x5_3 : Int) := of_decide_eq_true (by first | (with_reducible assumption) | assumption)
                        have q134 : x5_3 < (l0_1.length : Int) := of_decide_eq_true (by first | (with_reducible assumption) | assumption)
                        obtain ⟨ad134, e134, hx134_0, hx134_1, hx134_2, hx134_3⟩ := at_T66 HR0_1.out x5_3 p134 q134
                        have hw134_3 := hx134_3
                        have hw134_2 := hx134_2
                        have hw134_1 := hx134_1
                        have hw134_0 := hx134_0
                        obtain rfl : ad133 = ad134 := (by injection e134)
                        replace hx134_0 := (HB.out.cell (World.block_lt_of_cell? w _ hx134_0)).trans hx134_0
                        replace hx134_1 := (HB.out.cell (World.block_lt_of_cell? w _ hx134_1)).trans hx134_1
                        replace hx134_2 := (HB.out.cell (World.block_lt_of_cell? w _ hx134_2)).trans hx134_2
                        replace hx134_3 := (HB.out.cell (World.block_lt_of_cell? w _ hx134_3)).trans hx134_3
                        replace p134 := eq_true p134
                        replace q134 := eq_true q134
                        refine start_ (n := 16) (S := fun w' => w'.cell? ⟨gb130, 0, none⟩ = some (.slice A0_0 l0_0.length c0_0) ∧ w'.cell? ⟨gb130, 1, none⟩ = some (.slice (some ad133) l0_1.length c0_1) ∧ w'.cell? (ad133.add ((x5_3).toNat * 4)) = some (.int .i64 ((rd_T66 l0_1 x5_3).f0.f0)) ∧ w'.cell? ⟨(ad133.add ((x5_3).toNat * 4)).block, (ad133.add ((x5_3).toNat * 4)).off + 1, none⟩ = some (.int .i64 ((rd_T66 l0_1 x5_3).f0.f1)) ∧ w'.cell? ⟨(ad133.add ((x5_3).toNat * 4)).block, (ad133.add ((x5_3).toNat * 4)).off + 2, none⟩ = some (.int .i64 ((rd_T66 l0_1 x5_3).f1.f0)) ∧ w'.cell? ⟨(ad133.add ((x5_3).toNat * 4)).block, (ad133.add ((x5_3).toNat * 4)).off + 3, none⟩ = some (.int .i64 ((rd_T66 l0_1 x5_3).f1.f1)) ∧ w'.cell? (ad133.add ((x5_3).toNat * 4)) = some (.int .i64 ((rd_T66 l0_1 x5_3).f0.f0)) ∧ w'.cell? ⟨(ad133.add ((x5_3).toNat * 4)).block, (ad133.add ((x5_3).toNat * 4)).off + 1, none⟩ = some (.int .i64 ((rd_T66 l0_1 x5_3).f0.f1)) ∧ w'.cell? ⟨(ad133.add ((x5_3).toNat * 4)).block, (ad133.add ((x5_3).toNat * 4)).off + 2, none⟩ = some (.int .i64 ((rd_T66 l0_1 x5_3).f1.f0)) ∧ w'.cell? ⟨(ad133.add ((x5_3).toNat * 4)).block, (ad133.add ((x5_3).toNat * 4)).off + 3, none⟩ = some (.int .i64 ((rd_T66 l0_1 x5_3).f1.f1))) (ds := []) #[false, false, false, false, false, false, false, false, false, false, false, false, false, false, false, false] (by kernel_rfl) rfl rfl ⟨(blk_cell BK130.out 0).trans rfl, (blk_cell BK130.out 1).trans rfl, ((HB.out.cell (World.block_lt_of_cell? w _ hw133_0)).trans hw133_0), ((HB.out.cell (World.block_lt_of_cell? w _ hw133_1)).trans hw133_1), ((HB.out.cell (World.block_lt_of_cell? w _ hw133_2)).trans hw133_2), ((HB.out.cell (World.block_lt_of_cell? w _ hw133_3)).trans hw133_3), ((HB.out.cell (World.block_lt_of_cell? w _ hw134_0)).trans hw134_0), ((HB.out.cell (World.block_lt_of_cell? w _ hw134_1)).trans hw134_1), ((HB.out.cell (World.block_lt_of_cell? w _ hw134_2)).trans hw134_2), ((HB.out.cell (World.block_lt_of_cell? w _ hw134_3)).trans hw134_3)⟩ (fun hHeld => ?_); refine with_tabW waystoneref08_Right.tab12 waystoneref08_Right.bits12 (fun HT_ HW_ => ?_)
                        generalize wr.drew = w22 at HO_4 BK130 HB hx133_0 hx133_1 hx133_2 hx133_3 hx134_0 hx134_1 hx134_2 hx134_3 hHeld ⊢
                        refine pure_ (i := 0) (N := some 53) (v := ?_) (a' := ?_) #[true, false, false, false, false, false, false, false, false, false, false, false, false, false, false, false] rfl rfl (any_of HT_.out (by kernel_rfl)) (fun _ _ _ h => h) (Or.inl ⟨by rfl, ?_⟩) ?_ ?_
                        rotate_left
                        · intro w'
                          go_simp
                          with_reducible rfl
                        rotate_left
                        · simp only [Act.put, List.setIfInBounds_toArray, List.set_cons_zero, List.set_cons_succ, i64_w, i32_w]
                          rfl
                        refine pure_ (i := 1) (N := some 54) (v := ?_) (a' := ?_) #[true, true, false, false, false, false, false, false, false, false, false, false, false, false, false, false] rfl rfl (any_of HT_.out (by kernel_rfl)) (fun _ _ _ h => h) (Or.inl ⟨by rfl, ?_⟩) ?_ ?_
                        rotate_left
                        · intro w'
                          go_simp
                          with_reducible rfl
                        rotate_left
                        · simp only [Act.put, List.setIfInBounds_toArray, List.set_cons_zero, List.set_cons_succ, i64_w, i32_w]
                          rfl
                        refine pure_ (i := 3) (N := some 56) (v := ?_) (a' := ?_) #[true, true, false, true, false, false, false, false, false, false, false, false, false, false, false, false] rfl rfl (any_of HT_.out (by kernel_rfl)) (fun _ _ _ h => h) (Or.inl ⟨by rfl, ?_⟩) ?_ ?_
                        rotate_left
                        · intro w'
                          go_simp
                          with_reducible rfl
                        rotate_left
                        · simp only [Act.put, List.setIfInBounds_toArray, List.set_cons_zero, List.set_cons_succ, i64_w, i32_w]
                          rfl
                        refine pure_ (i := 7) (N := some 60) (v := ?_) (a' := ?_) #[true, true, false, true, false, false, false, true, false, false, false, false, false, false, false, false] rfl rfl (any_of HT_.out (by kernel_rfl)) (fun _ _ _ h => h) (Or.inl ⟨by rfl, ?_⟩) ?_ ?_
                        rotate_left
                        · intro w'
                          go_simp
                          with_reducible rfl
                        rotate_left
                        · simp only [Act.put, List.setIfInBounds_toArray, List.set_cons_zero, List.set_cons_succ, i64_w, i32_w]
                          rfl
                        refine pure_ (i := 9) (N := some 62) (v := ?_) (a' := ?_) #[true, true, false, true, false, false, false, true, false, true, false, false, false, false, false, false] rfl rfl (any_of HT_.out (by kernel_rfl)) (fun _ _ _ h => h) (Or.inl ⟨by rfl, ?_⟩) ?_ ?_
                        rotate_left
                        · intro w'
                          go_simp
                          with_reducible rfl
                        rotate_left
                        · simp only [Act.put, List.setIfInBounds_toArray, List.set_cons_zero, List.set_cons_succ, i64_w, i32_w]
                          rfl
                        refine take_ (i := 2) (N := some 55) (v := ?_) (a' := ?_) #[true, true, true, true, false, false, false, true, false, true, false, false, false, false, false, false] rfl rfl (take_ofW HT_.out HW_.out (by kernel_rfl)) (fun _ _ _ h => h) (Or.inl ⟨by rfl, ?_⟩) hHeld ?_ ?_
                        rotate_left
                        · rintro w' ⟨s0, s1, s2, s3, s4, s5, s6, s7, s8, s9⟩
                          go_simp
                          with_reducible rfl
                        rotate_left
                        · simp only [Act.put, List.setIfInBounds_toArray, List.set_cons_zero, List.set_cons_succ, i64_w, i32_w]
                          rfl
                        refine pure_ (i := 4) (N := some 57) (v := ?_) (a' := ?_) #[true, true, true, true, true, false, false, true, false, true, false, false, false, false, false, false] rfl rfl (any_of HT_.out (by kernel_rfl)) (fun _ _ _ h => h) (Or.inl ⟨by rfl, ?_⟩) ?_ ?_
                        rotate_left
                        · intro w'
                          go_simp
                          with_reducible rfl
                        rotate_left
                        · simp only [Act.put, List.setIfInBounds_toArray, List.set_cons_zero, List.set_cons_succ, i64_w, i32_w]
                          rfl
                        refine pure_ (i := 5) (N := some 58) (v := ?_) (a' := ?_) #[true, true, true, true, true, true, false, true, false, true, false, false, false, false, false, false] rfl rfl (any_of HT_.out (by kernel_rfl)) (fun _ _ _ h => h) (Or.inl ⟨by rfl, ?_⟩) ?_ ?_
                        rotate_left
                        · intro w'
                          go_simp
                          with_reducible rfl
                        rotate_left
                        · simp only [Act.put, List.setIfInBounds_toArray, List.set_cons_zero, List.set_cons_succ, i64_w, i32_w]
                          rfl
                        refine take_ (i := 6) (N := some 59) (v := ?_) (a' := ?_) #[true, true, true, true, true, true, true, true, false, true, false, false, false, false, false, false] rfl rfl (take_ofW HT_.out HW_.out (by kernel_rfl)) (fun _ _ _ h => h) (Or.inl ⟨by rfl, ?_⟩) hHeld ?_ ?_
                        rotate_left
                        · rintro w' ⟨s0, s1, s2, s3, s4, s5, s6, s7, s8, s9⟩
                          go_simp
                          with_reducible rfl
                        rotate_left
                        · simp only [Act.put, List.setIfInBounds_toArray, List.set_cons_zero, List.set_cons_succ, i64_w, i32_w]
                          rfl
                        refine take_ (i := 8) (N := some 61) (v := ?_) (a' := ?_) #[true, true, true, true, true, true, true, true, true, true, false, false, false, false, false, false] rfl rfl (take_ofW HT_.out HW_.out (by kernel_rfl)) (fun _ _ _ h => h) (Or.inl ⟨by rfl, ?_⟩) hHeld ?_ ?_
                        rotate_left
                        · rintro w' ⟨s0, s1, s2, s3, s4, s5, s6, s7, s8, s9⟩
                          go_simp
                          with_reducible rfl
                        rotate_left
                        · simp only [Act.put, List.setIfInBounds_toArray, List.set_cons_zero, List.set_cons_succ, i64_w, i32_w]
                          rfl
                        refine pure_ (i := 10) (N := some 63) (v := ?_) (a' := ?_) #[true, true, true, true, true, true, true, true, true, true, true, false, false, false, false, false] rfl rfl (any_of HT_.out (by kernel_rfl)) (fun _ _ _ h => h) (Or.inl ⟨by rfl, ?_⟩) ?_ ?_
                        rotate_left
                        · intro w'
                          go_simp
                          with_reducible rfl
                        rotate_left
                        · simp only [Act.put, List.setIfInBounds_toArray, List.set_cons_zero, List.set_cons_succ, i64_w, i32_w]
                          rfl
                        refine pure_ (i := 11) (N := some 64) (v := ?_) (a' := ?_) #[true, true, true, true, true, true, true, true, true, true, true, true, false, false, false, false] rfl rfl (any_of HT_.out (by kernel_rfl)) (fun _ _ _ h => h) (Or.inl ⟨by rfl, ?_⟩) ?_ ?_
                        rotate_left
                        · intro w'
                          go_simp
                          with_reducible rfl
                        rotate_left
                        · simp only [Act.put, List.setIfInBounds_toArray, List.set_cons_zero, List.set_cons_succ, i64_w, i32_w]
                          rfl
                        refine take_ (i := 12) (N := some 65) (v := ?_) (a' := ?_) #[true, true, true, true, true, true, true, true, true, true, true, true, true, false, false, false] rfl rfl (take_ofW HT_.out HW_.out (by kernel_rfl)) (fun _ _ _ h => h) (Or.inl ⟨by rfl, ?_⟩) hHeld ?_ ?_
                        rotate_left
                        · rintro w' ⟨s0, s1, s2, s3, s4, s5, s6, s7, s8, s9⟩
                          go_simp
                          with_reducible rfl
                        rotate_left
                        · simp only [Act.put, List.setIfInBounds_toArray, List.set_cons_zero, List.set_cons_succ, i64_w, i32_w]
                          rfl
                        refine one_ (i := 13) (N := some 66) #[true, true, true, true, true, true, true, true, true, true, true, true, true, true, false, false] rfl rfl (one_of HT_.out (by kernel_rfl)) (by decide) (fun K hK => ?_)
                        refine Kd.R_lit_step k33 _ 33 ?hg (N := 66) ?hd (xs := ([(⟨(rd_T66 l0_1 x5_3).f0.f0, (rd_T66 l0_1 x5_3).f0.f1⟩ : S33), (⟨(rd_T66 l0_1 x5_3).f1.f0, (rd_T66 l0_1 x5_3).f1.f1⟩ : S33)] : List (S33))) (inner := [.int .i64 ((rd_T66 l0_1 x5_3).f0.f0), .int .i64 ((rd_T66 l0_1 x5_3).f0.f1), .int .i64 ((rd_T66 l0_1 x5_3).f1.f0), .int .i64 ((rd_T66 l0_1 x5_3).f1.f1)]) (ok := fun _ => True) (okp := fun _ => True) ?hr ?hp (fun _ hk => hk) trivial (Below.refl _ _) (Nat.le_refl _) (by simp) ?_; (case hd => rfl); (case hg => rfl); (case hr => first | (go_simp; done) | (go_simp; rfl)); (case hp => exact (Reps.c2 (show Kd.M k33 _ _ _ (⟨(rd_T66 l0_1 x5_3).f0.f0, (rd_T66 l0_1 x5_3).f0.f1⟩ : S33) [.int .i64 ((rd_T66 l0_1 x5_3).f0.f0), .int .i64 ((rd_T66 l0_1 x5_3).f0.f1)] from (k33_mkM _ _ _ (⟨(rd_T66 l0_1 x5_3).f0.f0, (rd_T66 l0_1 x5_3).f0.f1⟩ : S33) )) (Reps.c2 (show Kd.M k33 _ _ _ (⟨(rd_T66 l0_1 x5_3).f1.f0, (rd_T66 l0_1 x5_3).f1.f1⟩ : S33) [.int .i64 ((rd_T66 l0_1 x5_3).f1.f0), .int .i64 ((rd_T66 l0_1 x5_3).f1.f1)] from (k33_mkM _ _ _ (⟨(rd_T66 l0_1 x5_3).f1.f0, (rd_T66 l0_1 x5_3).f1.f1⟩ : S33) )) (Reps.none _ _))))
                        intro v136 w23 ho24 hb hg_ hnew_
                        clear hg_ hnew_
                        (first | rw [← Ny135.out] at ho24 | (simp only [Int.reduceToNat] at ho24; rw [← Ny135.out] at ho24))
                        have n0_ := Aside0.mk (Kd.R_elder' (by (with_reducible repeat (first | apply Kd.R_alloc | apply Kd.R_drewN | apply Kd.R_drew)); exact HO_4.out) (Kd.R_base ho24) hb)
                        have n1_ := Aside0.mk (Kd.R_lower (Kd.R_new' ho24 (Kd.R_lt (by (with_reducible repeat (first | apply Kd.R_alloc | apply Kd.R_drewN | apply Kd.R_drew)); exact HO_4.out))) (below_size (by repeat (first | (with_reducible first | exact HB.out | apply below_alloc | apply pw_below_drewN | apply below_drew1 | refine below_set ?_ GE130.out) | exact HB.out))))
                        have n2_ := Aside0.mk (blk_below (g := gb130) (o := .cells #[.slice A0_0 l0_0.length c0_0, .slice (some ad133) l0_1.length c0_1] 25 (0, 0)) (by (with_reducible repeat (first | refine blk_drewN ?_ _ | refine blk_drew ?_ | refine blk_alloc ?_ _)); exact BK130.out) hb)
                        have n3_ := Aside0.mk (below_step (by repeat (first | (with_reducible first | exact HB.out | apply below_alloc | apply pw_below_drewN | apply below_drew1 | refine below_set ?_ GE130.out) | exact HB.out)) hb)
                        clear HO_4
                        clear BK130
                        clear HB
                        have HO_4 := n0_
                        have HO137 := n1_
                        have BK130 := n2_
                        have HB := n3_
                        clear n0_ n1_ n2_ n3_
                        clear hb ho24
                        obtain ⟨Ao26, co26, eo26⟩ := Kd.R_slice HO137.out
                        (first | subst eo26 | (injection eo26 with f1_ f2_ f3_; have f4_ := f1_.symm; have f5_ := f3_.symm; clear f1_ f2_ f3_; subst f4_; subst f5_))
                        refine hK.out _ _ ⟨(blk_cell BK130.out 0).trans rfl, (blk_cell BK130.out 1).trans rfl, ((HB.out.cell (World.block_lt_of_cell? w _ hw133_0)).trans hw133_0), ((HB.out.cell (World.block_lt_of_cell? w _ hw133_1)).trans hw133_1), ((HB.out.cell (World.block_lt_of_cell? w _ hw133_2)).trans hw133_2), ((HB.out.cell (World.block_lt_of_cell? w _ hw133_3)).trans hw133_3), ((HB.out.cell (World.block_lt_of_cell? w _ hw134_0)).trans hw134_0), ((HB.out.cell (World.block_lt_of_cell? w _ hw134_1)).trans hw134_1), ((HB.out.cell (World.block_lt_of_cell? w _ hw134_2)).trans hw134_2), ((HB.out.cell (World.block_lt_of_cell? w _ hw134_3)).trans hw134_3)⟩ (fun hHeld => ?_)
                        clear hK K
                        refine norm_ (a' := ?_) ?_ ?_
                        rotate_left
                        · show Act.put _ (some 66) _ = _
                          simp only [Act.put, List.setIfInBounds_toArray, List.set_cons_zero, List.set_cons_succ, i64_w, i32_w]
                          rfl
                        refine one_ (i := 14) (N := some 67) #[true, true, true, true, true, true, true, true, true, true, true, true, true, true, true, false] rfl rfl (one_of HT_.out (by kernel_rfl)) (by decide) (fun K hK => ?_)
                        refine Kd.R_append_rows_step k33 (w0 := w) w.heap.size (by rfl) (.tmp 53) (.tmp 66) 78 33 (.agg #[(.int .i64 0), (.int .i64 0)]) 16 rfl Try.underlying78 info33 rfl (by decide) (by omega) u4 x4_3 y135 _ _ _ (fun k_ => some k_ ≠ (.slice Ao26 y135.length co26 : Value).ownBlock) (fun _ => False) rfl rfl ?aO ?aR (fun _ _ h => h) (fun _ h => h.elim) ?aF ?aB ?aS ?aL ?_
                        (case aR => repeat (first | exact (Kd.R_reads' HO137.out).2.2 | (with_reducible refine Kd.C_alloc ?_ _) | (with_reducible refine Kd.C_drewN ?_ _) | (with_reducible refine Kd.C_drew ?_)))
                        (case aB => exact (by repeat (first | (with_reducible first | exact HB.out | apply below_alloc | apply pw_below_drewN | apply below_drew1 | refine below_set ?_ GE130.out) | exact HB.out)))
                        (case aF => exact (fun k_ hk => Kd.fresh' (Kd.R_lt (by (with_reducible repeat (first | apply Kd.R_alloc | apply Kd.R_drewN | apply Kd.R_drew)); exact HO137.out)) k_ hk))
                        (case aO => exact (by (with_reducible repeat (first | apply Kd.R_alloc | apply Kd.R_drewN | apply Kd.R_drew)); exact Kd.R_mono HO_4.out (fun _ hk => hk.2)))
                        (case aS => exact (below_size (by repeat (first | (with_reducible first | exact HB.out | apply below_alloc | apply pw_below_drewN | apply below_drew1 | refine below_set ?_ GE130.out) | exact HB.out))))
                        (case aL => have := LMc20.out; omega)
                        intro v139 w25 ho hb hg hat
                        rw [← Ny138.out] at ho
                        have n0_ := Aside0.mk (blk_grown (g := gb130) (o := .cells #[.slice A0_0 l0_0.length c0_0, .slice (some ad133) l0_1.length c0_1] 25 (0, 0)) (by (with_reducible repeat (first | refine blk_drewN ?_ _ | refine blk_drew ?_ | refine blk_alloc ?_ _)); exact BK130.out) hg (Kd.R_ne HO_4.out BK130.out (by decide)))
                        have n1_ := Aside0.mk (Kd.R_after (ok := (fun _ => True)) (by (with_reducible repeat (first | apply Kd.R_alloc | apply Kd.R_drewN | apply Kd.R_drew)); exact HO137.out) hg hat)
                        have n2_ := Aside0.mk (hb)
                        have n3_ := Aside0.mk (ho)
                        clear BK130
                        clear HO137
                        clear HB
                        clear HO_4
                        have BK130 := n0_
                        have HO137 := n1_
                        have HB := n2_
                        have HO140 := n3_
                        clear n0_ n1_ n2_ n3_
                        clear ho hb hg hat
                        refine hK.out _ _ ⟨(blk_cell BK130.out 0).trans rfl, (blk_cell BK130.out 1).trans rfl, ((HB.out.cell (World.block_lt_of_cell? w _ hw133_0)).trans hw133_0), ((HB.out.cell (World.block_lt_of_cell? w _ hw133_1)).trans hw133_1), ((HB.out.cell (World.block_lt_of_cell? w _ hw133_2)).trans hw133_2), ((HB.out.cell (World.block_lt_of_cell? w _ hw133_3)).trans hw133_3), ((HB.out.cell (World.block_lt_of_cell? w _ hw134_0)).trans hw134_0), ((HB.out.cell (World.block_lt_of_cell? w _ hw134_1)).trans hw134_1), ((HB.out.cell (World.block_lt_of_cell? w _ hw134_2)).trans hw134_2), ((HB.out.cell (World.block_lt_of_cell? w _ hw134_3)).trans hw134_3)⟩ (fun hHeld => ?_)
                        clear hK K
                        refine norm_ (a' := ?_) ?_ ?_
                        rotate_left
                        · show Act.put _ (some 67) _ = _
                          simp only [Act.put, List.setIfInBounds_toArray, List.set_cons_zero, List.set_cons_succ, i64_w, i32_w]
                          rfl
                        refine pure_ (i := 15) (N := some 4) (v := ?_) (a' := ?_) #[true, true, true, true, true, true, true, true, true, true, true, true, true, true, true, true] rfl rfl (any_of HT_.out (by kernel_rfl)) (fun _ _ _ h => h) (Or.inl ⟨by rfl, ?_⟩) ?_ ?_
                        rotate_left
                        · intro w'
                          go_simp
                          with_reducible rfl
                        rotate_left
                        · simp only [Act.put, List.setIfInBounds_toArray, List.set_cons_zero, List.set_cons_succ, i64_w, i32_w]
                          rfl
                        refine done_ (done_of HT_.out (by kernel_rfl)) ?_
                        try go_wp2
                        go_roundg k3
                        case measure => have := HJ1.out; have := HK2.out; have := HK3.out; omega
                        case rel => exact ⟨(y138), (wrap64 (x5_3 + 1)), (by first | rfl | (simp; done) | (simp [*]; done)), H', ⟨by have := HJ1.out; have := HK2.out; have := HK3.out; omega⟩, ⟨by (with_reducible repeat (first | apply Kd.R_alloc | apply Kd.R_drewN | apply Kd.R_drew)); exact Kd.R_mono HO140.out (fun _ hk => trivial)⟩, ⟨by (with_reducible repeat (first | refine blk_drewN ?_ _ | refine blk_drew ?_ | refine blk_alloc ?_ _)); exact BK130.out⟩, ⟨by repeat (first | (with_reducible first | exact HB.out | apply below_alloc | apply pw_below_drewN | apply below_drew1 | refine below_set ?_ GE130.out) | exact HB.out)⟩⟩
                      · rw [if_neg c20] at H
                        exact absurd H (by simp)
                    · rw [if_neg c19] at H
                      exact absurd H (by simp)
                  · rw [if_neg c18] at H
                    have c18b0 : decide (x5_3 < (l0_1.length : Int)) = false := decide_eq_false c18
                    clear c18
                    have H' := Aside0.mk H
                    clear H
                    have hcz27_0 : wr.cell? ⟨gb130, 0, none⟩ = some (.slice A0_0 l0_0.length c0_0) := (blk_cell BK130.out 0).trans rfl
                    have hcz27_1 : wr.cell? ⟨gb130, 1, none⟩ = some (.slice A0_1 l0_1.length c0_1) := (blk_cell BK130.out 1).trans rfl
                    have hfz27_0 := blk_frozen BK130.out 0
                    have hfz27_1 := blk_frozen BK130.out 1
                    go_wp2
                    go_loopg [6] k3 (fun kq v6 w' => ∃ (x6_4 : Int), v6 = .int .i64 x6_4 ∧ Aside0 (waystoneref08_Right.l2 kq x4_3 x6_4 l0_0 l0_1 = some r) ∧ Aside0 (kq ≤ k3) ∧ Aside0 (Kd.R k33 33 w' w.heap.size (fun _ => True) u4 x4_3) ∧ Aside0 (w'.heap[gb130]? = some (.cells #[(.slice A0_0 l0_0.length c0_0), (.slice A0_1 l0_1.length c0_1)] 25 (0, 0))) ∧ Aside0 (Below w.heap.size w w'))
                    case atStart => exact ⟨(0), (by first | rfl | (simp; done) | (simp [*]; done)), H', ⟨Nat.le_refl _⟩, ⟨by (with_reducible repeat (first | apply Kd.R_alloc | apply Kd.R_drewN | apply Kd.R_drew)); exact HO_4.out⟩, ⟨by (with_reducible repeat (first | refine blk_drewN ?_ _ | refine blk_drew ?_ | refine blk_alloc ?_ _)); exact BK130.out⟩, ⟨by repeat (first | (with_reducible first | exact HB.out | apply below_alloc | apply pw_below_drewN | apply below_drew1 | refine below_set ?_ GE130.out) | exact HB.out)⟩⟩
                    case round =>
                      clear H'
                      try clear c1
                      try clear p1
                      try clear q1
                      try clear hx1
                      try clear c2
                      try clear p2
                      try clear c4
                      try clear c4b0
                      try clear c4b1
                      try clear c6
                      try clear c6b0
                      try clear c6b1
                      try clear p6
                      try clear c9
                      try clear c10
                      try clear c10b0
                      try clear c11
                      try clear c11b0
                      try clear c12
                      try clear c12b0
                      try clear p13
                      try clear q13
                      try clear hx13
                      try clear c14
                      try clear c14b0
                      try clear c18
                      try clear c18b0
                      try clear c19
                      try clear c19b0
                      try clear c20
                      try clear c27
                      try clear hcz13_0
                      try clear hcz13_1
                      try clear hcz15_0
                      try clear hcz15_1
                      try clear hcz16_0
                      try clear hcz16_1
                      try clear hcz17_0
                      try clear hcz17_1
                      try clear hcz21_0
                      try clear hcz21_1
                      try clear hcz27_0
                      try clear hcz27_1
                      try clear hcz5_0
                      try clear hcz5_1
                      try clear hcz7_0
                      try clear hcz7_1
                      try clear hcz8_0
                      try clear hcz8_1
                      try clear hfz13_0
                      try clear hfz13_1
                      try clear hfz15_0
                      try clear hfz15_1
                      try clear hfz16_0
                      try clear hfz16_1
                      try clear hfz17_0
                      try clear hfz17_1
                      try clear hfz21_0
                      try clear hfz21_1
                      try clear hfz27_0
                      try clear hfz27_1
                      try clear hfz5_0
                      try clear hfz5_1
                      try clear hfz7_0
                      try clear hfz7_1
                      try clear hfz8_0
                      try clear hfz8_1
                      try clear hx131_0
                      try clear hx132_0
                      try clear hx133_0
                      try clear hx133_1
                      try clear hx133_2
                      try clear hx133_3
                      try clear hx134_0
                      try clear hx134_1
                      try clear hx134_2
                      try clear hx134_3
                      try clear p1
                      try clear p13
                      try clear p131
                      try clear p132
                      try clear p133
                      try clear p134
                      try clear p2
                      try clear p6
                      try clear q1
                      try clear q13
                      try clear q131
                      try clear q132
                      try clear q133
                      try clear q134
                      obtain ⟨x6_4, rfl, HA, HK4, HO_4, BK130, HB⟩ := hrel
                      cases gk with
                      | zero => exact absurd HA.out (by simp [waystoneref08_Right.l2])
                      | succ k4 =>
                        have H := HA.out
                        clear HA
                        simp only [waystoneref08_Right.l2] at H
                        by_cases c28 : x6_4 < (x4_3.length : Int)
                        · rw [if_pos c28] at H
                          have c28b0 : decide (x6_4 < (x4_3.length : Int)) = true := decide_eq_true c28
                          clear c28
                          by_cases c29 : 0 ≤ x6_4
                          · rw [if_pos c29] at H
                            have c29b0 : decide (0 ≤ x6_4) = true := decide_eq_true c29
                            clear c29
                            replace H := Option.bind_eq_some_iff.mp H
                            obtain ⟨t142, A300, H⟩ := H
                            replace H : (if t142 = true then (waystoneref08_Right.l3 k4 x4_3 x6_4 0 l0_0 l0_1) else (some false)) = some r := H
                            have A30 := Aside0.mk A300
                            clear A300
                            by_cases c31 : t142 = true
                            · subst c31
                              have H1 : (waystoneref08_Right.l3 k4 x4_3 x6_4 0 l0_0 l0_1) = some r := by rw [if_pos rfl] at H; exact H
                              clear H
                              have H := H1
                              clear H1
                              have H' := Aside0.mk H
                              clear H
                              obtain ⟨Ao32, co32, eo32⟩ := Kd.R_slice HO_4.out
                              subst eo32
                              try go_wp2
                              have n0_ := Aside0.mk (Kd.R_drew HO_4.out)
                              have n1_ := Aside0.mk (blk_drew BK130.out)
                              have n2_ := Aside0.mk (below_drew1 HB.out)
                              clear HO_4
                              clear BK130
                              clear HB
                              have HO_4 := n0_
                              have BK130 := n1_
                              have HB := n2_
                              clear n0_ n1_ n2_
                              have p141 : 0 ≤ (x6_4 : Int) := of_decide_eq_true (by first | (with_reducible assumption) | assumption)
                              have q141 : x6_4 < (x4_3.length : Int) := of_decide_eq_true (by first | (with_reducible assumption) | assumption)
                              obtain ⟨ad141, e141, hx141_0, hx141_1⟩ := at_T33 (Kd.R_reads' HO_4.out).2.2 x6_4 p141 q141
                              cases e141
                              replace p141 := eq_true p141
                              replace q141 := eq_true q141
                              refine start_ (n := 7) (S := fun w' => w'.cell? ⟨gb130, 0, none⟩ = some (.slice A0_0 l0_0.length c0_0) ∧ w'.cell? ⟨gb130, 1, none⟩ = some (.slice A0_1 l0_1.length c0_1) ∧ w'.cell? (ad141.add ((x6_4).toNat * 2)) = some (.int .i64 ((rd_T33 x4_3 x6_4).f0)) ∧ w'.cell? ⟨(ad141.add ((x6_4).toNat * 2)).block, (ad141.add ((x6_4).toNat * 2)).off + 1, none⟩ = some (.int .i64 ((rd_T33 x4_3 x6_4).f1))) (ds := []) #[false, false, false, false, false, false, false] (by kernel_rfl) rfl rfl ⟨(blk_cell BK130.out 0).trans rfl, (blk_cell BK130.out 1).trans rfl, hx141_0, hx141_1⟩ (fun hHeld => ?_)
                              generalize wr.drew = w33 at HO_4 BK130 HB hx141_0 hx141_1 hHeld ⊢
                              refine pure_ (i := 1) (N := some 75) (v := ?_) (a' := ?_) #[false, true, false, false, false, false, false] rfl rfl (by kernel_rfl) (fun _ _ _ h => h) (Or.inl ⟨by rfl, ?_⟩) ?_ ?_
                              rotate_left
                              · intro w'
                                go_simp
                                with_reducible rfl
                              rotate_left
                              · simp only [Act.put, List.setIfInBounds_toArray, List.set_cons_zero, List.set_cons_succ, i64_w, i32_w]
                                rfl
                              refine pure_ (i := 2) (N := some 76) (v := ?_) (a' := ?_) #[false, true, true, false, false, false, false] rfl rfl (by kernel_rfl) (fun _ _ _ h => h) (Or.inl ⟨by rfl, ?_⟩) ?_ ?_
                              rotate_left
                              · intro w'
                                go_simp
                                with_reducible rfl
                              rotate_left
                              · simp only [Act.put, List.setIfInBounds_toArray, List.set_cons_zero, List.set_cons_succ, i64_w, i32_w]
                                rfl
                              refine pure_ (i := 3) (N := some 77) (v := ?_) (a' := ?_) #[false, true, true, true, false, false, false] rfl rfl (by kernel_rfl) (fun _ _ _ h => h) (Or.inl ⟨by rfl, ?_⟩) ?_ ?_
                              rotate_left
                              · intro w'
                                go_simp
                                with_reducible rfl
                              rotate_left
                              · simp only [Act.put, List.setIfInBounds_toArray, List.set_cons_zero, List.set_cons_succ, i64_w, i32_w]
                                rfl
                              refine take_ (i := 0) (N := some 74) (v := ?_) (a' := ?_) #[true, true, true, true, false, false, false] rfl rfl (by kernel_rfl) (fun _ _ _ h => h) (Or.inl ⟨by rfl, ?_⟩) hHeld ?_ ?_
                              rotate_left
                              · rintro w' ⟨s0, s1, s2, s3⟩
                                go_simp
                                with_reducible rfl
                              rotate_left
                              · simp only [Act.put, List.setIfInBounds_toArray, List.set_cons_zero, List.set_cons_succ, i64_w, i32_w]
                                rfl
                              refine take_ (i := 4) (N := some 78) (v := ?_) (a' := ?_) #[true, true, true, true, true, false, false] rfl rfl (by kernel_rfl) (fun _ _ _ h => h) (Or.inl ⟨by rfl, ?_⟩) hHeld ?_ ?_
                              rotate_left
                              · rintro w' ⟨s0, s1, s2, s3⟩
                                go_simp
                                with_reducible rfl
                              rotate_left
                              · simp only [Act.put, List.setIfInBounds_toArray, List.set_cons_zero, List.set_cons_succ, i64_w, i32_w]
                                rfl
                              refine one_ (i := 5) (N := some 79) #[true, true, true, true, true, true, false] rfl rfl (by kernel_rfl) (by decide) (fun K hK => ?_)
                              refine goes_ Try.func43 (by kernel_rfl) rfl #[.agg #[.slice A0_0 l0_0.length c0_0, .slice A0_1 l0_1.length c0_1], .agg #[.int .i64 ((rd_T33 x4_3 x6_4).f0), .int .i64 ((rd_T33 x4_3 x6_4).f1)]] (by rfl) rfl rfl (by (try simp only [List.map_toArray, List.map_cons, List.map_nil]); first | done | rfl | (simp only [List.length_drop, List.length_take]; rfl)) ?_
                              with_reducible refine (waystoneref08_Has.calls _ _ l0_0 _ _ l0_1 ((rd_T33 x4_3 x6_4).f0) ((rd_T33 x4_3 x6_4).f1) true _ ?side1 ?side2 ?side3 ?side4 A30.out).mono ?_
                              (case side1 => repeat (first | exact (Kd.C_below HR0_0.out HB.out) | (with_reducible refine Kd.C_alloc ?_ _) | (with_reducible refine Kd.C_drewN ?_ _) | (with_reducible refine Kd.C_drew ?_)))
                              (case side2 => exact HC0_0.out)
                              (case side3 => repeat (first | exact (Kd.C_below HR0_1.out HB.out) | (with_reducible refine Kd.C_alloc ?_ _) | (with_reducible refine Kd.C_drewN ?_ _) | (with_reducible refine Kd.C_drew ?_)))
                              (case side4 => exact HC0_1.out)
                              rintro e w34 ⟨rfl, hb⟩
                              have HS2_ := (hb.cell (World.block_lt_of_cell? _ _ (hHeld.2.2.1))).trans (hHeld.2.2.1)
                              have HS3_ := (hb.cell (World.block_lt_of_cell? _ _ (hHeld.2.2.2))).trans (hHeld.2.2.2)
                              refine ⟨_, rfl, ?_⟩
                              have n0_ := Aside0.mk (Kd.R_below (by (with_reducible repeat (first | apply Kd.R_alloc | apply Kd.R_drewN | apply Kd.R_drew)); exact HO_4.out) hb)
                              have n1_ := Aside0.mk (blk_below (g := gb130) (o := .cells #[.slice A0_0 l0_0.length c0_0, .slice A0_1 l0_1.length c0_1] 25 (0, 0)) (by (with_reducible repeat (first | refine blk_drewN ?_ _ | refine blk_drew ?_ | refine blk_alloc ?_ _)); exact BK130.out) hb)
                              have n2_ := Aside0.mk (below_step (by repeat (first | (with_reducible first | exact HB.out | apply below_alloc | apply pw_below_drewN | apply below_drew1 | refine below_set ?_ GE130.out) | exact HB.out)) hb)
                              clear HO_4
                              clear BK130
                              clear HB
                              have HO_4 := n0_
                              have BK130 := n1_
                              have HB := n2_
                              clear n0_ n1_ n2_
                              (try clear hb)
                              (try clear hb2)
                              (try clear hk)
                              (try clear hi)
                              refine hK.out _ _ ⟨(blk_cell BK130.out 0).trans rfl, (blk_cell BK130.out 1).trans rfl, HS2_, HS3_⟩ (fun hHeld => ?_)
                              clear hK K
                              refine norm_ (a' := ?_) ?_ ?_
                              rotate_left
                              · show Act.put _ (some 79) _ = _
                                simp only [Act.put, List.setIfInBounds_toArray, List.set_cons_zero, List.set_cons_succ, i64_w, i32_w]
                                rfl
                              refine pure_ (i := 6) (N := some 7) (v := ?_) (a' := ?_) #[true, true, true, true, true, true, true] rfl rfl (by kernel_rfl) (fun _ _ _ h => h) (Or.inl ⟨by rfl, ?_⟩) ?_ ?_
                              rotate_left
                              · intro w'
                                go_simp
                                with_reducible rfl
                              rotate_left
                              · simp only [Act.put, List.setIfInBounds_toArray, List.set_cons_zero, List.set_cons_succ, i64_w, i32_w]
                                rfl
                              refine done_ (by kernel_rfl) ?_
                              try go_wp2
                              go_loopg [8] k4 (fun kq v8 w' => ∃ (x8_5 : Int), v8 = .int .i64 x8_5 ∧ Aside0 (waystoneref08_Right.l3 kq x4_3 x6_4 x8_5 l0_0 l0_1 = some r) ∧ Aside0 (kq ≤ k4) ∧ Aside0 (Kd.R k33 33 w' w.heap.size (fun _ => True) (.slice (some ad141) x4_3.length co32) x4_3) ∧ Aside0 (w'.heap[gb130]? = some (.cells #[(.slice A0_0 l0_0.length c0_0), (.slice A0_1 l0_1.length c0_1)] 25 (0, 0))) ∧ Aside0 (Below w.heap.size w w'))
                              case atStart => exact ⟨(0), (by first | rfl | (simp; done) | (simp [*]; done)), H', ⟨Nat.le_refl _⟩, ⟨by (with_reducible repeat (first | apply Kd.R_alloc | apply Kd.R_drewN | apply Kd.R_drew)); exact HO_4.out⟩, ⟨by (with_reducible repeat (first | refine blk_drewN ?_ _ | refine blk_drew ?_ | refine blk_alloc ?_ _)); exact BK130.out⟩, ⟨by repeat (first | (with_reducible first | exact HB.out | apply below_alloc | apply pw_below_drewN | apply below_drew1 | refine below_set ?_ GE130.out) | exact HB.out)⟩⟩
                              case round =>
                                clear H'
                                try clear c1
                                try clear p1
                                try clear q1
                                try clear hx1
                                try clear c2
                                try clear p2
                                try clear c3
                                try clear c4
                                try clear c4b0
                                try clear c4b1
                                try clear c6
                                try clear c6b0
                                try clear c6b1
                                try clear p6
                                try clear c9
                                try clear c10
                                try clear c10b0
                                try clear c11
                                try clear c11b0
                                try clear c12
                                try clear c12b0
                                try clear p13
                                try clear q13
                                try clear hx13
                                try clear c14
                                try clear c14b0
                                try clear p14
                                try clear q14
                                try clear hx14
                                try clear c18
                                try clear c18b0
                                try clear c19
                                try clear c19b0
                                try clear c20
                                try clear c27
                                try clear c28
                                try clear c28b0
                                try clear c29
                                try clear c29b0
                                try clear c31
                                try clear hcz13_0
                                try clear hcz13_1
                                try clear hcz15_0
                                try clear hcz15_1
                                try clear hcz16_0
                                try clear hcz16_1
                                try clear hcz17_0
                                try clear hcz17_1
                                try clear hcz21_0
                                try clear hcz21_1
                                try clear hcz27_0
                                try clear hcz27_1
                                try clear hcz5_0
                                try clear hcz5_1
                                try clear hcz7_0
                                try clear hcz7_1
                                try clear hcz8_0
                                try clear hcz8_1
                                try clear hfz13_0
                                try clear hfz13_1
                                try clear hfz15_0
                                try clear hfz15_1
                                try clear hfz16_0
                                try clear hfz16_1
                                try clear hfz17_0
                                try clear hfz17_1
                                try clear hfz21_0
                                try clear hfz21_1
                                try clear hfz27_0
                                try clear hfz27_1
                                try clear hfz5_0
                                try clear hfz5_1
                                try clear hfz7_0
                                try clear hfz7_1
                                try clear hfz8_0
                                try clear hfz8_1
                                try clear hx131_0
                                try clear hx132_0
                                try clear hx133_0
                                try clear hx133_1
                                try clear hx133_2
                                try clear hx133_3
                                try clear hx134_0
                                try clear hx134_1
                                try clear hx134_2
                                try clear hx134_3
                                try clear hx141_0
                                try clear hx141_1
                                try clear p1
                                try clear p13
                                try clear p131
                                try clear p132
                                try clear p133
                                try clear p134
                                try clear p141
                                try clear p2
                                try clear p6
                                try clear q1
                                try clear q13
                                try clear q131
                                try clear q132
                                try clear q133
                                try clear q134
                                try clear q141
                                obtain ⟨x8_5, rfl, HA, HK5, HO_4, BK130, HB⟩ := hrel
                                cases gk with
                                | zero => exact absurd HA.out (by simp [waystoneref08_Right.l3])
                                | succ k5 =>
                                  have H := HA.out
                                  clear HA
                                  simp only [waystoneref08_Right.l3] at H
                                  by_cases c35 : x8_5 < x6_4
                                  · rw [if_pos c35] at H
                                    have c35b0 : decide (x8_5 < x6_4) = true := decide_eq_true c35
                                    clear c35
                                    by_cases c36 : 0 ≤ x8_5
                                    · rw [if_pos c36] at H
                                      have c36b0 : decide (0 ≤ x8_5) = true := decide_eq_true c36
                                      clear c36
                                      by_cases c37 : x8_5 < (x4_3.length : Int)
                                      · rw [if_pos c37] at H
                                        have c37b0 : decide (x8_5 < (x4_3.length : Int)) = true := decide_eq_true c37
                                        clear c37
                                        by_cases c38 : 0 ≤ x6_4
                                        · rw [if_pos c38] at H
                                          have c38b0 : decide (0 ≤ x6_4) = true := decide_eq_true c38
                                          clear c38
                                          by_cases c39 : x6_4 < (x4_3.length : Int)
                                          · rw [if_pos c39] at H
                                            have c39b0 : decide (x6_4 < (x4_3.length : Int)) = true := decide_eq_true c39
                                            clear c39
                                            by_cases c40 : (((rd_T33 x4_3 x8_5).f0) == ((rd_T33 x4_3 x6_4).f0) && (((rd_T33 x4_3 x8_5).f1) == ((rd_T33 x4_3 x6_4).f1))) = true
                                            · rw [if_pos c40] at H
                                              have c40b0 : (((rd_T33 x4_3 x8_5).f0) == ((rd_T33 x4_3 x6_4).f0) && (((rd_T33 x4_3 x8_5).f1) == ((rd_T33 x4_3 x6_4).f1))) = true := c40
                                              (try (have c40b1 : decide (((rd_T33 x4_3 x8_5).f0) = ((rd_T33 x4_3 x6_4).f0) && (((rd_T33 x4_3 x8_5).f1) == ((rd_T33 x4_3 x6_4).f1))) = true := by simpa using c40))
                                              (try (have c40b2 : (((rd_T33 x4_3 x8_5).f0) == ((rd_T33 x4_3 x6_4).f0) && (((rd_T33 x4_3 x8_5).f1) == ((rd_T33 x4_3 x6_4).f1))) = true := by simpa using c40))
                                              clear c40
                                              obtain rfl := Option.some.inj H
                                              try go_wp2
                                              have n0_ := Aside0.mk (Kd.R_drew HO_4.out)
                                              have n1_ := Aside0.mk (blk_drew BK130.out)
                                              have n2_ := Aside0.mk (below_drew1 HB.out)
                                              clear HO_4
                                              clear BK130
                                              clear HB
                                              have HO_4 := n0_
                                              have BK130 := n1_
                                              have HB := n2_
                                              clear n0_ n1_ n2_
                                              have p143 : 0 ≤ (x8_5 : Int) := of_decide_eq_true (by first | (with_reducible assumption) | assumption)
                                              have q143 : x8_5 < (x4_3.length : Int) := of_decide_eq_true (by first | (with_reducible assumption) | assumption)
                                              obtain ⟨ad143, e143, hx143_0, hx143_1⟩ := at_T33 (Kd.R_reads' HO_4.out).2.2 x8_5 p143 q143
                                              obtain rfl : ad141 = ad143 := (by injection e143)
                                              replace p143 := eq_true p143
                                              replace q143 := eq_true q143
                                              have p144 : 0 ≤ (x6_4 : Int) := of_decide_eq_true (by first | (with_reducible assumption) | assumption)
                                              have q144 : x6_4 < (x4_3.length : Int) := of_decide_eq_true (by first | (with_reducible assumption) | assumption)
                                              obtain ⟨ad144, e144, hx144_0, hx144_1⟩ := at_T33 (Kd.R_reads' HO_4.out).2.2 x6_4 p144 q144
                                              obtain rfl : ad141 = ad144 := (by injection e144)
                                              replace p144 := eq_true p144
                                              replace q144 := eq_true q144
                                              refine start_ (n := 9) (S := fun w' => w'.cell? (ad141.add ((x8_5).toNat * 2)) = some (.int .i64 ((rd_T33 x4_3 x8_5).f0)) ∧ w'.cell? ⟨(ad141.add ((x8_5).toNat * 2)).block, (ad141.add ((x8_5).toNat * 2)).off + 1, none⟩ = some (.int .i64 ((rd_T33 x4_3 x8_5).f1)) ∧ w'.cell? (ad141.add ((x6_4).toNat * 2)) = some (.int .i64 ((rd_T33 x4_3 x6_4).f0)) ∧ w'.cell? ⟨(ad141.add ((x6_4).toNat * 2)).block, (ad141.add ((x6_4).toNat * 2)).off + 1, none⟩ = some (.int .i64 ((rd_T33 x4_3 x6_4).f1))) (ds := []) #[false, false, false, false, false, false, false, false, false] (by kernel_rfl) rfl rfl ⟨hx143_0, hx143_1, hx144_0, hx144_1⟩ (fun hHeld => ?_); refine with_tabW waystoneref08_Right.tab22 waystoneref08_Right.bits22 (fun HT_ HW_ => ?_)
                                              generalize wr.drew = w41 at HO_4 BK130 HB hx143_0 hx143_1 hx144_0 hx144_1 hHeld ⊢
                                              refine pure_ (i := 0) (N := some 87) (v := ?_) (a' := ?_) #[true, false, false, false, false, false, false, false, false] rfl rfl (any_of HT_.out (by kernel_rfl)) (fun _ _ _ h => h) (Or.inl ⟨by rfl, ?_⟩) ?_ ?_
                                              rotate_left
                                              · intro w'
                                                go_simp
                                                with_reducible rfl
                                              rotate_left
                                              · simp only [Act.put, List.setIfInBounds_toArray, List.set_cons_zero, List.set_cons_succ, i64_w, i32_w]
                                                rfl
                                              refine pure_ (i := 1) (N := some 88) (v := ?_) (a' := ?_) #[true, true, false, false, false, false, false, false, false] rfl rfl (any_of HT_.out (by kernel_rfl)) (fun _ _ _ h => h) (Or.inl ⟨by rfl, ?_⟩) ?_ ?_
                                              rotate_left
                                              · intro w'
                                                go_simp
                                                with_reducible rfl
                                              rotate_left
                                              · simp only [Act.put, List.setIfInBounds_toArray, List.set_cons_zero, List.set_cons_succ, i64_w, i32_w]
                                                rfl
                                              refine pure_ (i := 2) (N := some 89) (v := ?_) (a' := ?_) #[true, true, true, false, false, false, false, false, false] rfl rfl (any_of HT_.out (by kernel_rfl)) (fun _ _ _ h => h) (Or.inl ⟨by rfl, ?_⟩) ?_ ?_
                                              rotate_left
                                              · intro w'
                                                go_simp
                                                with_reducible rfl
                                              rotate_left
                                              · simp only [Act.put, List.setIfInBounds_toArray, List.set_cons_zero, List.set_cons_succ, i64_w, i32_w]
                                                rfl
                                              refine pure_ (i := 4) (N := some 91) (v := ?_) (a' := ?_) #[true, true, true, false, true, false, false, false, false] rfl rfl (any_of HT_.out (by kernel_rfl)) (fun _ _ _ h => h) (Or.inl ⟨by rfl, ?_⟩) ?_ ?_
                                              rotate_left
                                              · intro w'
                                                go_simp
                                                with_reducible rfl
                                              rotate_left
                                              · simp only [Act.put, List.setIfInBounds_toArray, List.set_cons_zero, List.set_cons_succ, i64_w, i32_w]
                                                rfl
                                              refine pure_ (i := 5) (N := some 92) (v := ?_) (a' := ?_) #[true, true, true, false, true, true, false, false, false] rfl rfl (any_of HT_.out (by kernel_rfl)) (fun _ _ _ h => h) (Or.inl ⟨by rfl, ?_⟩) ?_ ?_
                                              rotate_left
                                              · intro w'
                                                go_simp
                                                with_reducible rfl
                                              rotate_left
                                              · simp only [Act.put, List.setIfInBounds_toArray, List.set_cons_zero, List.set_cons_succ, i64_w, i32_w]
                                                rfl
                                              refine pure_ (i := 6) (N := some 93) (v := ?_) (a' := ?_) #[true, true, true, false, true, true, true, false, false] rfl rfl (any_of HT_.out (by kernel_rfl)) (fun _ _ _ h => h) (Or.inl ⟨by rfl, ?_⟩) ?_ ?_
                                              rotate_left
                                              · intro w'
                                                go_simp
                                                with_reducible rfl
                                              rotate_left
                                              · simp only [Act.put, List.setIfInBounds_toArray, List.set_cons_zero, List.set_cons_succ, i64_w, i32_w]
                                                rfl
                                              refine take_ (i := 3) (N := some 90) (v := ?_) (a' := ?_) #[true, true, true, true, true, true, true, false, false] rfl rfl (take_ofW HT_.out HW_.out (by kernel_rfl)) (fun _ _ _ h => h) (Or.inl ⟨by rfl, ?_⟩) hHeld ?_ ?_
                                              rotate_left
                                              · rintro w' ⟨s0, s1, s2, s3⟩
                                                go_simp
                                                with_reducible rfl
                                              rotate_left
                                              · simp only [Act.put, List.setIfInBounds_toArray, List.set_cons_zero, List.set_cons_succ, i64_w, i32_w]
                                                rfl
                                              refine take_ (i := 7) (N := some 94) (v := ?_) (a' := ?_) #[true, true, true, true, true, true, true, true, false] rfl rfl (take_ofW HT_.out HW_.out (by kernel_rfl)) (fun _ _ _ h => h) (Or.inl ⟨by rfl, ?_⟩) hHeld ?_ ?_
                                              rotate_left
                                              · rintro w' ⟨s0, s1, s2, s3⟩
                                                go_simp
                                                with_reducible rfl
                                              rotate_left
                                              · simp only [Act.put, List.setIfInBounds_toArray, List.set_cons_zero, List.set_cons_succ, i64_w, i32_w]
                                                rfl
                                              refine pure_ (i := 8) (N := some 95) (v := ?_) (a' := ?_) #[true, true, true, true, true, true, true, true, true] rfl rfl (any_of HT_.out (by kernel_rfl)) (fun _ _ _ h => h) (Or.inl ⟨by rfl, ?_⟩) ?_ ?_
                                              rotate_left
                                              · intro w'
                                                go_simp
                                                with_reducible rfl
                                              rotate_left
                                              · simp only [Act.put, List.setIfInBounds_toArray, List.set_cons_zero, List.set_cons_succ, i64_w, i32_w]
                                                rfl
                                              refine done_ (done_of HT_.out (by kernel_rfl)) ?_
                                              try go_wp2
                                              go_ret
                                              exact ⟨by first | rfl | (simp [errW_none, errW_some] <;> rfl) | (simp [*, errW_none, errW_some] <;> rfl), by repeat (first | (with_reducible first | exact HB.out | apply below_alloc | apply pw_below_drewN | apply below_drew1 | refine below_set ?_ GE130.out) | exact HB.out)⟩
                                            · rw [if_neg c40] at H
                                              have c40b0 : (((rd_T33 x4_3 x8_5).f0) == ((rd_T33 x4_3 x6_4).f0) && (((rd_T33 x4_3 x8_5).f1) == ((rd_T33 x4_3 x6_4).f1))) = false := by simpa using c40
                                              (try (have c40b1 : decide (((rd_T33 x4_3 x8_5).f0) = ((rd_T33 x4_3 x6_4).f0) && (((rd_T33 x4_3 x8_5).f1) == ((rd_T33 x4_3 x6_4).f1))) = false := by simpa using c40))
                                              (try (have c40b2 : (((rd_T33 x4_3 x8_5).f0) == ((rd_T33 x4_3 x6_4).f0) && (((rd_T33 x4_3 x8_5).f1) == ((rd_T33 x4_3 x6_4).f1))) = false := by simpa using c40))
                                              (try (have c40b3 : ¬ (((rd_T33 x4_3 x8_5).f0) = ((rd_T33 x4_3 x6_4).f0) && (((rd_T33 x4_3 x8_5).f1) == ((rd_T33 x4_3 x6_4).f1))) := by simpa using c40))
                                              clear c40
                                              have H' := Aside0.mk H
                                              clear H
                                              try go_wp2
                                              have n0_ := Aside0.mk (Kd.R_drew HO_4.out)
                                              have n1_ := Aside0.mk (blk_drew BK130.out)
                                              have n2_ := Aside0.mk (below_drew1 HB.out)
                                              clear HO_4
                                              clear BK130
                                              clear HB
                                              have HO_4 := n0_
                                              have BK130 := n1_
                                              have HB := n2_
                                              clear n0_ n1_ n2_
                                              have p143 : 0 ≤ (x8_5 : Int) := of_decide_eq_true (by first | (with_reducible assumption) | assumption)
                                              have q143 : x8_5 < (x4_3.length : Int) := of_decide_eq_true (by first | (with_reducible assumption) | assumption)
                                              obtain ⟨ad143, e143, hx143_0, hx143_1⟩ := at_T33 (Kd.R_reads' HO_4.out).2.2 x8_5 p143 q143
                                              obtain rfl : ad141 = ad143 := (by injection e143)
                                              replace p143 := eq_true p143
                                              replace q143 := eq_true q143
                                              have p144 : 0 ≤ (x6_4 : Int) := of_decide_eq_true (by first | (with_reducible assumption) | assumption)
                                              have q144 : x6_4 < (x4_3.length : Int) := of_decide_eq_true (by first | (with_reducible assumption) | assumption)
                                              obtain ⟨ad144, e144, hx144_0, hx144_1⟩ := at_T33 (Kd.R_reads' HO_4.out).2.2 x6_4 p144 q144
                                              obtain rfl : ad141 = ad144 := (by injection e144)
                                              replace p144 := eq_true p144
                                              replace q144 := eq_true q144
                                              refine start_ (n := 9) (S := fun w' => w'.cell? (ad141.add ((x8_5).toNat * 2)) = some (.int .i64 ((rd_T33 x4_3 x8_5).f0)) ∧ w'.cell? ⟨(ad141.add ((x8_5).toNat * 2)).block, (ad141.add ((x8_5).toNat * 2)).off + 1, none⟩ = some (.int .i64 ((rd_T33 x4_3 x8_5).f1)) ∧ w'.cell? (ad141.add ((x6_4).toNat * 2)) = some (.int .i64 ((rd_T33 x4_3 x6_4).f0)) ∧ w'.cell? ⟨(ad141.add ((x6_4).toNat * 2)).block, (ad141.add ((x6_4).toNat * 2)).off + 1, none⟩ = some (.int .i64 ((rd_T33 x4_3 x6_4).f1))) (ds := []) #[false, false, false, false, false, false, false, false, false] (by kernel_rfl) rfl rfl ⟨hx143_0, hx143_1, hx144_0, hx144_1⟩ (fun hHeld => ?_); refine with_tabW waystoneref08_Right.tab22 waystoneref08_Right.bits22 (fun HT_ HW_ => ?_)
                                              generalize wr.drew = w42 at HO_4 BK130 HB hx143_0 hx143_1 hx144_0 hx144_1 hHeld ⊢
                                              refine pure_ (i := 0) (N := some 87) (v := ?_) (a' := ?_) #[true, false, false, false, false, false, false, false, false] rfl rfl (any_of HT_.out (by kernel_rfl)) (fun _ _ _ h => h) (Or.inl ⟨by rfl, ?_⟩) ?_ ?_
                                              rotate_left
                                              · intro w'
                                                go_simp
                                                with_reducible rfl
                                              rotate_left
                                              · simp only [Act.put, List.setIfInBounds_toArray, List.set_cons_zero, List.set_cons_succ, i64_w, i32_w]
                                                rfl
                                              refine pure_ (i := 1) (N := some 88) (v := ?_) (a' := ?_) #[true, true, false, false, false, false, false, false, false] rfl rfl (any_of HT_.out (by kernel_rfl)) (fun _ _ _ h => h) (Or.inl ⟨by rfl, ?_⟩) ?_ ?_
                                              rotate_left
                                              · intro w'
                                                go_simp
                                                with_reducible rfl
                                              rotate_left
                                              · simp only [Act.put, List.setIfInBounds_toArray, List.set_cons_zero, List.set_cons_succ, i64_w, i32_w]
                                                rfl
                                              refine pure_ (i := 2) (N := some 89) (v := ?_) (a' := ?_) #[true, true, true, false, false, false, false, false, false] rfl rfl (any_of HT_.out (by kernel_rfl)) (fun _ _ _ h => h) (Or.inl ⟨by rfl, ?_⟩) ?_ ?_
                                              rotate_left
                                              · intro w'
                                                go_simp
                                                with_reducible rfl
                                              rotate_left
                                              · simp only [Act.put, List.setIfInBounds_toArray, List.set_cons_zero, List.set_cons_succ, i64_w, i32_w]
                                                rfl
                                              refine pure_ (i := 4) (N := some 91) (v := ?_) (a' := ?_) #[true, true, true, false, true, false, false, false, false] rfl rfl (any_of HT_.out (by kernel_rfl)) (fun _ _ _ h => h) (Or.inl ⟨by rfl, ?_⟩) ?_ ?_
                                              rotate_left
                                              · intro w'
                                                go_simp
                                                with_reducible rfl
                                              rotate_left
                                              · simp only [Act.put, List.setIfInBounds_toArray, List.set_cons_zero, List.set_cons_succ, i64_w, i32_w]
                                                rfl
                                              refine pure_ (i := 5) (N := some 92) (v := ?_) (a' := ?_) #[true, true, true, false, true, true, false, false, false] rfl rfl (any_of HT_.out (by kernel_rfl)) (fun _ _ _ h => h) (Or.inl ⟨by rfl, ?_⟩) ?_ ?_
                                              rotate_left
                                              · intro w'
                                                go_simp
                                                with_reducible rfl
                                              rotate_left
                                              · simp only [Act.put, List.setIfInBounds_toArray, List.set_cons_zero, List.set_cons_succ, i64_w, i32_w]
                                                rfl
                                              refine pure_ (i := 6) (N := some 93) (v := ?_) (a' := ?_) #[true, true, true, false, true, true, true, false, false] rfl rfl (any_of HT_.out (by kernel_rfl)) (fun _ _ _ h => h) (Or.inl ⟨by rfl, ?_⟩) ?_ ?_
                                              rotate_left
                                              · intro w'
                                                go_simp
                                                with_reducible rfl
                                              rotate_left
                                              · simp only [Act.put, List.setIfInBounds_toArray, List.set_cons_zero, List.set_cons_succ, i64_w, i32_w]
                                                rfl
                                              refine take_ (i := 3) (N := some 90) (v := ?_) (a' := ?_) #[true, true, true, true, true, true, true, false, false] rfl rfl (take_ofW HT_.out HW_.out (by kernel_rfl)) (fun _ _ _ h => h) (Or.inl ⟨by rfl, ?_⟩) hHeld ?_ ?_
                                              rotate_left
                                              · rintro w' ⟨s0, s1, s2, s3⟩
                                                go_simp
                                                with_reducible rfl
                                              rotate_left
                                              · simp only [Act.put, List.setIfInBounds_toArray, List.set_cons_zero, List.set_cons_succ, i64_w, i32_w]
                                                rfl
                                              refine take_ (i := 7) (N := some 94) (v := ?_) (a' := ?_) #[true, true, true, true, true, true, true, true, false] rfl rfl (take_ofW HT_.out HW_.out (by kernel_rfl)) (fun _ _ _ h => h) (Or.inl ⟨by rfl, ?_⟩) hHeld ?_ ?_
                                              rotate_left
                                              · rintro w' ⟨s0, s1, s2, s3⟩
                                                go_simp
                                                with_reducible rfl
                                              rotate_left
                                              · simp only [Act.put, List.setIfInBounds_toArray, List.set_cons_zero, List.set_cons_succ, i64_w, i32_w]
                                                rfl
                                              refine pure_ (i := 8) (N := some 95) (v := ?_) (a' := ?_) #[true, true, true, true, true, true, true, true, true] rfl rfl (any_of HT_.out (by kernel_rfl)) (fun _ _ _ h => h) (Or.inl ⟨by rfl, ?_⟩) ?_ ?_
                                              rotate_left
                                              · intro w'
                                                go_simp
                                                with_reducible rfl
                                              rotate_left
                                              · simp only [Act.put, List.setIfInBounds_toArray, List.set_cons_zero, List.set_cons_succ, i64_w, i32_w]
                                                rfl
                                              refine done_ (done_of HT_.out (by kernel_rfl)) ?_
                                              try go_wp2
                                              go_roundg k5
                                              case measure => have := HJ1.out; have := HK2.out; have := HK3.out; have := HK4.out; have := HK5.out; omega
                                              case rel => exact ⟨(wrap64 (x8_5 + 1)), (by first | rfl | (simp; done) | (simp [*]; done)), H', ⟨by have := HJ1.out; have := HK2.out; have := HK3.out; have := HK4.out; have := HK5.out; omega⟩, ⟨by (with_reducible repeat (first | apply Kd.R_alloc | apply Kd.R_drewN | apply Kd.R_drew)); exact HO_4.out⟩, ⟨by (with_reducible repeat (first | refine blk_drewN ?_ _ | refine blk_drew ?_ | refine blk_alloc ?_ _)); exact BK130.out⟩, ⟨by repeat (first | (with_reducible first | exact HB.out | apply below_alloc | apply pw_below_drewN | apply below_drew1 | refine below_set ?_ GE130.out) | exact HB.out)⟩⟩
                                          · rw [if_neg c39] at H
                                            exact absurd H (by simp)
                                        · rw [if_neg c38] at H
                                          exact absurd H (by simp)
                                      · rw [if_neg c37] at H
                                        exact absurd H (by simp)
                                    · rw [if_neg c36] at H
                                      exact absurd H (by simp)
                                  · rw [if_neg c35] at H
                                    have c35b0 : decide (x8_5 < x6_4) = false := decide_eq_false c35
                                    clear c35
                                    have H' := Aside0.mk H
                                    clear H
                                    go_wp2
                                    go_roundg k5
                                    case measure => have := HJ1.out; have := HK2.out; have := HK3.out; have := HK4.out; have := HK5.out; omega
                                    case rel => exact ⟨(wrap64 (x6_4 + 1)), (by first | rfl | (simp; done) | (simp [*]; done)), H', ⟨by have := HJ1.out; have := HK2.out; have := HK3.out; have := HK4.out; have := HK5.out; omega⟩, ⟨by (with_reducible repeat (first | apply Kd.R_alloc | apply Kd.R_drewN | apply Kd.R_drew)); exact HO_4.out⟩, ⟨by (with_reducible repeat (first | refine blk_drewN ?_ _ | refine blk_drew ?_ | refine blk_alloc ?_ _)); exact BK130.out⟩, ⟨by repeat (first | (with_reducible first | exact HB.out | apply below_alloc | apply pw_below_drewN | apply below_drew1 | refine below_set ?_ GE130.out) | exact HB.out)⟩⟩
                            · replace c31 := Bool.eq_false_iff.mpr c31
                              subst c31
                              have H1 : (some false) = some r := by rw [if_neg (show ¬ (false = true) by decide)] at H; exact H
                              clear H
                              have H := H1
                              clear H1
                              obtain rfl := Option.some.inj H
                              obtain ⟨Ao43, co43, eo43⟩ := Kd.R_slice HO_4.out
                              subst eo43
                              try go_wp2
                              have n0_ := Aside0.mk (Kd.R_drew HO_4.out)
                              have n1_ := Aside0.mk (blk_drew BK130.out)
                              have n2_ := Aside0.mk (below_drew1 HB.out)
                              clear HO_4
                              clear BK130
                              clear HB
                              have HO_4 := n0_
                              have BK130 := n1_
                              have HB := n2_
                              clear n0_ n1_ n2_
                              have p141 : 0 ≤ (x6_4 : Int) := of_decide_eq_true (by first | (with_reducible assumption) | assumption)
                              have q141 : x6_4 < (x4_3.length : Int) := of_decide_eq_true (by first | (with_reducible assumption) | assumption)
                              obtain ⟨ad141, e141, hx141_0, hx141_1⟩ := at_T33 (Kd.R_reads' HO_4.out).2.2 x6_4 p141 q141
                              cases e141
                              replace p141 := eq_true p141
                              replace q141 := eq_true q141
                              refine start_ (n := 7) (S := fun w' => w'.cell? ⟨gb130, 0, none⟩ = some (.slice A0_0 l0_0.length c0_0) ∧ w'.cell? ⟨gb130, 1, none⟩ = some (.slice A0_1 l0_1.length c0_1) ∧ w'.cell? (ad141.add ((x6_4).toNat * 2)) = some (.int .i64 ((rd_T33 x4_3 x6_4).f0)) ∧ w'.cell? ⟨(ad141.add ((x6_4).toNat * 2)).block, (ad141.add ((x6_4).toNat * 2)).off + 1, none⟩ = some (.int .i64 ((rd_T33 x4_3 x6_4).f1))) (ds := []) #[false, false, false, false, false, false, false] (by kernel_rfl) rfl rfl ⟨(blk_cell BK130.out 0).trans rfl, (blk_cell BK130.out 1).trans rfl, hx141_0, hx141_1⟩ (fun hHeld => ?_)
                              generalize wr.drew = w44 at HO_4 BK130 HB hx141_0 hx141_1 hHeld ⊢
                              refine pure_ (i := 1) (N := some 75) (v := ?_) (a' := ?_) #[false, true, false, false, false, false, false] rfl rfl (by kernel_rfl) (fun _ _ _ h => h) (Or.inl ⟨by rfl, ?_⟩) ?_ ?_
                              rotate_left
                              · intro w'
                                go_simp
                                with_reducible rfl
                              rotate_left
                              · simp only [Act.put, List.setIfInBounds_toArray, List.set_cons_zero, List.set_cons_succ, i64_w, i32_w]
                                rfl
                              refine pure_ (i := 2) (N := some 76) (v := ?_) (a' := ?_) #[false, true, true, false, false, false, false] rfl rfl (by kernel_rfl) (fun _ _ _ h => h) (Or.inl ⟨by rfl, ?_⟩) ?_ ?_
                              rotate_left
                              · intro w'
                                go_simp
                                with_reducible rfl
                              rotate_left
                              · simp only [Act.put, List.setIfInBounds_toArray, List.set_cons_zero, List.set_cons_succ, i64_w, i32_w]
                                rfl
                              refine pure_ (i := 3) (N := some 77) (v := ?_) (a' := ?_) #[false, true, true, true, false, false, false] rfl rfl (by kernel_rfl) (fun _ _ _ h => h) (Or.inl ⟨by rfl, ?_⟩) ?_ ?_
                              rotate_left
                              · intro w'
                                go_simp
                                with_reducible rfl
                              rotate_left
                              · simp only [Act.put, List.setIfInBounds_toArray, List.set_cons_zero, List.set_cons_succ, i64_w, i32_w]
                                rfl
                              refine take_ (i := 0) (N := some 74) (v := ?_) (a' := ?_) #[true, true, true, true, false, false, false] rfl rfl (by kernel_rfl) (fun _ _ _ h => h) (Or.inl ⟨by rfl, ?_⟩) hHeld ?_ ?_
                              rotate_left
                              · rintro w' ⟨s0, s1, s2, s3⟩
                                go_simp
                                with_reducible rfl
                              rotate_left
                              · simp only [Act.put, List.setIfInBounds_toArray, List.set_cons_zero, List.set_cons_succ, i64_w, i32_w]
                                rfl
                              refine take_ (i := 4) (N := some 78) (v := ?_) (a' := ?_) #[true, true, true, true, true, false, false] rfl rfl (by kernel_rfl) (fun _ _ _ h => h) (Or.inl ⟨by rfl, ?_⟩) hHeld ?_ ?_
                              rotate_left
                              · rintro w' ⟨s0, s1, s2, s3⟩
                                go_simp
                                with_reducible rfl
                              rotate_left
                              · simp only [Act.put, List.setIfInBounds_toArray, List.set_cons_zero, List.set_cons_succ, i64_w, i32_w]
                                rfl
                              refine one_ (i := 5) (N := some 79) #[true, true, true, true, true, true, false] rfl rfl (by kernel_rfl) (by decide) (fun K hK => ?_)
                              refine goes_ Try.func43 (by kernel_rfl) rfl #[.agg #[.slice A0_0 l0_0.length c0_0, .slice A0_1 l0_1.length c0_1], .agg #[.int .i64 ((rd_T33 x4_3 x6_4).f0), .int .i64 ((rd_T33 x4_3 x6_4).f1)]] (by rfl) rfl rfl (by (try simp only [List.map_toArray, List.map_cons, List.map_nil]); first | done | rfl | (simp only [List.length_drop, List.length_take]; rfl)) ?_
                              with_reducible refine (waystoneref08_Has.calls _ _ l0_0 _ _ l0_1 ((rd_T33 x4_3 x6_4).f0) ((rd_T33 x4_3 x6_4).f1) false _ ?side1 ?side2 ?side3 ?side4 A30.out).mono ?_
                              (case side1 => repeat (first | exact (Kd.C_below HR0_0.out HB.out) | (with_reducible refine Kd.C_alloc ?_ _) | (with_reducible refine Kd.C_drewN ?_ _) | (with_reducible refine Kd.C_drew ?_)))
                              (case side2 => exact HC0_0.out)
                              (case side3 => repeat (first | exact (Kd.C_below HR0_1.out HB.out) | (with_reducible refine Kd.C_alloc ?_ _) | (with_reducible refine Kd.C_drewN ?_ _) | (with_reducible refine Kd.C_drew ?_)))
                              (case side4 => exact HC0_1.out)
                              rintro e w45 ⟨rfl, hb⟩
                              have HS2_ := (hb.cell (World.block_lt_of_cell? _ _ (hHeld.2.2.1))).trans (hHeld.2.2.1)
                              have HS3_ := (hb.cell (World.block_lt_of_cell? _ _ (hHeld.2.2.2))).trans (hHeld.2.2.2)
                              refine ⟨_, rfl, ?_⟩
                              have n0_ := Aside0.mk (Kd.R_below (by (with_reducible repeat (first | apply Kd.R_alloc | apply Kd.R_drewN | apply Kd.R_drew)); exact HO_4.out) hb)
                              have n1_ := Aside0.mk (blk_below (g := gb130) (o := .cells #[.slice A0_0 l0_0.length c0_0, .slice A0_1 l0_1.length c0_1] 25 (0, 0)) (by (with_reducible repeat (first | refine blk_drewN ?_ _ | refine blk_drew ?_ | refine blk_alloc ?_ _)); exact BK130.out) hb)
                              have n2_ := Aside0.mk (below_step (by repeat (first | (with_reducible first | exact HB.out | apply below_alloc | apply pw_below_drewN | apply below_drew1 | refine below_set ?_ GE130.out) | exact HB.out)) hb)
                              clear HO_4
                              clear BK130
                              clear HB
                              have HO_4 := n0_
                              have BK130 := n1_
                              have HB := n2_
                              clear n0_ n1_ n2_
                              (try clear hb)
                              (try clear hb2)
                              (try clear hk)
                              (try clear hi)
                              refine hK.out _ _ ⟨(blk_cell BK130.out 0).trans rfl, (blk_cell BK130.out 1).trans rfl, HS2_, HS3_⟩ (fun hHeld => ?_)
                              clear hK K
                              refine norm_ (a' := ?_) ?_ ?_
                              rotate_left
                              · show Act.put _ (some 79) _ = _
                                simp only [Act.put, List.setIfInBounds_toArray, List.set_cons_zero, List.set_cons_succ, i64_w, i32_w]
                                rfl
                              refine pure_ (i := 6) (N := some 7) (v := ?_) (a' := ?_) #[true, true, true, true, true, true, true] rfl rfl (by kernel_rfl) (fun _ _ _ h => h) (Or.inl ⟨by rfl, ?_⟩) ?_ ?_
                              rotate_left
                              · intro w'
                                go_simp
                                with_reducible rfl
                              rotate_left
                              · simp only [Act.put, List.setIfInBounds_toArray, List.set_cons_zero, List.set_cons_succ, i64_w, i32_w]
                                rfl
                              refine done_ (by kernel_rfl) ?_
                              try go_wp2
                              go_ret
                              exact ⟨by first | rfl | (simp [errW_none, errW_some] <;> rfl) | (simp [*, errW_none, errW_some] <;> rfl), by repeat (first | (with_reducible first | exact HB.out | apply below_alloc | apply pw_below_drewN | apply below_drew1 | refine below_set ?_ GE130.out) | exact HB.out)⟩
                          · rw [if_neg c29] at H
                            exact absurd H (by simp)
                        · rw [if_neg c28] at H
                          have c28b0 : decide (x6_4 < (x4_3.length : Int)) = false := decide_eq_false c28
                          clear c28
                          obtain rfl := Option.some.inj H
                          obtain ⟨Ao46, co46, eo46⟩ := Kd.R_slice HO_4.out
                          subst eo46
                          go_wp2
                          go_ret
                          exact ⟨by first | rfl | (simp [errW_none, errW_some] <;> rfl) | (simp [*, errW_none, errW_some] <;> rfl), by repeat (first | (with_reducible first | exact HB.out | apply below_alloc | apply pw_below_drewN | apply below_drew1 | refine below_set ?_ GE130.out) | exact HB.out)⟩
end Go.Proofs.Ytkjighagiecbaaa.R
