-- By myprint.py (a session's own program over the kit's print.py; some functions' texts are by hand). Lean checks it.
import Derived.Test.YtbiccahkniadfaaPx0
namespace Go.Proofs.Ytbiccahkniadfaa.P
open Go.RowKit Go.Proofs.YtbiccahkniadfaaW.PrintWords Go.Proofs.YtbiccahkniadfaaW.PrintLast Go.Proofs.YtbiccahkniadfaaW.PrintMore
attribute [local go_sem] max2_int min2_int max_two min_two max_three min_three max_four min_four   -- for this text's walks alone
set_option linter.unusedVariables false
set_option linter.unusedSimpArgs false

-- NOT PRINTED: function 9 (tree_New_int)

-- NOT PRINTED: function 27 (tree_Tree_int_top)

-- NOT PRINTED: function 12 (tree_Tree_int_Get)

-- NOT PRINTED: function 30 (tree_node_int_size)

-- NOT PRINTED: function 14 (tree_Tree_int_Len)

-- NOT PRINTED: function 31 (tree_node_int_high)

-- NOT PRINTED: function 38 (tree_made_int)

-- NOT PRINTED: function 39 (tree_even_int)

-- NOT PRINTED: function 28 (tree_node_int_with)

-- NOT PRINTED: function 10 (tree_Tree_int_Put)

-- NOT PRINTED: function 40 (tree_node_int_least)

-- NOT PRINTED: function 29 (tree_node_int_without)

-- NOT PRINTED: function 11 (tree_Tree_int_Drop)

-- NOT PRINTED: function 15 (tree_Tree_int_Height)

-- NOT PRINTED: function 21 (tree_Tree_int_At)

-- NOT PRINTED: function 35 (tree_Tree_int_below)

-- NOT PRINTED: function 19 (tree_Tree_int_Floor)

-- NOT PRINTED: function 20 (tree_Tree_int_Ceil)

-- NOT PRINTED: function 13 (waystonelaw04_alive)

/-! ### waystoneref04_High: function 16 -/
def waystoneref04_High.l0 : Nat → Int → Int → Option (Int)
  | 0, _, _ => none
  | k + 1, x3, x4 => if x4 > 0 then (waystoneref04_High.l0 k (wrap64 (x3 + 1)) (wrap64 (Int.tdiv x4 2))) else (some (wrap64 ((wrap64 (Int.tdiv (wrap64 (3 * x3)) 2)) + 1)))
def waystoneref04_High.f (k : Nat) (a0 : Int) : Option (Int) := waystoneref04_High.l0 k 0 (wrap64 (a0 + 1))
theorem waystoneref04_High.mono_l : ∀ k, (∀ y0 y1, LeO (waystoneref04_High.l0 k y0 y1) (waystoneref04_High.l0 (k + 1) y0 y1))
  | 0 => fun _ _ r h => by simp [waystoneref04_High.l0] at h
  | k + 1 => by
    have ih0 := waystoneref04_High.mono_l k
    · intro y0 y1
      unfold waystoneref04_High.l0
      repeat' first
      | (with_reducible exact ih0 _ _)
      | (with_reducible exact LeO.refl _)
      | (with_reducible exact LeO.none _)
      | (with_reducible refine LeO.ite ?_ ?_)
      | (with_reducible refine LeO.bind ?_ (fun _ => ?_))
      | exact ih0 _ _
      | exact LeO.none _
      | refine LeO.ite ?_ ?_
      | refine LeO.bind ?_ (fun _ => ?_)
theorem waystoneref04_High.mono : ∀ a0 k, LeO (waystoneref04_High.f k a0) (waystoneref04_High.f (k + 1) a0) := by
  intro a0 k
  have ih0 := waystoneref04_High.mono_l k
  unfold waystoneref04_High.f
  repeat' first
      | (with_reducible exact ih0 _ _)
      | (with_reducible exact LeO.refl _)
      | (with_reducible exact LeO.none _)
      | (with_reducible refine LeO.ite ?_ ?_)
      | (with_reducible refine LeO.bind ?_ (fun _ => ?_))
      | exact ih0 _ _
      | exact LeO.none _
      | refine LeO.ite ?_ ?_
      | refine LeO.bind ?_ (fun _ => ?_)
set_option maxHeartbeats 8000000 in
set_option maxRecDepth 100000 in
theorem waystoneref04_High.calls (k : Nat) (a0 : Int) (r : Int) (w : World) (h : waystoneref04_High.f k a0 = some r) :
    Calls Try.prog 16 #[.int .i64 a0] w fun e w' => e = .returned (.int .i64 r) ∧ Drawn0 w w' := by
  have H : (waystoneref04_High.l0 k 0 (wrap64 (a0 + 1))) = some r := h
  clear h
  have H' := Aside0.mk H
  clear H
  go_enter Try.func16, Try.ntmps16
  go_wp2
  go_loopg [3, 4] k (fun kq v3 v4 w' => ∃ (x3_1 : Int) (x4_1 : Int), v3 = .int .i64 x3_1 ∧ v4 = .int .i64 x4_1 ∧ Aside0 (waystoneref04_High.l0 kq x3_1 x4_1 = some r) ∧ Aside0 (kq ≤ k) ∧ Drawn0 w w')
  case atStart => exact ⟨(0), (wrap64 (a0 + 1)), (by first | rfl | (simp; done) | (simp [*]; done)), (by first | rfl | (simp; done) | (simp [*]; done)), H', ⟨Nat.le_refl _⟩, by repeat (first | exact Drawn0.refl _ | apply Drawn0.step)⟩
  case round =>
    clear H'
    try clear c1
    obtain ⟨x3_1, x4_1, rfl, rfl, HA, HK1, ⟨m1, rfl⟩⟩ := hrel
    cases gk with
    | zero => exact absurd HA.out (by simp [waystoneref04_High.l0])
    | succ k1 =>
      have H := HA.out
      clear HA
      simp only [waystoneref04_High.l0] at H
      by_cases c2 : x4_1 > 0
      · rw [if_pos c2] at H
        have c2b0 : decide (0 < x4_1) = true := decide_eq_true c2
        clear c2
        have H' := Aside0.mk H
        clear H
        go_wp2
        go_roundg k1
        case measure => have := HK1.out; omega
        case rel => exact ⟨(wrap64 (x3_1 + 1)), (wrap64 (Int.tdiv x4_1 2)), (by first | rfl | (simp; done) | (simp [*]; done)), (by first | rfl | (simp; done) | (simp [*]; done)), H', ⟨by have := HK1.out; omega⟩, by repeat (first | exact Drawn0.refl _ | apply Drawn0.step)⟩
      · rw [if_neg c2] at H
        have c2b0 : decide (0 < x4_1) = false := decide_eq_false c2
        clear c2
        obtain rfl := Option.some.inj H
        go_wp2
        go_ret
        exact ⟨by first | rfl | (simp; done) | (simp [*]; done), by repeat (first | exact Drawn0.refl _ | apply Drawn0.step)⟩

-- NOT PRINTED: function 3 (waystonelaw04_TreeFull)

/-! ### waystoneref04_find: function 34 -/
def waystoneref04_find.l0 : Nat → List (S50) → Int → Int → Option (Int × Bool)
  | 0, _, _, _ => none
  | k + 1, x0, x1, x6 => if x6 < (x0.length : Int) then (if 0 ≤ x6 then (if ((rd_T50 x0 x6).f0) < x1 then (waystoneref04_find.l0 k x0 x1 (wrap64 (x6 + 1))) else (some (x6, (((rd_T50 x0 x6).f0) == x1)))) else (none)) else (some (x6, false))
def waystoneref04_find.f (k : Nat) (l0 : List (S50)) (a1 : Int) : Option (Int × Bool) := waystoneref04_find.l0 k l0 a1 0
theorem waystoneref04_find.mono_l : ∀ k, (∀ y0 y1 y2, LeO (waystoneref04_find.l0 k y0 y1 y2) (waystoneref04_find.l0 (k + 1) y0 y1 y2))
  | 0 => fun _ _ _ r h => by simp [waystoneref04_find.l0] at h
  | k + 1 => by
    have ih0 := waystoneref04_find.mono_l k
    · intro y0 y1 y2
      unfold waystoneref04_find.l0
      repeat' first
      | (with_reducible exact ih0 _ _ _)
      | (with_reducible exact LeO.refl _)
      | (with_reducible exact LeO.none _)
      | (with_reducible refine LeO.ite ?_ ?_)
      | (with_reducible refine LeO.bind ?_ (fun _ => ?_))
      | exact ih0 _ _ _
      | exact LeO.none _
      | refine LeO.ite ?_ ?_
      | refine LeO.bind ?_ (fun _ => ?_)
theorem waystoneref04_find.mono : ∀ a0 a1 k, LeO (waystoneref04_find.f k a0 a1) (waystoneref04_find.f (k + 1) a0 a1) := by
  intro a0 a1 k
  have ih0 := waystoneref04_find.mono_l k
  unfold waystoneref04_find.f
  repeat' first
      | (with_reducible exact ih0 _ _ _)
      | (with_reducible exact LeO.refl _)
      | (with_reducible exact LeO.none _)
      | (with_reducible refine LeO.ite ?_ ?_)
      | (with_reducible refine LeO.bind ?_ (fun _ => ?_))
      | exact ih0 _ _ _
      | exact LeO.none _
      | refine LeO.ite ?_ ?_
      | refine LeO.bind ?_ (fun _ => ?_)
set_option maxHeartbeats 8000000 in
set_option maxRecDepth 100000 in
theorem waystoneref04_find.calls (k : Nat) (A0 : Option Addr) (c0 : Nat) (l0 : List (S50)) (a1 : Int) (r1 : Int) (r2 : Bool) (w : World) (hr0 : Kd.C k50 w A0 l0.length l0) (hc0 : l0.length ≤ c0) (h : waystoneref04_find.f k l0 a1 = some (r1, r2)) :
    Calls Try.prog 34 #[.slice A0 l0.length c0, .int .u64 a1] w fun e w' => e = .returned (.tuple #[.int .i64 r1, .bool r2]) ∧ Drawn0 w w' := by
  have HR0 := Aside0.mk hr0
  have HC0 := Aside0.mk hc0
  clear hr0 hc0
  have H : (waystoneref04_find.l0 k l0 a1 0) = some (r1, r2) := h
  clear h
  have H' := Aside0.mk H
  clear H
  go_enter Try.func34, Try.ntmps34
  go_wp2
  repeat (go_quiet (fail); try go_wp2)
  go_loopg [6] k (fun kq v6 w' => ∃ (x6_1 : Int), v6 = .int .i64 x6_1 ∧ Aside0 (waystoneref04_find.l0 kq l0 a1 x6_1 = some (r1, r2)) ∧ Aside0 (kq ≤ k) ∧ Drawn0 w w')
  case atStart => exact ⟨(0), (by first | rfl | (simp; done) | (simp [*]; done)), H', ⟨Nat.le_refl _⟩, by repeat (first | exact Drawn0.refl _ | apply Drawn0.step)⟩
  case round =>
    clear H'
    try clear p2
    obtain ⟨x6_1, rfl, HA, HK1, ⟨m1, rfl⟩⟩ := hrel
    cases gk with
    | zero => exact absurd HA.out (by simp [waystoneref04_find.l0])
    | succ k1 =>
      have H := HA.out
      clear HA
      simp only [waystoneref04_find.l0] at H
      by_cases c3 : x6_1 < (l0.length : Int)
      · rw [if_pos c3] at H
        have c3b0 : decide (x6_1 < (l0.length : Int)) = true := decide_eq_true c3
        clear c3
        by_cases c4 : 0 ≤ x6_1
        · rw [if_pos c4] at H
          have c4b0 : decide (0 ≤ x6_1) = true := decide_eq_true c4
          clear c4
          by_cases c5 : ((rd_T50 l0 x6_1).f0) < a1
          · rw [if_pos c5] at H
            have c5b0 : decide (((rd_T50 l0 x6_1).f0) < a1) = true := decide_eq_true c5
            clear c5
            have H' := Aside0.mk H
            clear H
            have p101 : 0 ≤ (x6_1 : Int) := of_decide_eq_true (by first | (with_reducible assumption) | assumption)
            have q101 : x6_1 < (l0.length : Int) := of_decide_eq_true (by first | (with_reducible assumption) | assumption)
            obtain ⟨ad101, e101, hx101_0, hx101_1⟩ := at_T50 HR0.out x6_1 p101 q101
            cases e101
            replace p101 := eq_true p101
            replace q101 := eq_true q101
            go_wp2
            repeat (go_quiet (fail); try go_wp2)
            go_roundg k1
            case measure => have := HK1.out; omega
            case rel => exact ⟨(wrap64 (x6_1 + 1)), (by first | rfl | (simp; done) | (simp [*]; done)), H', ⟨by have := HK1.out; omega⟩, by repeat (first | exact Drawn0.refl _ | apply Drawn0.step)⟩
          · rw [if_neg c5] at H
            have c5b0 : decide (((rd_T50 l0 x6_1).f0) < a1) = false := decide_eq_false c5
            clear c5
            simp only [Option.some.injEq, Prod.mk.injEq] at H
            obtain ⟨rfl, rfl⟩ := H
            have p101 : 0 ≤ (x6_1 : Int) := of_decide_eq_true (by first | (with_reducible assumption) | assumption)
            have q101 : x6_1 < (l0.length : Int) := of_decide_eq_true (by first | (with_reducible assumption) | assumption)
            obtain ⟨ad101, e101, hx101_0, hx101_1⟩ := at_T50 HR0.out x6_1 p101 q101
            cases e101
            replace p101 := eq_true p101
            replace q101 := eq_true q101
            have p102 : 0 ≤ (x6_1 : Int) := of_decide_eq_true (by first | (with_reducible assumption) | assumption)
            have q102 : x6_1 < (l0.length : Int) := of_decide_eq_true (by first | (with_reducible assumption) | assumption)
            obtain ⟨ad102, e102, hx102_0, hx102_1⟩ := at_T50 HR0.out x6_1 p102 q102
            obtain rfl : ad101 = ad102 := (by injection e102)
            replace p102 := eq_true p102
            replace q102 := eq_true q102
            go_wp2
            repeat (go_quiet (fail); try go_wp2)
            go_ret2
            exact ⟨by first | rfl | (simp; done) | (simp [*]; done), by repeat (first | exact Drawn0.refl _ | apply Drawn0.step)⟩
        · rw [if_neg c4] at H
          exact absurd H (by simp)
      · rw [if_neg c3] at H
        have c3b0 : decide (x6_1 < (l0.length : Int)) = false := decide_eq_false c3
        clear c3
        simp only [Option.some.injEq, Prod.mk.injEq] at H
        obtain ⟨rfl, rfl⟩ := H
        go_wp2
        repeat (go_quiet (fail); try go_wp2)
        go_ret2
        exact ⟨by first | rfl | (simp; done) | (simp [*]; done), by repeat (first | exact Drawn0.refl _ | apply Drawn0.step)⟩

/-! ### waystoneref04_Ceil: function 23 -/
def waystoneref04_Ceil.f (k : Nat) (l0 : List (S50)) (a1 : Int) : Option (Int) := (waystoneref04_find.f k l0 a1).bind fun bt103 => (if bt103.1 = (l0.length : Int) then (some (-1)) else (some bt103.1))
theorem waystoneref04_Ceil.mono : ∀ a0 a1 k, LeO (waystoneref04_Ceil.f k a0 a1) (waystoneref04_Ceil.f (k + 1) a0 a1) := by
  intro a0 a1 k
  unfold waystoneref04_Ceil.f
  repeat' first
      | (with_reducible exact waystoneref04_find.mono _ _ _)
      | (with_reducible exact LeO.refl _)
      | (with_reducible exact LeO.none _)
      | (with_reducible refine LeO.ite ?_ ?_)
      | (with_reducible refine LeO.bind ?_ (fun _ => ?_))
      | exact waystoneref04_find.mono _ _ _
      | exact LeO.none _
      | refine LeO.ite ?_ ?_
      | refine LeO.bind ?_ (fun _ => ?_)
set_option maxHeartbeats 8000000 in
set_option maxRecDepth 100000 in
theorem waystoneref04_Ceil.calls (k : Nat) (A0 : Option Addr) (c0 : Nat) (l0 : List (S50)) (a1 : Int) (r : Int) (w : World) (hr0 : Kd.C k50 w A0 l0.length l0) (hc0 : l0.length ≤ c0) (h : waystoneref04_Ceil.f k l0 a1 = some r) :
    Calls Try.prog 23 #[.slice A0 l0.length c0, .int .u64 a1] w fun e w' => e = .returned (.int .i64 r) ∧ Drawn0 w w' := by
  have HR0 := Aside0.mk hr0
  have HC0 := Aside0.mk hc0
  clear hr0 hc0
  have H : ((waystoneref04_find.f k l0 a1).bind fun bt103 => (if bt103.1 = (l0.length : Int) then (some (-1)) else (some bt103.1))) = some r := h
  clear h
  replace H := Option.bind_eq_some_iff.mp H
  obtain ⟨⟨t103, t104⟩, A30, H⟩ := H
  replace H : (if t103 = (l0.length : Int) then (some (-1)) else (some t103)) = some r := H
  have A3 := Aside0.mk A30
  clear A30
  by_cases c4 : t103 = (l0.length : Int)
  · rw [if_pos c4] at H
    have c4b0 : (t103 == (l0.length : Int)) = true := beq_iff_eq.mpr c4
    have c4b1 : (t103 != (l0.length : Int)) = false := bne_eq_false_iff_eq.mpr c4
    clear c4
    obtain rfl := Option.some.inj H
    go_enter Try.func23, Try.ntmps23
    go_wp2_with (first | ((with_reducible refine gate_callee (f := 34) rfl ?_); refine goesL_ (some 10) rfl rfl Try.func34 (by kernel_rfl) rfl #[.slice A0 l0.length c0, .int .u64 a1] rfl (by (try simp only [List.map_toArray, List.map_cons, List.map_nil]); first | done | rfl | (simp only [List.length_drop, List.length_take]; rfl)) ?_; (with_reducible refine (waystoneref04_find.calls k _ _ l0 a1 t103 t104 _ ?side1 ?side2 A3.out).mono ?_); (case side1 => repeat (first | exact HR0.out | (with_reducible refine Kd.C_alloc ?_ _) | (with_reducible refine Kd.C_drewN ?_ _) | (with_reducible refine Kd.C_drew ?_))); (case side2 => exact HC0.out); rintro e w' ⟨rfl, ⟨nd, rfl⟩⟩; refine ⟨_, rfl, ?_⟩))
    go_ret
    exact ⟨by first | rfl | (simp; done) | (simp [*]; done), by repeat (first | exact Drawn0.refl _ | apply Drawn0.step)⟩
  · rw [if_neg c4] at H
    have c4b0 : (t103 == (l0.length : Int)) = false := beq_eq_false_iff_ne.mpr c4
    have c4b1 : (t103 != (l0.length : Int)) = true := bne_iff_ne.mpr c4
    obtain rfl := Option.some.inj H
    go_enter Try.func23, Try.ntmps23
    go_wp2_with (first | ((with_reducible refine gate_callee (f := 34) rfl ?_); refine goesL_ (some 10) rfl rfl Try.func34 (by kernel_rfl) rfl #[.slice A0 l0.length c0, .int .u64 a1] rfl (by (try simp only [List.map_toArray, List.map_cons, List.map_nil]); first | done | rfl | (simp only [List.length_drop, List.length_take]; rfl)) ?_; (with_reducible refine (waystoneref04_find.calls k _ _ l0 a1 t103 t104 _ ?side1 ?side2 A3.out).mono ?_); (case side1 => repeat (first | exact HR0.out | (with_reducible refine Kd.C_alloc ?_ _) | (with_reducible refine Kd.C_drewN ?_ _) | (with_reducible refine Kd.C_drew ?_))); (case side2 => exact HC0.out); rintro e w' ⟨rfl, ⟨nd, rfl⟩⟩; refine ⟨_, rfl, ?_⟩))
    go_ret
    exact ⟨by first | rfl | (simp; done) | (simp [*]; done), by repeat (first | exact Drawn0.refl _ | apply Drawn0.step)⟩

-- NOT PRINTED: function 42 (tree_join_int)

-- NOT PRINTED: function 36 (tree_node_int_cut)

-- NOT PRINTED: function 25 (tree_Tree_int_Split)

/-! ### waystoneref04_Put: function 41 -/
def waystoneref04_Put.j0 : Nat → List (S50) → Int → Int → Int → Bool → Bool → Option ((List (S50)) × Int)
  | 0, _, _, _, _, _, _ => none
  | k + 1, x0, x1, x2, x8, x9, x23 => if x23 = true then (some (([] : List (S50)), 41)) else ((some (([] : List (S50)) : List (S50))).bind fun y107 => (if 0 ≤ x8 then (if x8 ≤ (x0.length : Int) then ((some (x0.take (x8 : Int).toNat : List (S50))).bind fun y110 => (if y107.length + y110.length < 8796093022208 then ((some (y107 ++ y110 : List (S50))).bind fun y114 => (if y114.length < 8796093022208 then ((some (y114 ++ [(⟨x1, x2⟩ : S50)] : List (S50))).bind fun y117 => (if x9 = true then (if 0 ≤ (wrap64 (x8 + 1)) then (if (wrap64 (x8 + 1)) ≤ (x0.length : Int) then ((some (x0.drop ((wrap64 (x8 + 1)) : Int).toNat : List (S50))).bind fun y120 => (if y117.length + y120.length < 8796093022208 then (some ((y117 ++ y120), 0)) else (none))) else (none)) else (none)) else ((some (x0.drop (x8 : Int).toNat : List (S50))).bind fun y127 => (if y117.length + y127.length < 8796093022208 then (some ((y117 ++ y127), 0)) else (none))))) else (none))) else (none))) else (none)) else (none)))
def waystoneref04_Put.f (k : Nat) (l0 : List (S50)) (a1 : Int) (a2 : Int) : Option ((List (S50)) × Int) := (waystoneref04_find.f k l0 a1).bind fun bt105 => (if bt105.2 = true then (waystoneref04_Put.j0 k l0 a1 a2 bt105.1 bt105.2 false) else (waystoneref04_Put.j0 k l0 a1 a2 bt105.1 bt105.2 (decide ((l0.length : Int) ≥ 1024))))
theorem waystoneref04_Put.mono_l : ∀ k, (∀ y0 y1 y2 y3 y4 y5, LeO (waystoneref04_Put.j0 k y0 y1 y2 y3 y4 y5) (waystoneref04_Put.j0 (k + 1) y0 y1 y2 y3 y4 y5))
  | 0 => fun _ _ _ _ _ _ r h => by simp [waystoneref04_Put.j0] at h
  | k + 1 => by
    have ih0 := waystoneref04_Put.mono_l k
    · intro y0 y1 y2 y3 y4 y5
      unfold waystoneref04_Put.j0
      repeat' first
      | (with_reducible exact ih0 _ _ _ _ _ _)
      | (with_reducible exact waystoneref04_find.mono _ _ _)
      | (with_reducible exact LeO.refl _)
      | (with_reducible exact LeO.none _)
      | (with_reducible refine LeO.ite ?_ ?_)
      | (with_reducible refine LeO.bind ?_ (fun _ => ?_))
      | exact ih0 _ _ _ _ _ _
      | exact waystoneref04_find.mono _ _ _
      | exact LeO.none _
      | refine LeO.ite ?_ ?_
      | refine LeO.bind ?_ (fun _ => ?_)
theorem waystoneref04_Put.mono : ∀ a0 a1 a2 k, LeO (waystoneref04_Put.f k a0 a1 a2) (waystoneref04_Put.f (k + 1) a0 a1 a2) := by
  intro a0 a1 a2 k
  have ih0 := waystoneref04_Put.mono_l k
  unfold waystoneref04_Put.f
  repeat' first
      | (with_reducible exact ih0 _ _ _ _ _ _)
      | (with_reducible exact waystoneref04_find.mono _ _ _)
      | (with_reducible exact LeO.refl _)
      | (with_reducible exact LeO.none _)
      | (with_reducible refine LeO.ite ?_ ?_)
      | (with_reducible refine LeO.bind ?_ (fun _ => ?_))
      | exact ih0 _ _ _ _ _ _
      | exact waystoneref04_find.mono _ _ _
      | exact LeO.none _
      | refine LeO.ite ?_ ?_
      | refine LeO.bind ?_ (fun _ => ?_)
set_option maxHeartbeats 8000000 in
set_option maxRecDepth 100000 in
theorem waystoneref04_Put.calls (k : Nat) (A0 : Option Addr) (c0 : Nat) (l0 : List (S50)) (a1 : Int) (a2 : Int) (r1 : List (S50)) (r2 : Int) (w : World) (hr0 : Kd.C k50 w A0 l0.length l0) (hc0 : l0.length ≤ c0) (h : waystoneref04_Put.f k l0 a1 a2 = some (r1, r2)) :
    Calls Try.prog 41 #[.slice A0 l0.length c0, .int .u64 a1, .int .i64 a2] w fun e w' => ∃ v0_ : Value, e = .returned (.tuple #[v0_, .int .i64 r2]) ∧ Kd.R k50 50 w' w.heap.size (fun _ => True) v0_ r1 ∧ Below w.heap.size w w' := by
  have hu50 := Try.underlying50
  have HR0 := Aside0.mk hr0
  have HC0 := Aside0.mk hc0
  clear hr0 hc0
  have HB := Aside0.mk (Below.refl w.heap.size w)
  have H : ((waystoneref04_find.f k l0 a1).bind fun bt105 => (if bt105.2 = true then (waystoneref04_Put.j0 k l0 a1 a2 bt105.1 bt105.2 false) else (waystoneref04_Put.j0 k l0 a1 a2 bt105.1 bt105.2 (decide ((l0.length : Int) ≥ 1024))))) = some (r1, r2) := h
  clear h
  replace H := Option.bind_eq_some_iff.mp H
  obtain ⟨⟨t105, t106⟩, A40, H⟩ := H
  replace H : (if t106 = true then (waystoneref04_Put.j0 k l0 a1 a2 t105 t106 false) else (waystoneref04_Put.j0 k l0 a1 a2 t105 t106 (decide ((l0.length : Int) ≥ 1024)))) = some (r1, r2) := H
  have A4 := Aside0.mk A40
  clear A40
  have HC5 := Aside0.mk H
  clear H
  go_enter Try.func41, Try.ntmps41
  go_upto_region 2 with (first | ((with_reducible refine gate_callee (f := 34) rfl ?_); refine goesL_ (some 14) rfl rfl Try.func34 (by kernel_rfl) rfl #[.slice A0 l0.length c0, .int .u64 a1] rfl (by (try simp only [List.map_toArray, List.map_cons, List.map_nil]); first | done | rfl | (simp only [List.length_drop, List.length_take]; rfl)) ?_; (with_reducible refine (waystoneref04_find.calls k _ _ l0 a1 t105 t106 _ ?side1 ?side2 A4.out).mono ?_); (case side1 => repeat (first | exact HR0.out | (with_reducible refine Kd.C_alloc ?_ _) | (with_reducible refine Kd.C_drewN ?_ _) | (with_reducible refine Kd.C_drew ?_))); (case side2 => exact HC0.out); rintro e w' ⟨rfl, ⟨nd, rfl⟩⟩; refine ⟨_, rfl, ?_⟩))
  (try simp only [Act.put, List.setIfInBounds_toArray, List.set_cons_zero, List.set_cons_succ])
  go_cut [23] (fun v23 wc => ∃ (kq : Nat) (x23_4 : Bool), v23 = .bool x23_4 ∧ Aside0 (waystoneref04_Put.j0 kq l0 a1 a2 t105 t106 x23_4 = some (r1, r2)) ∧ Aside0 (kq ≤ k) ∧ Aside0 (Below w.heap.size w wc))
  case first =>
    have H := HC5.out
    clear HC5
    by_cases c6 : t106 = true
    · subst c6
      have H1 : (waystoneref04_Put.j0 k l0 a1 a2 t105 true false) = some (r1, r2) := by rw [if_pos rfl] at H; exact H
      clear H
      have H := H1
      clear H1
      have H' := Aside0.mk H
      clear H
      go_wp2
      go_meet
      case rel => exact ⟨_, (false), (by first | rfl | (simp; done) | (simp [*]; done)), H', ⟨by first | omega | exact Nat.le_refl _⟩, ⟨by repeat (first | (with_reducible first | exact HB.out | apply below_alloc | apply pw_below_drewN | apply below_drew1) | exact HB.out)⟩⟩
    · replace c6 := Bool.eq_false_iff.mpr c6
      subst c6
      have H1 : (waystoneref04_Put.j0 k l0 a1 a2 t105 false (decide ((l0.length : Int) ≥ 1024))) = some (r1, r2) := by rw [if_neg (show ¬ (false = true) by decide)] at H; exact H
      clear H
      have H := H1
      clear H1
      have H' := Aside0.mk H
      clear H
      go_wp2
      go_meet
      case rel => exact ⟨_, (decide ((l0.length : Int) ≥ 1024)), (by first | rfl | (simp; done) | (simp [*]; done)), H', ⟨by first | omega | exact Nat.le_refl _⟩, ⟨by repeat (first | (with_reducible first | exact HB.out | apply below_alloc | apply pw_below_drewN | apply below_drew1) | exact HB.out)⟩⟩
  case rest =>
    clear HC5
    try clear p2
    try clear c3
    try clear c4
    try clear c6
    obtain ⟨kq, x23_4, rfl, HA, HJ4, HB⟩ := hcut
    cases kq with
    | zero => exact absurd HA.out (by simp [waystoneref04_Put.j0])
    | succ kj4 =>
      have H := HA.out
      clear HA
      simp only [waystoneref04_Put.j0] at H
      by_cases c7 : x23_4 = true
      · subst c7
        have H1 : (some (([] : List (S50)), 41)) = some (r1, r2) := by rw [if_pos rfl] at H; exact H
        clear H
        have H := H1
        clear H1
        simp only [Option.some.injEq, Prod.mk.injEq] at H
        obtain ⟨rfl, rfl⟩ := H
        go_wp2
        go_ret2
        exact ⟨_, by first | rfl | (simp [errW_none, errW_some] <;> rfl) | (simp [*, errW_none, errW_some] <;> rfl), by first | exact Kd.R_nil _ _ _ _ _ | exact Kd.N_nil _ _ _ _ _ | exact Kd.V_nil _ _ _ _ _ | exact Kd.Q_nil _ _ _ _ _ | exact Kd.S_nil _ _ _ _ _, by repeat (first | (with_reducible first | exact HB.out | apply below_alloc | apply pw_below_drewN | apply below_drew1) | exact HB.out)⟩
      · replace c7 := Bool.eq_false_iff.mpr c7
        subst c7
        have H1 : ((some (([] : List (S50)) : List (S50))).bind fun y107 => (if 0 ≤ t105 then (if t105 ≤ (l0.length : Int) then ((some (l0.take (t105 : Int).toNat : List (S50))).bind fun y110 => (if y107.length + y110.length < 8796093022208 then ((some (y107 ++ y110 : List (S50))).bind fun y114 => (if y114.length < 8796093022208 then ((some (y114 ++ [(⟨a1, a2⟩ : S50)] : List (S50))).bind fun y117 => (if t106 = true then (if 0 ≤ (wrap64 (t105 + 1)) then (if (wrap64 (t105 + 1)) ≤ (l0.length : Int) then ((some (l0.drop ((wrap64 (t105 + 1)) : Int).toNat : List (S50))).bind fun y120 => (if y117.length + y120.length < 8796093022208 then (some ((y117 ++ y120), 0)) else (none))) else (none)) else (none)) else ((some (l0.drop (t105 : Int).toNat : List (S50))).bind fun y127 => (if y117.length + y127.length < 8796093022208 then (some ((y117 ++ y127), 0)) else (none))))) else (none))) else (none))) else (none)) else (none))) = some (r1, r2) := by rw [if_neg (show ¬ (false = true) by decide)] at H; exact H
        clear H
        have H := H1
        clear H1
        obtain ⟨y107, hy107⟩ : ∃ y_ : List (S50), y_ = (([] : List (S50))) := ⟨_, rfl⟩
        replace H : (if 0 ≤ t105 then (if t105 ≤ (l0.length : Int) then ((some (l0.take (t105 : Int).toNat : List (S50))).bind fun y110 => (if y107.length + y110.length < 8796093022208 then ((some (y107 ++ y110 : List (S50))).bind fun y114 => (if y114.length < 8796093022208 then ((some (y114 ++ [(⟨a1, a2⟩ : S50)] : List (S50))).bind fun y117 => (if t106 = true then (if 0 ≤ (wrap64 (t105 + 1)) then (if (wrap64 (t105 + 1)) ≤ (l0.length : Int) then ((some (l0.drop ((wrap64 (t105 + 1)) : Int).toNat : List (S50))).bind fun y120 => (if y117.length + y120.length < 8796093022208 then (some ((y117 ++ y120), 0)) else (none))) else (none)) else (none)) else ((some (l0.drop (t105 : Int).toNat : List (S50))).bind fun y127 => (if y117.length + y127.length < 8796093022208 then (some ((y117 ++ y127), 0)) else (none))))) else (none))) else (none))) else (none)) else (none)) = some (r1, r2) := by first | (rw [hy107]; with_reducible exact H) | (have H2_ := (Option.bind_some _ _).symm.trans H; rw [hy107]; with_reducible exact H2_) | (have H2_ := (Option.bind_some _ _).symm.trans H; with_reducible exact H2_) | with_reducible exact H | (rw [hy107]; exact H) | exact H
        have Ny107 := Aside0.mk hy107
        clear hy107
        by_cases c8 : 0 ≤ t105
        · rw [if_pos c8] at H
          have c8b0 := eq_true c8
          have c8b1 : decide (0 ≤ t105) = true := decide_eq_true c8
          clear c8
          by_cases c9 : t105 ≤ (l0.length : Int)
          · rw [if_pos c9] at H
            have c9b0 := eq_true c9
            have c9b1 : decide (t105 ≤ (l0.length : Int)) = true := decide_eq_true c9
            clear c9
            obtain ⟨y110, hy110⟩ : ∃ y_ : List (S50), y_ = (l0.take (t105 : Int).toNat) := ⟨_, rfl⟩
            replace H : (if y107.length + y110.length < 8796093022208 then ((some (y107 ++ y110 : List (S50))).bind fun y114 => (if y114.length < 8796093022208 then ((some (y114 ++ [(⟨a1, a2⟩ : S50)] : List (S50))).bind fun y117 => (if t106 = true then (if 0 ≤ (wrap64 (t105 + 1)) then (if (wrap64 (t105 + 1)) ≤ (l0.length : Int) then ((some (l0.drop ((wrap64 (t105 + 1)) : Int).toNat : List (S50))).bind fun y120 => (if y117.length + y120.length < 8796093022208 then (some ((y117 ++ y120), 0)) else (none))) else (none)) else (none)) else ((some (l0.drop (t105 : Int).toNat : List (S50))).bind fun y127 => (if y117.length + y127.length < 8796093022208 then (some ((y117 ++ y127), 0)) else (none))))) else (none))) else (none)) = some (r1, r2) := by first | (rw [hy110]; with_reducible exact H) | (have H2_ := (Option.bind_some _ _).symm.trans H; rw [hy110]; with_reducible exact H2_) | (have H2_ := (Option.bind_some _ _).symm.trans H; with_reducible exact H2_) | with_reducible exact H | (rw [hy110]; exact H) | exact H
            have Ny110 := Aside0.mk hy110
            clear hy110
            by_cases c10 : y107.length + y110.length < 8796093022208
            · rw [if_pos c10] at H
              have LMc10 := Aside0.mk c10
              clear c10
              obtain ⟨y114, hy114⟩ : ∃ y_ : List (S50), y_ = (y107 ++ y110) := ⟨_, rfl⟩
              replace H : (if y114.length < 8796093022208 then ((some (y114 ++ [(⟨a1, a2⟩ : S50)] : List (S50))).bind fun y117 => (if t106 = true then (if 0 ≤ (wrap64 (t105 + 1)) then (if (wrap64 (t105 + 1)) ≤ (l0.length : Int) then ((some (l0.drop ((wrap64 (t105 + 1)) : Int).toNat : List (S50))).bind fun y120 => (if y117.length + y120.length < 8796093022208 then (some ((y117 ++ y120), 0)) else (none))) else (none)) else (none)) else ((some (l0.drop (t105 : Int).toNat : List (S50))).bind fun y127 => (if y117.length + y127.length < 8796093022208 then (some ((y117 ++ y127), 0)) else (none))))) else (none)) = some (r1, r2) := by first | (rw [hy114]; with_reducible exact H) | (have H2_ := (Option.bind_some _ _).symm.trans H; rw [hy114]; with_reducible exact H2_) | (have H2_ := (Option.bind_some _ _).symm.trans H; with_reducible exact H2_) | with_reducible exact H | (rw [hy114]; exact H) | exact H
              have Ny114 := Aside0.mk hy114
              clear hy114
              by_cases c11 : y114.length < 8796093022208
              · rw [if_pos c11] at H
                have LMc11 := Aside0.mk c11
                clear c11
                obtain ⟨y117, hy117⟩ : ∃ y_ : List (S50), y_ = (y114 ++ [(⟨a1, a2⟩ : S50)]) := ⟨_, rfl⟩
                replace H : (if t106 = true then (if 0 ≤ (wrap64 (t105 + 1)) then (if (wrap64 (t105 + 1)) ≤ (l0.length : Int) then ((some (l0.drop ((wrap64 (t105 + 1)) : Int).toNat : List (S50))).bind fun y120 => (if y117.length + y120.length < 8796093022208 then (some ((y117 ++ y120), 0)) else (none))) else (none)) else (none)) else ((some (l0.drop (t105 : Int).toNat : List (S50))).bind fun y127 => (if y117.length + y127.length < 8796093022208 then (some ((y117 ++ y127), 0)) else (none)))) = some (r1, r2) := by first | (rw [hy117]; with_reducible exact H) | (have H2_ := (Option.bind_some _ _).symm.trans H; rw [hy117]; with_reducible exact H2_) | (have H2_ := (Option.bind_some _ _).symm.trans H; with_reducible exact H2_) | with_reducible exact H | (rw [hy117]; exact H) | exact H
                have Ny117 := Aside0.mk hy117
                clear hy117
                by_cases c12 : t106 = true
                · subst c12
                  have H1 : (if 0 ≤ (wrap64 (t105 + 1)) then (if (wrap64 (t105 + 1)) ≤ (l0.length : Int) then ((some (l0.drop ((wrap64 (t105 + 1)) : Int).toNat : List (S50))).bind fun y120 => (if y117.length + y120.length < 8796093022208 then (some ((y117 ++ y120), 0)) else (none))) else (none)) else (none)) = some (r1, r2) := by rw [if_pos rfl] at H; exact H
                  clear H
                  have H := H1
                  clear H1
                  obtain ⟨ji13, hji13⟩ : ∃ j_ : Int, (wrap64 (t105 + 1)) = j_ := ⟨_, rfl⟩
                  replace H : (if 0 ≤ (ji13) then (if (ji13) ≤ (l0.length : Int) then ((some (l0.drop ((ji13) : Int).toNat : List (S50))).bind fun y120 => (if y117.length + y120.length < 8796093022208 then (some ((y117 ++ y120), 0)) else (none))) else (none)) else (none)) = some (r1, r2) := by first | (rw [hji13] at H; exact H) | (simp only [hji13] at H ⊢; exact H)
                  have hji13w : (IntKind.i64.wrap (t105 + 1)) = ji13 := (i64_w _).trans hji13
                  by_cases c14 : 0 ≤ (ji13)
                  · rw [if_pos c14] at H
                    have c14b0 := eq_true c14
                    have c14b1 : decide (0 ≤ (ji13)) = true := decide_eq_true c14
                    clear c14
                    by_cases c15 : (ji13) ≤ (l0.length : Int)
                    · rw [if_pos c15] at H
                      have c15b0 := eq_true c15
                      have c15b1 : decide ((ji13) ≤ (l0.length : Int)) = true := decide_eq_true c15
                      clear c15
                      obtain ⟨y120, hy120⟩ : ∃ y_ : List (S50), y_ = (l0.drop ((ji13) : Int).toNat) := ⟨_, rfl⟩
                      replace H : (if y117.length + y120.length < 8796093022208 then (some ((y117 ++ y120), 0)) else (none)) = some (r1, r2) := by first | (rw [hy120]; with_reducible exact H) | (have H2_ := (Option.bind_some _ _).symm.trans H; rw [hy120]; with_reducible exact H2_) | (have H2_ := (Option.bind_some _ _).symm.trans H; with_reducible exact H2_) | with_reducible exact H | (rw [hy120]; exact H) | exact H
                      have Ny120 := Aside0.mk hy120
                      clear hy120
                      by_cases c16 : y117.length + y120.length < 8796093022208
                      · rw [if_pos c16] at H
                        have LMc16 := Aside0.mk c16
                        clear c16
                        obtain ⟨y124, hy124⟩ : ∃ y_ : List (S50), y_ = (y117 ++ y120) := ⟨_, rfl⟩
                        replace H : (some (y124, 0)) = some (r1, r2) := by first | (rw [hy124]; with_reducible exact H) | (have H2_ := (Option.bind_some _ _).symm.trans H; rw [hy124]; with_reducible exact H2_) | (have H2_ := (Option.bind_some _ _).symm.trans H; with_reducible exact H2_) | with_reducible exact H | (rw [hy124]; exact H) | exact H
                        have Ny124 := Aside0.mk hy124
                        clear hy124
                        simp only [Option.some.injEq, Prod.mk.injEq] at H
                        obtain ⟨rfl, rfl⟩ := H
                        go_wp2_with (first | ((with_reducible refine gate_dst (N := 24) rfl ?_); (try (refine gate_guard (by rfl) ?_; dsimp only)); refine Kd.R_lit k50 _ 50 ?hg (N := 24) ?hd (xs := ([] : List (S50))) (inner := []) (ok := fun _ => True) (okp := fun _ => True) ?hr ?hp (fun _ hk => hk) trivial (Below.refl _ _) (Nat.le_refl _) (by simp) ?_; (case hd => rfl); (case hg => rfl); (case hr => first | (go_simp; done) | (go_simp; rfl)); (case hp => exact (Reps.none _ _)); intro v108 w17 ho18 hb hg_ hnew_; clear hg_ hnew_; (first | rw [← Ny107.out] at ho18 | (simp only [Int.reduceToNat] at ho18; rw [← Ny107.out] at ho18)); have n0_ := Aside0.mk (Kd.R_lower ho18 (below_size (by repeat (first | (with_reducible first | exact HB.out | apply below_alloc | apply pw_below_drewN | apply below_drew1) | exact HB.out)))); have n1_ := Aside0.mk (below_step (by repeat (first | (with_reducible first | exact HB.out | apply below_alloc | apply pw_below_drewN | apply below_drew1) | exact HB.out)) hb); clear HB; have HO109 := n0_; have HB := n1_; clear n0_ n1_; clear hb ho18; have q19 : (t105 : Int) ≤ ((l0.length : Int) : Int) := of_decide_eq_true (by first | (with_reducible assumption) | assumption); obtain ⟨i019, hi019, _, hsz19, _⟩ := info_parts info50; have hroom19 : l0.length ≤ c0 := HC0.out; have hC19 : Kd.C k50 _ A0 l0.length l0 := HR0.out; have hcut19 := cut_to (P := Try.prog) 37 50 .i64 Try.underlying37 hi019 A0 l0.length c0 t105 (of_decide_eq_true (by first | (with_reducible assumption) | assumption)) q19 hroom19; have hr19 := Kd.C_take (m := (t105 : Int).toNat) hC19 (by omega); have hy19 : y110.length = (t105 : Int).toNat := (by rw [Ny110.out, List.length_take]; omega); rw [← Ny110.out] at hr19; rw [← hy19] at hcut19; have HR113 := Aside0.mk hr19; have HC113 := Aside0.mk (show y110.length ≤ c0 from by omega); clear hr19 hC19 hroom19 hi019 hsz19; have KY19 := Aside0.mk hy19; clear hy19; replace q19 := eq_true q19) | ((with_reducible refine gate_builtin (b := .append) (xs := #[.tmp 24, .tmp 27]) rfl ?_); (try (refine gate_guard (by rfl) ?_; dsimp only)); at_builtin; refine Kd.R_append_rows k50 (w0 := w) w.heap.size rfl (.tmp 24) (.tmp 27) 37 50 (.agg #[(.int .u64 0), (.int .i64 0)]) 16 rfl Try.underlying37 info50 rfl (by decide) (by omega) v108 y107 y110 _ _ _ (fun _ => True) (fun _ => False) rfl rfl ?aO ?aR (fun _ _ h => h) (fun _ h => h.elim) ?aF ?aB ?aS ?aL ?_; (case aR => repeat (first | exact (Kd.C_below HR113.out HB.out) | (with_reducible refine Kd.C_alloc ?_ _) | (with_reducible refine Kd.C_drewN ?_ _) | (with_reducible refine Kd.C_drew ?_))); (case aB => exact (by repeat (first | (with_reducible first | exact HB.out | apply below_alloc | apply pw_below_drewN | apply below_drew1) | exact HB.out))); (case aF => exact (fun _ _ => trivial)); (case aO => exact (by (with_reducible repeat (first | apply Kd.R_alloc | apply Kd.R_drewN | apply Kd.R_drew)); exact HO109.out)); (case aS => exact (below_size (by repeat (first | (with_reducible first | exact HB.out | apply below_alloc | apply pw_below_drewN | apply below_drew1) | exact HB.out)))); (case aL => have := LMc10.out; omega); intro v115 w20 ho hb hg hat; rw [← Ny114.out] at ho; have n0_ := Aside0.mk (hb); have n1_ := Aside0.mk (ho); clear HB; clear HO109; have HB := n0_; have HO116 := n1_; clear n0_ n1_; clear ho hb hg hat) | ((with_reducible refine gate_builtin (b := .append) (xs := #[.tmp 29, .tmp 33]) rfl ?_); (try (refine gate_guard (by rfl) ?_; dsimp only)); at_builtin; refine Kd.R_append k50 (w0 := w) w.heap.size rfl (.tmp 29) (.tmp 33) 37 50 (.agg #[(.int .u64 0), (.int .i64 0)]) 16 rfl Try.underlying37 info50 rfl (by decide) (by omega) v115 y114 (⟨a1, a2⟩ : S50) [.int .u64 a1, .int .i64 a2] (fun _ => True) (fun _ => False) rfl rfl ?aP (fun _ hk => hk.elim) ?aF ?aO ?aB ?aS ?aL ?_; (case aP => exact k50_mkM _ _ _ (⟨a1, a2⟩ : S50)); (case aB => exact (by repeat (first | (with_reducible first | exact HB.out | apply below_alloc | apply pw_below_drewN | apply below_drew1) | exact HB.out))); (case aF => exact (fun _ _ => trivial)); (case aO => exact (by (with_reducible repeat (first | apply Kd.R_alloc | apply Kd.R_drewN | apply Kd.R_drew)); exact HO116.out)); (case aS => exact (below_size (by repeat (first | (with_reducible first | exact HB.out | apply below_alloc | apply pw_below_drewN | apply below_drew1) | exact HB.out)))); (case aL => have := LMc11.out; omega); intro v118 w21 ho hb hg hat; rw [← Ny117.out] at ho; have n0_ := Aside0.mk (hb); have n1_ := Aside0.mk (ho); clear HB; clear HO116; have HB := n0_; have HO119 := n1_; clear n0_ n1_; clear ho hb hg hat; have q22 : ((ji13) : Int) ≤ ((l0.length : Int) : Int) := of_decide_eq_true (by first | (with_reducible assumption) | assumption); obtain ⟨i022, hi022, _, hsz22, _⟩ := info_parts info50; have hroom22 : l0.length ≤ c0 := HC0.out; have hC22 : Kd.C k50 _ A0 l0.length l0 := HR0.out; have q022 : (0 : Int) ≤ ((ji13) : Int) := of_decide_eq_true (by first | (with_reducible assumption) | assumption); have hcut22 := cut_from (P := Try.prog) 37 50 .i64 Try.underlying37 hi022 2 hsz22 A0 l0.length c0 (ji13) q022 q22; have hr22 := Kd.C_drop (m := ((ji13) : Int).toNat) (c := c0) hC22 (by omega) hroom22; obtain ⟨A22, hA22⟩ : ∃ A1, A1 = (if c0 = ((ji13) : Int).toNat then A0 else (A0 : Option Addr).map (·.add (((ji13) : Int).toNat * 2))) := ⟨_, rfl⟩; obtain ⟨c22, hc22⟩ : ∃ c1, c1 = c0 - ((ji13) : Int).toNat := ⟨_, rfl⟩; have hy22 : y120.length = l0.length - ((ji13) : Int).toNat := (by rw [Ny120.out, List.length_drop] <;> omega); rw [show (l0).drop ((ji13) : Int).toNat = y120 from Ny120.out.symm] at hr22; replace hr22 : Kd.C k50 _ A22 y120.length y120 := (by rw [hA22]; exact hr22); rw [← hy22, ← hA22, ← hc22] at hcut22; have HR123 := Aside0.mk hr22; have HC123 := Aside0.mk (show y120.length ≤ c22 from by rw [hy22, hc22]; exact Nat.sub_le_sub_right hroom22 _); clear hr22 hC22 hroom22 hi022 hsz22 hc22; have KY22 := Aside0.mk hy22; have KA22 := Aside0.mk hA22; clear hy22 hA22; replace q22 := eq_true q22) | ((with_reducible refine gate_builtin (b := .append) (xs := #[.tmp 38, .tmp 41]) rfl ?_); (try (refine gate_guard (by rfl) ?_; dsimp only)); at_builtin; refine Kd.R_append_rows k50 (w0 := w) w.heap.size rfl (.tmp 38) (.tmp 41) 37 50 (.agg #[(.int .u64 0), (.int .i64 0)]) 16 rfl Try.underlying37 info50 rfl (by decide) (by omega) v118 y117 y120 _ _ _ (fun _ => True) (fun _ => False) rfl rfl ?aO ?aR (fun _ _ h => h) (fun _ h => h.elim) ?aF ?aB ?aS ?aL ?_; (case aR => repeat (first | exact (Kd.C_below HR123.out HB.out) | (with_reducible refine Kd.C_alloc ?_ _) | (with_reducible refine Kd.C_drewN ?_ _) | (with_reducible refine Kd.C_drew ?_))); (case aB => exact (by repeat (first | (with_reducible first | exact HB.out | apply below_alloc | apply pw_below_drewN | apply below_drew1) | exact HB.out))); (case aF => exact (fun _ _ => trivial)); (case aO => exact (by (with_reducible repeat (first | apply Kd.R_alloc | apply Kd.R_drewN | apply Kd.R_drew)); exact HO119.out)); (case aS => exact (below_size (by repeat (first | (with_reducible first | exact HB.out | apply below_alloc | apply pw_below_drewN | apply below_drew1) | exact HB.out)))); (case aL => have := LMc16.out; omega); intro v125 w23 ho hb hg hat; rw [← Ny124.out] at ho; have n0_ := Aside0.mk (hb); have n1_ := Aside0.mk (ho); clear HB; clear HO119; have HB := n0_; have HO126 := n1_; clear n0_ n1_; clear ho hb hg hat))
                        go_ret2
                        exact ⟨_, by first | rfl | (simp [errW_none, errW_some] <;> rfl) | (simp only [← hji13]; first | rfl | (simp [errW_none, errW_some] <;> rfl)) | (simp [*, errW_none, errW_some] <;> rfl), by (with_reducible repeat (first | apply Kd.R_alloc | apply Kd.R_drewN | apply Kd.R_drew)); exact HO126.out, by repeat (first | (with_reducible first | exact HB.out | apply below_alloc | apply pw_below_drewN | apply below_drew1) | exact HB.out)⟩
                      · rw [if_neg c16] at H
                        exact absurd H (by simp)
                    · rw [if_neg c15] at H
                      exact absurd H (by simp)
                  · rw [if_neg c14] at H
                    exact absurd H (by simp)
                · replace c12 := Bool.eq_false_iff.mpr c12
                  subst c12
                  have H1 : ((some (l0.drop (t105 : Int).toNat : List (S50))).bind fun y127 => (if y117.length + y127.length < 8796093022208 then (some ((y117 ++ y127), 0)) else (none))) = some (r1, r2) := by rw [if_neg (show ¬ (false = true) by decide)] at H; exact H
                  clear H
                  have H := H1
                  clear H1
                  have c24b0 := eq_true (of_decide_eq_true (by first | (with_reducible assumption) | assumption) : 0 ≤ t105)
                  have c25b0 := eq_true (of_decide_eq_true (by first | (with_reducible assumption) | assumption) : t105 ≤ (l0.length : Int))
                  obtain ⟨y127, hy127⟩ : ∃ y_ : List (S50), y_ = (l0.drop (t105 : Int).toNat) := ⟨_, rfl⟩
                  replace H : (if y117.length + y127.length < 8796093022208 then (some ((y117 ++ y127), 0)) else (none)) = some (r1, r2) := by first | (rw [hy127]; with_reducible exact H) | (have H2_ := (Option.bind_some _ _).symm.trans H; rw [hy127]; with_reducible exact H2_) | (have H2_ := (Option.bind_some _ _).symm.trans H; with_reducible exact H2_) | with_reducible exact H | (rw [hy127]; exact H) | exact H
                  have Ny127 := Aside0.mk hy127
                  clear hy127
                  by_cases c26 : y117.length + y127.length < 8796093022208
                  · rw [if_pos c26] at H
                    have LMc26 := Aside0.mk c26
                    clear c26
                    obtain ⟨y131, hy131⟩ : ∃ y_ : List (S50), y_ = (y117 ++ y127) := ⟨_, rfl⟩
                    replace H : (some (y131, 0)) = some (r1, r2) := by first | (rw [hy131]; with_reducible exact H) | (have H2_ := (Option.bind_some _ _).symm.trans H; rw [hy131]; with_reducible exact H2_) | (have H2_ := (Option.bind_some _ _).symm.trans H; with_reducible exact H2_) | with_reducible exact H | (rw [hy131]; exact H) | exact H
                    have Ny131 := Aside0.mk hy131
                    clear hy131
                    simp only [Option.some.injEq, Prod.mk.injEq] at H
                    obtain ⟨rfl, rfl⟩ := H
                    go_wp2_with (first | ((with_reducible refine gate_dst (N := 24) rfl ?_); (try (refine gate_guard (by rfl) ?_; dsimp only)); refine Kd.R_lit k50 _ 50 ?hg (N := 24) ?hd (xs := ([] : List (S50))) (inner := []) (ok := fun _ => True) (okp := fun _ => True) ?hr ?hp (fun _ hk => hk) trivial (Below.refl _ _) (Nat.le_refl _) (by simp) ?_; (case hd => rfl); (case hg => rfl); (case hr => first | (go_simp; done) | (go_simp; rfl)); (case hp => exact (Reps.none _ _)); intro v108 w27 ho28 hb hg_ hnew_; clear hg_ hnew_; (first | rw [← Ny107.out] at ho28 | (simp only [Int.reduceToNat] at ho28; rw [← Ny107.out] at ho28)); have n0_ := Aside0.mk (Kd.R_lower ho28 (below_size (by repeat (first | (with_reducible first | exact HB.out | apply below_alloc | apply pw_below_drewN | apply below_drew1) | exact HB.out)))); have n1_ := Aside0.mk (below_step (by repeat (first | (with_reducible first | exact HB.out | apply below_alloc | apply pw_below_drewN | apply below_drew1) | exact HB.out)) hb); clear HB; have HO109 := n0_; have HB := n1_; clear n0_ n1_; clear hb ho28; have q29 : (t105 : Int) ≤ ((l0.length : Int) : Int) := of_decide_eq_true (by first | (with_reducible assumption) | assumption); obtain ⟨i029, hi029, _, hsz29, _⟩ := info_parts info50; have hroom29 : l0.length ≤ c0 := HC0.out; have hC29 : Kd.C k50 _ A0 l0.length l0 := HR0.out; have hcut29 := cut_to (P := Try.prog) 37 50 .i64 Try.underlying37 hi029 A0 l0.length c0 t105 (of_decide_eq_true (by first | (with_reducible assumption) | assumption)) q29 hroom29; have hr29 := Kd.C_take (m := (t105 : Int).toNat) hC29 (by omega); have hy29 : y110.length = (t105 : Int).toNat := (by rw [Ny110.out, List.length_take]; omega); rw [← Ny110.out] at hr29; rw [← hy29] at hcut29; have HR113 := Aside0.mk hr29; have HC113 := Aside0.mk (show y110.length ≤ c0 from by omega); clear hr29 hC29 hroom29 hi029 hsz29; have KY29 := Aside0.mk hy29; clear hy29; replace q29 := eq_true q29) | ((with_reducible refine gate_builtin (b := .append) (xs := #[.tmp 24, .tmp 27]) rfl ?_); (try (refine gate_guard (by rfl) ?_; dsimp only)); at_builtin; refine Kd.R_append_rows k50 (w0 := w) w.heap.size rfl (.tmp 24) (.tmp 27) 37 50 (.agg #[(.int .u64 0), (.int .i64 0)]) 16 rfl Try.underlying37 info50 rfl (by decide) (by omega) v108 y107 y110 _ _ _ (fun _ => True) (fun _ => False) rfl rfl ?aO ?aR (fun _ _ h => h) (fun _ h => h.elim) ?aF ?aB ?aS ?aL ?_; (case aR => repeat (first | exact (Kd.C_below HR113.out HB.out) | (with_reducible refine Kd.C_alloc ?_ _) | (with_reducible refine Kd.C_drewN ?_ _) | (with_reducible refine Kd.C_drew ?_))); (case aB => exact (by repeat (first | (with_reducible first | exact HB.out | apply below_alloc | apply pw_below_drewN | apply below_drew1) | exact HB.out))); (case aF => exact (fun _ _ => trivial)); (case aO => exact (by (with_reducible repeat (first | apply Kd.R_alloc | apply Kd.R_drewN | apply Kd.R_drew)); exact HO109.out)); (case aS => exact (below_size (by repeat (first | (with_reducible first | exact HB.out | apply below_alloc | apply pw_below_drewN | apply below_drew1) | exact HB.out)))); (case aL => have := LMc10.out; omega); intro v115 w30 ho hb hg hat; rw [← Ny114.out] at ho; have n0_ := Aside0.mk (hb); have n1_ := Aside0.mk (ho); clear HB; clear HO109; have HB := n0_; have HO116 := n1_; clear n0_ n1_; clear ho hb hg hat) | ((with_reducible refine gate_builtin (b := .append) (xs := #[.tmp 29, .tmp 33]) rfl ?_); (try (refine gate_guard (by rfl) ?_; dsimp only)); at_builtin; refine Kd.R_append k50 (w0 := w) w.heap.size rfl (.tmp 29) (.tmp 33) 37 50 (.agg #[(.int .u64 0), (.int .i64 0)]) 16 rfl Try.underlying37 info50 rfl (by decide) (by omega) v115 y114 (⟨a1, a2⟩ : S50) [.int .u64 a1, .int .i64 a2] (fun _ => True) (fun _ => False) rfl rfl ?aP (fun _ hk => hk.elim) ?aF ?aO ?aB ?aS ?aL ?_; (case aP => exact k50_mkM _ _ _ (⟨a1, a2⟩ : S50)); (case aB => exact (by repeat (first | (with_reducible first | exact HB.out | apply below_alloc | apply pw_below_drewN | apply below_drew1) | exact HB.out))); (case aF => exact (fun _ _ => trivial)); (case aO => exact (by (with_reducible repeat (first | apply Kd.R_alloc | apply Kd.R_drewN | apply Kd.R_drew)); exact HO116.out)); (case aS => exact (below_size (by repeat (first | (with_reducible first | exact HB.out | apply below_alloc | apply pw_below_drewN | apply below_drew1) | exact HB.out)))); (case aL => have := LMc11.out; omega); intro v118 w31 ho hb hg hat; rw [← Ny117.out] at ho; have n0_ := Aside0.mk (hb); have n1_ := Aside0.mk (ho); clear HB; clear HO116; have HB := n0_; have HO119 := n1_; clear n0_ n1_; clear ho hb hg hat; have q32 : (t105 : Int) ≤ ((l0.length : Int) : Int) := of_decide_eq_true (by first | (with_reducible assumption) | assumption); obtain ⟨i032, hi032, _, hsz32, _⟩ := info_parts info50; have hroom32 : l0.length ≤ c0 := HC0.out; have hC32 : Kd.C k50 _ A0 l0.length l0 := HR0.out; have q032 : (0 : Int) ≤ (t105 : Int) := of_decide_eq_true (by first | (with_reducible assumption) | assumption); have hcut32 := cut_from (P := Try.prog) 37 50 .i64 Try.underlying37 hi032 2 hsz32 A0 l0.length c0 t105 q032 q32; have hr32 := Kd.C_drop (m := (t105 : Int).toNat) (c := c0) hC32 (by omega) hroom32; obtain ⟨A32, hA32⟩ : ∃ A1, A1 = (if c0 = (t105 : Int).toNat then A0 else (A0 : Option Addr).map (·.add ((t105 : Int).toNat * 2))) := ⟨_, rfl⟩; obtain ⟨c32, hc32⟩ : ∃ c1, c1 = c0 - (t105 : Int).toNat := ⟨_, rfl⟩; have hy32 : y127.length = l0.length - (t105 : Int).toNat := (by rw [Ny127.out, List.length_drop] <;> omega); rw [show (l0).drop (t105 : Int).toNat = y127 from Ny127.out.symm] at hr32; replace hr32 : Kd.C k50 _ A32 y127.length y127 := (by rw [hA32]; exact hr32); rw [← hy32, ← hA32, ← hc32] at hcut32; have HR130 := Aside0.mk hr32; have HC130 := Aside0.mk (show y127.length ≤ c32 from by rw [hy32, hc32]; exact Nat.sub_le_sub_right hroom32 _); clear hr32 hC32 hroom32 hi032 hsz32 hc32; have KY32 := Aside0.mk hy32; have KA32 := Aside0.mk hA32; clear hy32 hA32; replace q32 := eq_true q32) | ((with_reducible refine gate_builtin (b := .append) (xs := #[.tmp 38, .tmp 41]) rfl ?_); (try (refine gate_guard (by rfl) ?_; dsimp only)); at_builtin; refine Kd.R_append_rows k50 (w0 := w) w.heap.size rfl (.tmp 38) (.tmp 41) 37 50 (.agg #[(.int .u64 0), (.int .i64 0)]) 16 rfl Try.underlying37 info50 rfl (by decide) (by omega) v118 y117 y127 _ _ _ (fun _ => True) (fun _ => False) rfl rfl ?aO ?aR (fun _ _ h => h) (fun _ h => h.elim) ?aF ?aB ?aS ?aL ?_; (case aR => repeat (first | exact (Kd.C_below HR130.out HB.out) | (with_reducible refine Kd.C_alloc ?_ _) | (with_reducible refine Kd.C_drewN ?_ _) | (with_reducible refine Kd.C_drew ?_))); (case aB => exact (by repeat (first | (with_reducible first | exact HB.out | apply below_alloc | apply pw_below_drewN | apply below_drew1) | exact HB.out))); (case aF => exact (fun _ _ => trivial)); (case aO => exact (by (with_reducible repeat (first | apply Kd.R_alloc | apply Kd.R_drewN | apply Kd.R_drew)); exact HO119.out)); (case aS => exact (below_size (by repeat (first | (with_reducible first | exact HB.out | apply below_alloc | apply pw_below_drewN | apply below_drew1) | exact HB.out)))); (case aL => have := LMc26.out; omega); intro v132 w33 ho hb hg hat; rw [← Ny131.out] at ho; have n0_ := Aside0.mk (hb); have n1_ := Aside0.mk (ho); clear HB; clear HO119; have HB := n0_; have HO133 := n1_; clear n0_ n1_; clear ho hb hg hat))
                    go_ret2
                    exact ⟨_, by first | rfl | (simp [errW_none, errW_some] <;> rfl) | (simp [*, errW_none, errW_some] <;> rfl), by (with_reducible repeat (first | apply Kd.R_alloc | apply Kd.R_drewN | apply Kd.R_drew)); exact HO133.out, by repeat (first | (with_reducible first | exact HB.out | apply below_alloc | apply pw_below_drewN | apply below_drew1) | exact HB.out)⟩
                  · rw [if_neg c26] at H
                    exact absurd H (by simp)
              · rw [if_neg c11] at H
                exact absurd H (by simp)
            · rw [if_neg c10] at H
              exact absurd H (by simp)
          · rw [if_neg c9] at H
            exact absurd H (by simp)
        · rw [if_neg c8] at H
          exact absurd H (by simp)

-- NOT PRINTED: function 32 (waystonelaw04_Held_put)

/-! ### waystoneref04_Drop: function 33 -/
def waystoneref04_Drop.f (k : Nat) (l0 : List (S50)) (a1 : Int) : Option ((List (S50)) × Int) := (waystoneref04_find.f k l0 a1).bind fun bt134 => (if bt134.2 = true then ((some (([] : List (S50)) : List (S50))).bind fun y136 => (if 0 ≤ bt134.1 then (if bt134.1 ≤ (l0.length : Int) then ((some (l0.take (bt134.1 : Int).toNat : List (S50))).bind fun y139 => (if y136.length + y139.length < 8796093022208 then ((some (y136 ++ y139 : List (S50))).bind fun y143 => (if 0 ≤ (wrap64 (bt134.1 + 1)) then (if (wrap64 (bt134.1 + 1)) ≤ (l0.length : Int) then ((some (l0.drop ((wrap64 (bt134.1 + 1)) : Int).toNat : List (S50))).bind fun y146 => (if y143.length + y146.length < 8796093022208 then (some ((y143 ++ y146), 0)) else (none))) else (none)) else (none))) else (none))) else (none)) else (none))) else (some (([] : List (S50)), 42)))
theorem waystoneref04_Drop.mono : ∀ a0 a1 k, LeO (waystoneref04_Drop.f k a0 a1) (waystoneref04_Drop.f (k + 1) a0 a1) := by
  intro a0 a1 k
  unfold waystoneref04_Drop.f
  repeat' first
      | (with_reducible exact waystoneref04_find.mono _ _ _)
      | (with_reducible exact LeO.refl _)
      | (with_reducible exact LeO.none _)
      | (with_reducible refine LeO.ite ?_ ?_)
      | (with_reducible refine LeO.bind ?_ (fun _ => ?_))
      | exact waystoneref04_find.mono _ _ _
      | exact LeO.none _
      | refine LeO.ite ?_ ?_
      | refine LeO.bind ?_ (fun _ => ?_)
set_option maxHeartbeats 8000000 in
set_option maxRecDepth 100000 in
theorem waystoneref04_Drop.calls (k : Nat) (A0 : Option Addr) (c0 : Nat) (l0 : List (S50)) (a1 : Int) (r1 : List (S50)) (r2 : Int) (w : World) (hr0 : Kd.C k50 w A0 l0.length l0) (hc0 : l0.length ≤ c0) (h : waystoneref04_Drop.f k l0 a1 = some (r1, r2)) :
    Calls Try.prog 33 #[.slice A0 l0.length c0, .int .u64 a1] w fun e w' => ∃ v0_ : Value, e = .returned (.tuple #[v0_, .int .i64 r2]) ∧ Kd.R k50 50 w' w.heap.size (fun _ => True) v0_ r1 ∧ Below w.heap.size w w' := by
  have HR0 := Aside0.mk hr0
  have HC0 := Aside0.mk hc0
  clear hr0 hc0
  have HB := Aside0.mk (Below.refl w.heap.size w)
  have H : ((waystoneref04_find.f k l0 a1).bind fun bt134 => (if bt134.2 = true then ((some (([] : List (S50)) : List (S50))).bind fun y136 => (if 0 ≤ bt134.1 then (if bt134.1 ≤ (l0.length : Int) then ((some (l0.take (bt134.1 : Int).toNat : List (S50))).bind fun y139 => (if y136.length + y139.length < 8796093022208 then ((some (y136 ++ y139 : List (S50))).bind fun y143 => (if 0 ≤ (wrap64 (bt134.1 + 1)) then (if (wrap64 (bt134.1 + 1)) ≤ (l0.length : Int) then ((some (l0.drop ((wrap64 (bt134.1 + 1)) : Int).toNat : List (S50))).bind fun y146 => (if y143.length + y146.length < 8796093022208 then (some ((y143 ++ y146), 0)) else (none))) else (none)) else (none))) else (none))) else (none)) else (none))) else (some (([] : List (S50)), 42)))) = some (r1, r2) := h
  clear h
  replace H := Option.bind_eq_some_iff.mp H
  obtain ⟨⟨t134, t135⟩, A30, H⟩ := H
  replace H : (if t135 = true then ((some (([] : List (S50)) : List (S50))).bind fun y136 => (if 0 ≤ t134 then (if t134 ≤ (l0.length : Int) then ((some (l0.take (t134 : Int).toNat : List (S50))).bind fun y139 => (if y136.length + y139.length < 8796093022208 then ((some (y136 ++ y139 : List (S50))).bind fun y143 => (if 0 ≤ (wrap64 (t134 + 1)) then (if (wrap64 (t134 + 1)) ≤ (l0.length : Int) then ((some (l0.drop ((wrap64 (t134 + 1)) : Int).toNat : List (S50))).bind fun y146 => (if y143.length + y146.length < 8796093022208 then (some ((y143 ++ y146), 0)) else (none))) else (none)) else (none))) else (none))) else (none)) else (none))) else (some (([] : List (S50)), 42))) = some (r1, r2) := H
  have A3 := Aside0.mk A30
  clear A30
  by_cases c4 : t135 = true
  · subst c4
    have H1 : ((some (([] : List (S50)) : List (S50))).bind fun y136 => (if 0 ≤ t134 then (if t134 ≤ (l0.length : Int) then ((some (l0.take (t134 : Int).toNat : List (S50))).bind fun y139 => (if y136.length + y139.length < 8796093022208 then ((some (y136 ++ y139 : List (S50))).bind fun y143 => (if 0 ≤ (wrap64 (t134 + 1)) then (if (wrap64 (t134 + 1)) ≤ (l0.length : Int) then ((some (l0.drop ((wrap64 (t134 + 1)) : Int).toNat : List (S50))).bind fun y146 => (if y143.length + y146.length < 8796093022208 then (some ((y143 ++ y146), 0)) else (none))) else (none)) else (none))) else (none))) else (none)) else (none))) = some (r1, r2) := by rw [if_pos rfl] at H; exact H
    clear H
    have H := H1
    clear H1
    obtain ⟨y136, hy136⟩ : ∃ y_ : List (S50), y_ = (([] : List (S50))) := ⟨_, rfl⟩
    replace H : (if 0 ≤ t134 then (if t134 ≤ (l0.length : Int) then ((some (l0.take (t134 : Int).toNat : List (S50))).bind fun y139 => (if y136.length + y139.length < 8796093022208 then ((some (y136 ++ y139 : List (S50))).bind fun y143 => (if 0 ≤ (wrap64 (t134 + 1)) then (if (wrap64 (t134 + 1)) ≤ (l0.length : Int) then ((some (l0.drop ((wrap64 (t134 + 1)) : Int).toNat : List (S50))).bind fun y146 => (if y143.length + y146.length < 8796093022208 then (some ((y143 ++ y146), 0)) else (none))) else (none)) else (none))) else (none))) else (none)) else (none)) = some (r1, r2) := by first | (rw [hy136]; with_reducible exact H) | (have H2_ := (Option.bind_some _ _).symm.trans H; rw [hy136]; with_reducible exact H2_) | (have H2_ := (Option.bind_some _ _).symm.trans H; with_reducible exact H2_) | with_reducible exact H | (rw [hy136]; exact H) | exact H
    have Ny136 := Aside0.mk hy136
    clear hy136
    by_cases c5 : 0 ≤ t134
    · rw [if_pos c5] at H
      have c5b0 := eq_true c5
      have c5b1 : decide (0 ≤ t134) = true := decide_eq_true c5
      clear c5
      by_cases c6 : t134 ≤ (l0.length : Int)
      · rw [if_pos c6] at H
        have c6b0 := eq_true c6
        have c6b1 : decide (t134 ≤ (l0.length : Int)) = true := decide_eq_true c6
        clear c6
        obtain ⟨y139, hy139⟩ : ∃ y_ : List (S50), y_ = (l0.take (t134 : Int).toNat) := ⟨_, rfl⟩
        replace H : (if y136.length + y139.length < 8796093022208 then ((some (y136 ++ y139 : List (S50))).bind fun y143 => (if 0 ≤ (wrap64 (t134 + 1)) then (if (wrap64 (t134 + 1)) ≤ (l0.length : Int) then ((some (l0.drop ((wrap64 (t134 + 1)) : Int).toNat : List (S50))).bind fun y146 => (if y143.length + y146.length < 8796093022208 then (some ((y143 ++ y146), 0)) else (none))) else (none)) else (none))) else (none)) = some (r1, r2) := by first | (rw [hy139]; with_reducible exact H) | (have H2_ := (Option.bind_some _ _).symm.trans H; rw [hy139]; with_reducible exact H2_) | (have H2_ := (Option.bind_some _ _).symm.trans H; with_reducible exact H2_) | with_reducible exact H | (rw [hy139]; exact H) | exact H
        have Ny139 := Aside0.mk hy139
        clear hy139
        by_cases c7 : y136.length + y139.length < 8796093022208
        · rw [if_pos c7] at H
          have LMc7 := Aside0.mk c7
          clear c7
          obtain ⟨y143, hy143⟩ : ∃ y_ : List (S50), y_ = (y136 ++ y139) := ⟨_, rfl⟩
          replace H : (if 0 ≤ (wrap64 (t134 + 1)) then (if (wrap64 (t134 + 1)) ≤ (l0.length : Int) then ((some (l0.drop ((wrap64 (t134 + 1)) : Int).toNat : List (S50))).bind fun y146 => (if y143.length + y146.length < 8796093022208 then (some ((y143 ++ y146), 0)) else (none))) else (none)) else (none)) = some (r1, r2) := by first | (rw [hy143]; with_reducible exact H) | (have H2_ := (Option.bind_some _ _).symm.trans H; rw [hy143]; with_reducible exact H2_) | (have H2_ := (Option.bind_some _ _).symm.trans H; with_reducible exact H2_) | with_reducible exact H | (rw [hy143]; exact H) | exact H
          have Ny143 := Aside0.mk hy143
          clear hy143
          obtain ⟨ji8, hji8⟩ : ∃ j_ : Int, (wrap64 (t134 + 1)) = j_ := ⟨_, rfl⟩
          replace H : (if 0 ≤ (ji8) then (if (ji8) ≤ (l0.length : Int) then ((some (l0.drop ((ji8) : Int).toNat : List (S50))).bind fun y146 => (if y143.length + y146.length < 8796093022208 then (some ((y143 ++ y146), 0)) else (none))) else (none)) else (none)) = some (r1, r2) := by first | (rw [hji8] at H; exact H) | (simp only [hji8] at H ⊢; exact H)
          (try rw [hji8] at A3)
          have hji8w : (IntKind.i64.wrap (t134 + 1)) = ji8 := (i64_w _).trans hji8
          by_cases c9 : 0 ≤ (ji8)
          · rw [if_pos c9] at H
            have c9b0 := eq_true c9
            have c9b1 : decide (0 ≤ (ji8)) = true := decide_eq_true c9
            clear c9
            by_cases c10 : (ji8) ≤ (l0.length : Int)
            · rw [if_pos c10] at H
              have c10b0 := eq_true c10
              have c10b1 : decide ((ji8) ≤ (l0.length : Int)) = true := decide_eq_true c10
              clear c10
              obtain ⟨y146, hy146⟩ : ∃ y_ : List (S50), y_ = (l0.drop ((ji8) : Int).toNat) := ⟨_, rfl⟩
              replace H : (if y143.length + y146.length < 8796093022208 then (some ((y143 ++ y146), 0)) else (none)) = some (r1, r2) := by first | (rw [hy146]; with_reducible exact H) | (have H2_ := (Option.bind_some _ _).symm.trans H; rw [hy146]; with_reducible exact H2_) | (have H2_ := (Option.bind_some _ _).symm.trans H; with_reducible exact H2_) | with_reducible exact H | (rw [hy146]; exact H) | exact H
              have Ny146 := Aside0.mk hy146
              clear hy146
              by_cases c11 : y143.length + y146.length < 8796093022208
              · rw [if_pos c11] at H
                have LMc11 := Aside0.mk c11
                clear c11
                obtain ⟨y150, hy150⟩ : ∃ y_ : List (S50), y_ = (y143 ++ y146) := ⟨_, rfl⟩
                replace H : (some (y150, 0)) = some (r1, r2) := by first | (rw [hy150]; with_reducible exact H) | (have H2_ := (Option.bind_some _ _).symm.trans H; rw [hy150]; with_reducible exact H2_) | (have H2_ := (Option.bind_some _ _).symm.trans H; with_reducible exact H2_) | with_reducible exact H | (rw [hy150]; exact H) | exact H
                have Ny150 := Aside0.mk hy150
                clear hy150
                simp only [Option.some.injEq, Prod.mk.injEq] at H
                obtain ⟨rfl, rfl⟩ := H
                go_enter Try.func33, Try.ntmps33
                go_wp2_with (first | ((with_reducible refine gate_callee (f := 34) rfl ?_); refine goesL_ (some 12) rfl rfl Try.func34 (by kernel_rfl) rfl #[.slice A0 l0.length c0, .int .u64 a1] rfl (by (try simp only [List.map_toArray, List.map_cons, List.map_nil]); first | done | rfl | (simp only [List.length_drop, List.length_take]; rfl)) ?_; (with_reducible refine (waystoneref04_find.calls k _ _ l0 a1 t134 true _ ?side1 ?side2 A3.out).mono ?_); (case side1 => repeat (first | exact HR0.out | (with_reducible refine Kd.C_alloc ?_ _) | (with_reducible refine Kd.C_drewN ?_ _) | (with_reducible refine Kd.C_drew ?_))); (case side2 => exact HC0.out); rintro e w' ⟨rfl, ⟨nd, rfl⟩⟩; refine ⟨_, rfl, ?_⟩) | ((with_reducible refine gate_dst (N := 17) rfl ?_); refine Kd.R_lit k50 _ 50 ?hg (N := 17) ?hd (xs := ([] : List (S50))) (inner := []) (ok := fun _ => True) (okp := fun _ => True) ?hr ?hp (fun _ hk => hk) trivial (Below.refl _ _) (Nat.le_refl _) (by simp) ?_; (case hd => rfl); (case hg => rfl); (case hr => first | (go_simp; done) | (go_simp; rfl)); (case hp => exact (Reps.none _ _)); intro v137 w12 ho13 hb hg_ hnew_; clear hg_ hnew_; (first | rw [← Ny136.out] at ho13 | (simp only [Int.reduceToNat] at ho13; rw [← Ny136.out] at ho13)); have n0_ := Aside0.mk (Kd.R_lower ho13 (below_size (by repeat (first | (with_reducible first | exact HB.out | apply below_alloc | apply pw_below_drewN | apply below_drew1) | exact HB.out)))); have n1_ := Aside0.mk (below_step (by repeat (first | (with_reducible first | exact HB.out | apply below_alloc | apply pw_below_drewN | apply below_drew1) | exact HB.out)) hb); clear HB; have HO138 := n0_; have HB := n1_; clear n0_ n1_; clear hb ho13; have q14 : (t134 : Int) ≤ ((l0.length : Int) : Int) := of_decide_eq_true (by first | (with_reducible assumption) | assumption); obtain ⟨i014, hi014, _, hsz14, _⟩ := info_parts info50; have hroom14 : l0.length ≤ c0 := HC0.out; have hC14 : Kd.C k50 _ A0 l0.length l0 := HR0.out; have hcut14 := cut_to (P := Try.prog) 37 50 .i64 Try.underlying37 hi014 A0 l0.length c0 t134 (of_decide_eq_true (by first | (with_reducible assumption) | assumption)) q14 hroom14; have hr14 := Kd.C_take (m := (t134 : Int).toNat) hC14 (by omega); have hy14 : y139.length = (t134 : Int).toNat := (by rw [Ny139.out, List.length_take]; omega); rw [← Ny139.out] at hr14; rw [← hy14] at hcut14; have HR142 := Aside0.mk hr14; have HC142 := Aside0.mk (show y139.length ≤ c0 from by omega); clear hr14 hC14 hroom14 hi014 hsz14; have KY14 := Aside0.mk hy14; clear hy14; replace q14 := eq_true q14) | ((with_reducible refine gate_builtin (b := .append) (xs := #[.tmp 17, .tmp 20]) rfl ?_); at_builtin; refine Kd.R_append_rows k50 (w0 := w) w.heap.size rfl (.tmp 17) (.tmp 20) 37 50 (.agg #[(.int .u64 0), (.int .i64 0)]) 16 rfl Try.underlying37 info50 rfl (by decide) (by omega) v137 y136 y139 _ _ _ (fun _ => True) (fun _ => False) rfl rfl ?aO ?aR (fun _ _ h => h) (fun _ h => h.elim) ?aF ?aB ?aS ?aL ?_; (case aR => repeat (first | exact (Kd.C_below HR142.out HB.out) | (with_reducible refine Kd.C_alloc ?_ _) | (with_reducible refine Kd.C_drewN ?_ _) | (with_reducible refine Kd.C_drew ?_))); (case aB => exact (by repeat (first | (with_reducible first | exact HB.out | apply below_alloc | apply pw_below_drewN | apply below_drew1) | exact HB.out))); (case aF => exact (fun _ _ => trivial)); (case aO => exact (by (with_reducible repeat (first | apply Kd.R_alloc | apply Kd.R_drewN | apply Kd.R_drew)); exact HO138.out)); (case aS => exact (below_size (by repeat (first | (with_reducible first | exact HB.out | apply below_alloc | apply pw_below_drewN | apply below_drew1) | exact HB.out)))); (case aL => have := LMc7.out; omega); intro v144 w15 ho hb hg hat; rw [← Ny143.out] at ho; have n0_ := Aside0.mk (hb); have n1_ := Aside0.mk (ho); clear HB; clear HO138; have HB := n0_; have HO145 := n1_; clear n0_ n1_; clear ho hb hg hat; have q16 : ((ji8) : Int) ≤ ((l0.length : Int) : Int) := of_decide_eq_true (by first | (with_reducible assumption) | assumption); obtain ⟨i016, hi016, _, hsz16, _⟩ := info_parts info50; have hroom16 : l0.length ≤ c0 := HC0.out; have hC16 : Kd.C k50 _ A0 l0.length l0 := HR0.out; have q016 : (0 : Int) ≤ ((ji8) : Int) := of_decide_eq_true (by first | (with_reducible assumption) | assumption); have hcut16 := cut_from (P := Try.prog) 37 50 .i64 Try.underlying37 hi016 2 hsz16 A0 l0.length c0 (ji8) q016 q16; have hr16 := Kd.C_drop (m := ((ji8) : Int).toNat) (c := c0) hC16 (by omega) hroom16; obtain ⟨A16, hA16⟩ : ∃ A1, A1 = (if c0 = ((ji8) : Int).toNat then A0 else (A0 : Option Addr).map (·.add (((ji8) : Int).toNat * 2))) := ⟨_, rfl⟩; obtain ⟨c16, hc16⟩ : ∃ c1, c1 = c0 - ((ji8) : Int).toNat := ⟨_, rfl⟩; have hy16 : y146.length = l0.length - ((ji8) : Int).toNat := (by rw [Ny146.out, List.length_drop] <;> omega); rw [show (l0).drop ((ji8) : Int).toNat = y146 from Ny146.out.symm] at hr16; replace hr16 : Kd.C k50 _ A16 y146.length y146 := (by rw [hA16]; exact hr16); rw [← hy16, ← hA16, ← hc16] at hcut16; have HR149 := Aside0.mk hr16; have HC149 := Aside0.mk (show y146.length ≤ c16 from by rw [hy16, hc16]; exact Nat.sub_le_sub_right hroom16 _); clear hr16 hC16 hroom16 hi016 hsz16 hc16; have KY16 := Aside0.mk hy16; have KA16 := Aside0.mk hA16; clear hy16 hA16; replace q16 := eq_true q16) | ((with_reducible refine gate_builtin (b := .append) (xs := #[.tmp 22, .tmp 26]) rfl ?_); at_builtin; refine Kd.R_append_rows k50 (w0 := w) w.heap.size rfl (.tmp 22) (.tmp 26) 37 50 (.agg #[(.int .u64 0), (.int .i64 0)]) 16 rfl Try.underlying37 info50 rfl (by decide) (by omega) v144 y143 y146 _ _ _ (fun _ => True) (fun _ => False) rfl rfl ?aO ?aR (fun _ _ h => h) (fun _ h => h.elim) ?aF ?aB ?aS ?aL ?_; (case aR => repeat (first | exact (Kd.C_below HR149.out HB.out) | (with_reducible refine Kd.C_alloc ?_ _) | (with_reducible refine Kd.C_drewN ?_ _) | (with_reducible refine Kd.C_drew ?_))); (case aB => exact (by repeat (first | (with_reducible first | exact HB.out | apply below_alloc | apply pw_below_drewN | apply below_drew1) | exact HB.out))); (case aF => exact (fun _ _ => trivial)); (case aO => exact (by (with_reducible repeat (first | apply Kd.R_alloc | apply Kd.R_drewN | apply Kd.R_drew)); exact HO145.out)); (case aS => exact (below_size (by repeat (first | (with_reducible first | exact HB.out | apply below_alloc | apply pw_below_drewN | apply below_drew1) | exact HB.out)))); (case aL => have := LMc11.out; omega); intro v151 w17 ho hb hg hat; rw [← Ny150.out] at ho; have n0_ := Aside0.mk (hb); have n1_ := Aside0.mk (ho); clear HB; clear HO145; have HB := n0_; have HO152 := n1_; clear n0_ n1_; clear ho hb hg hat))
                go_ret2
                exact ⟨_, by first | rfl | (simp [errW_none, errW_some] <;> rfl) | (simp only [← hji8]; first | rfl | (simp [errW_none, errW_some] <;> rfl)) | (simp [*, errW_none, errW_some] <;> rfl), by (with_reducible repeat (first | apply Kd.R_alloc | apply Kd.R_drewN | apply Kd.R_drew)); exact HO152.out, by repeat (first | (with_reducible first | exact HB.out | apply below_alloc | apply pw_below_drewN | apply below_drew1) | exact HB.out)⟩
              · rw [if_neg c11] at H
                exact absurd H (by simp)
            · rw [if_neg c10] at H
              exact absurd H (by simp)
          · rw [if_neg c9] at H
            exact absurd H (by simp)
        · rw [if_neg c7] at H
          exact absurd H (by simp)
      · rw [if_neg c6] at H
        exact absurd H (by simp)
    · rw [if_neg c5] at H
      exact absurd H (by simp)
  · replace c4 := Bool.eq_false_iff.mpr c4
    subst c4
    have H1 : (some (([] : List (S50)), 42)) = some (r1, r2) := by rw [if_neg (show ¬ (false = true) by decide)] at H; exact H
    clear H
    have H := H1
    clear H1
    simp only [Option.some.injEq, Prod.mk.injEq] at H
    obtain ⟨rfl, rfl⟩ := H
    go_enter Try.func33, Try.ntmps33
    go_wp2_with (first | ((with_reducible refine gate_callee (f := 34) rfl ?_); refine goesL_ (some 12) rfl rfl Try.func34 (by kernel_rfl) rfl #[.slice A0 l0.length c0, .int .u64 a1] rfl (by (try simp only [List.map_toArray, List.map_cons, List.map_nil]); first | done | rfl | (simp only [List.length_drop, List.length_take]; rfl)) ?_; (with_reducible refine (waystoneref04_find.calls k _ _ l0 a1 t134 false _ ?side1 ?side2 A3.out).mono ?_); (case side1 => repeat (first | exact HR0.out | (with_reducible refine Kd.C_alloc ?_ _) | (with_reducible refine Kd.C_drewN ?_ _) | (with_reducible refine Kd.C_drew ?_))); (case side2 => exact HC0.out); rintro e w' ⟨rfl, ⟨nd, rfl⟩⟩; refine ⟨_, rfl, ?_⟩))
    go_ret2
    exact ⟨_, by first | rfl | (simp [errW_none, errW_some] <;> rfl) | (simp [*, errW_none, errW_some] <;> rfl), by first | exact Kd.R_nil _ _ _ _ _ | exact Kd.N_nil _ _ _ _ _ | exact Kd.V_nil _ _ _ _ _ | exact Kd.Q_nil _ _ _ _ _ | exact Kd.S_nil _ _ _ _ _, by repeat (first | (with_reducible first | exact HB.out | apply below_alloc | apply pw_below_drewN | apply below_drew1) | exact HB.out)⟩

-- NOT PRINTED: function 17 (waystonelaw04_Held_do)

/-! ### waystoneref04_Get: function 18 -/
def waystoneref04_Get.f (k : Nat) (l0 : List (S50)) (a1 : Int) : Option (Int × Bool) := (waystoneref04_find.f k l0 a1).bind fun bt153 => (if bt153.2 = true then (if 0 ≤ bt153.1 then (if bt153.1 < (l0.length : Int) then (some ((rd_T50 l0 bt153.1).f1, true)) else (none)) else (none)) else (some (0, false)))
theorem waystoneref04_Get.mono : ∀ a0 a1 k, LeO (waystoneref04_Get.f k a0 a1) (waystoneref04_Get.f (k + 1) a0 a1) := by
  intro a0 a1 k
  unfold waystoneref04_Get.f
  repeat' first
      | (with_reducible exact waystoneref04_find.mono _ _ _)
      | (with_reducible exact LeO.refl _)
      | (with_reducible exact LeO.none _)
      | (with_reducible refine LeO.ite ?_ ?_)
      | (with_reducible refine LeO.bind ?_ (fun _ => ?_))
      | exact waystoneref04_find.mono _ _ _
      | exact LeO.none _
      | refine LeO.ite ?_ ?_
      | refine LeO.bind ?_ (fun _ => ?_)
set_option maxHeartbeats 8000000 in
set_option maxRecDepth 100000 in
theorem waystoneref04_Get.calls (k : Nat) (A0 : Option Addr) (c0 : Nat) (l0 : List (S50)) (a1 : Int) (r1 : Int) (r2 : Bool) (w : World) (hr0 : Kd.C k50 w A0 l0.length l0) (hc0 : l0.length ≤ c0) (h : waystoneref04_Get.f k l0 a1 = some (r1, r2)) :
    Calls Try.prog 18 #[.slice A0 l0.length c0, .int .u64 a1] w fun e w' => e = .returned (.tuple #[.int .i64 r1, .bool r2]) ∧ Drawn0 w w' := by
  have HR0 := Aside0.mk hr0
  have HC0 := Aside0.mk hc0
  clear hr0 hc0
  have H : ((waystoneref04_find.f k l0 a1).bind fun bt153 => (if bt153.2 = true then (if 0 ≤ bt153.1 then (if bt153.1 < (l0.length : Int) then (some ((rd_T50 l0 bt153.1).f1, true)) else (none)) else (none)) else (some (0, false)))) = some (r1, r2) := h
  clear h
  replace H := Option.bind_eq_some_iff.mp H
  obtain ⟨⟨t153, t154⟩, A30, H⟩ := H
  replace H : (if t154 = true then (if 0 ≤ t153 then (if t153 < (l0.length : Int) then (some ((rd_T50 l0 t153).f1, true)) else (none)) else (none)) else (some (0, false))) = some (r1, r2) := H
  have A3 := Aside0.mk A30
  clear A30
  by_cases c4 : t154 = true
  · subst c4
    have H1 : (if 0 ≤ t153 then (if t153 < (l0.length : Int) then (some ((rd_T50 l0 t153).f1, true)) else (none)) else (none)) = some (r1, r2) := by rw [if_pos rfl] at H; exact H
    clear H
    have H := H1
    clear H1
    by_cases c5 : 0 ≤ t153
    · rw [if_pos c5] at H
      have c5b0 : decide (0 ≤ t153) = true := decide_eq_true c5
      clear c5
      by_cases c6 : t153 < (l0.length : Int)
      · rw [if_pos c6] at H
        have c6b0 : decide (t153 < (l0.length : Int)) = true := decide_eq_true c6
        clear c6
        simp only [Option.some.injEq, Prod.mk.injEq] at H
        obtain ⟨rfl, rfl⟩ := H
        go_enter Try.func18, Try.ntmps18
        go_wp2_with (first | ((with_reducible refine gate_callee (f := 34) rfl ?_); refine goesL_ (some 11) rfl rfl Try.func34 (by kernel_rfl) rfl #[.slice A0 l0.length c0, .int .u64 a1] rfl (by (try simp only [List.map_toArray, List.map_cons, List.map_nil]); first | done | rfl | (simp only [List.length_drop, List.length_take]; rfl)) ?_; (with_reducible refine (waystoneref04_find.calls k _ _ l0 a1 t153 true _ ?side1 ?side2 A3.out).mono ?_); (case side1 => repeat (first | exact HR0.out | (with_reducible refine Kd.C_alloc ?_ _) | (with_reducible refine Kd.C_drewN ?_ _) | (with_reducible refine Kd.C_drew ?_))); (case side2 => exact HC0.out); rintro e w' ⟨rfl, ⟨nd, rfl⟩⟩; refine ⟨_, rfl, ?_⟩; have p155 : 0 ≤ (t153 : Int) := of_decide_eq_true (by first | (with_reducible assumption) | assumption); have q155 : t153 < (l0.length : Int) := of_decide_eq_true (by first | (with_reducible assumption) | assumption); obtain ⟨ad155, e155, hx155_0, hx155_1⟩ := at_T50 HR0.out t153 p155 q155; cases e155; replace p155 := eq_true p155; replace q155 := eq_true q155))
        go_ret2
        exact ⟨by first | rfl | (simp; done) | (simp [*]; done), by repeat (first | exact Drawn0.refl _ | apply Drawn0.step)⟩
      · rw [if_neg c6] at H
        exact absurd H (by simp)
    · rw [if_neg c5] at H
      exact absurd H (by simp)
  · replace c4 := Bool.eq_false_iff.mpr c4
    subst c4
    have H1 : (some (0, false)) = some (r1, r2) := by rw [if_neg (show ¬ (false = true) by decide)] at H; exact H
    clear H
    have H := H1
    clear H1
    simp only [Option.some.injEq, Prod.mk.injEq] at H
    obtain ⟨rfl, rfl⟩ := H
    go_enter Try.func18, Try.ntmps18
    go_wp2_with (first | ((with_reducible refine gate_callee (f := 34) rfl ?_); refine goesL_ (some 11) rfl rfl Try.func34 (by kernel_rfl) rfl #[.slice A0 l0.length c0, .int .u64 a1] rfl (by (try simp only [List.map_toArray, List.map_cons, List.map_nil]); first | done | rfl | (simp only [List.length_drop, List.length_take]; rfl)) ?_; (with_reducible refine (waystoneref04_find.calls k _ _ l0 a1 t153 false _ ?side1 ?side2 A3.out).mono ?_); (case side1 => repeat (first | exact HR0.out | (with_reducible refine Kd.C_alloc ?_ _) | (with_reducible refine Kd.C_drewN ?_ _) | (with_reducible refine Kd.C_drew ?_))); (case side2 => exact HC0.out); rintro e w' ⟨rfl, ⟨nd, rfl⟩⟩; refine ⟨_, rfl, ?_⟩))
    go_ret2
    exact ⟨by first | rfl | (simp; done) | (simp [*]; done), by repeat (first | exact Drawn0.refl _ | apply Drawn0.step)⟩

/-! ### waystoneref04_Floor: function 22 -/
def waystoneref04_Floor.f (k : Nat) (l0 : List (S50)) (a1 : Int) : Option (Int) := (waystoneref04_find.f k l0 a1).bind fun bt156 => (if bt156.2 = true then (some bt156.1) else (some (wrap64 (bt156.1 - 1))))
theorem waystoneref04_Floor.mono : ∀ a0 a1 k, LeO (waystoneref04_Floor.f k a0 a1) (waystoneref04_Floor.f (k + 1) a0 a1) := by
  intro a0 a1 k
  unfold waystoneref04_Floor.f
  repeat' first
      | (with_reducible exact waystoneref04_find.mono _ _ _)
      | (with_reducible exact LeO.refl _)
      | (with_reducible exact LeO.none _)
      | (with_reducible refine LeO.ite ?_ ?_)
      | (with_reducible refine LeO.bind ?_ (fun _ => ?_))
      | exact waystoneref04_find.mono _ _ _
      | exact LeO.none _
      | refine LeO.ite ?_ ?_
      | refine LeO.bind ?_ (fun _ => ?_)
set_option maxHeartbeats 8000000 in
set_option maxRecDepth 100000 in
theorem waystoneref04_Floor.calls (k : Nat) (A0 : Option Addr) (c0 : Nat) (l0 : List (S50)) (a1 : Int) (r : Int) (w : World) (hr0 : Kd.C k50 w A0 l0.length l0) (hc0 : l0.length ≤ c0) (h : waystoneref04_Floor.f k l0 a1 = some r) :
    Calls Try.prog 22 #[.slice A0 l0.length c0, .int .u64 a1] w fun e w' => e = .returned (.int .i64 r) ∧ Drawn0 w w' := by
  have HR0 := Aside0.mk hr0
  have HC0 := Aside0.mk hc0
  clear hr0 hc0
  have H : ((waystoneref04_find.f k l0 a1).bind fun bt156 => (if bt156.2 = true then (some bt156.1) else (some (wrap64 (bt156.1 - 1))))) = some r := h
  clear h
  replace H := Option.bind_eq_some_iff.mp H
  obtain ⟨⟨t156, t157⟩, A30, H⟩ := H
  replace H : (if t157 = true then (some t156) else (some (wrap64 (t156 - 1)))) = some r := H
  have A3 := Aside0.mk A30
  clear A30
  by_cases c4 : t157 = true
  · subst c4
    have H1 : (some t156) = some r := by rw [if_pos rfl] at H; exact H
    clear H
    have H := H1
    clear H1
    obtain rfl := Option.some.inj H
    go_enter Try.func22, Try.ntmps22
    go_wp2_with (first | ((with_reducible refine gate_callee (f := 34) rfl ?_); refine goesL_ (some 10) rfl rfl Try.func34 (by kernel_rfl) rfl #[.slice A0 l0.length c0, .int .u64 a1] rfl (by (try simp only [List.map_toArray, List.map_cons, List.map_nil]); first | done | rfl | (simp only [List.length_drop, List.length_take]; rfl)) ?_; (with_reducible refine (waystoneref04_find.calls k _ _ l0 a1 t156 true _ ?side1 ?side2 A3.out).mono ?_); (case side1 => repeat (first | exact HR0.out | (with_reducible refine Kd.C_alloc ?_ _) | (with_reducible refine Kd.C_drewN ?_ _) | (with_reducible refine Kd.C_drew ?_))); (case side2 => exact HC0.out); rintro e w' ⟨rfl, ⟨nd, rfl⟩⟩; refine ⟨_, rfl, ?_⟩))
    go_ret
    exact ⟨by first | rfl | (simp; done) | (simp [*]; done), by repeat (first | exact Drawn0.refl _ | apply Drawn0.step)⟩
  · replace c4 := Bool.eq_false_iff.mpr c4
    subst c4
    have H1 : (some (wrap64 (t156 - 1))) = some r := by rw [if_neg (show ¬ (false = true) by decide)] at H; exact H
    clear H
    have H := H1
    clear H1
    obtain rfl := Option.some.inj H
    go_enter Try.func22, Try.ntmps22
    go_wp2_with (first | ((with_reducible refine gate_callee (f := 34) rfl ?_); refine goesL_ (some 10) rfl rfl Try.func34 (by kernel_rfl) rfl #[.slice A0 l0.length c0, .int .u64 a1] rfl (by (try simp only [List.map_toArray, List.map_cons, List.map_nil]); first | done | rfl | (simp only [List.length_drop, List.length_take]; rfl)) ?_; (with_reducible refine (waystoneref04_find.calls k _ _ l0 a1 t156 false _ ?side1 ?side2 A3.out).mono ?_); (case side1 => repeat (first | exact HR0.out | (with_reducible refine Kd.C_alloc ?_ _) | (with_reducible refine Kd.C_drewN ?_ _) | (with_reducible refine Kd.C_drew ?_))); (case side2 => exact HC0.out); rintro e w' ⟨rfl, ⟨nd, rfl⟩⟩; refine ⟨_, rfl, ?_⟩))
    go_ret
    exact ⟨by first | rfl | (simp; done) | (simp [*]; done), by repeat (first | exact Drawn0.refl _ | apply Drawn0.step)⟩

-- NOT PRINTED: function 4 (waystonelaw04_TreeAsks)

-- NOT PRINTED: function 37 (tree_node_int_all)

-- NOT PRINTED: function 26 (tree_Tree_int_Pairs)

-- NOT PRINTED: function 24 (waystonelaw04_same)

-- NOT PRINTED: function 5 (waystonelaw04_TreePlays)

-- NOT PRINTED: function 6 (waystonelaw04_TreeLasts)

-- NOT PRINTED: function 7 (waystonelaw04_TreeSplit)

-- NOT PRINTED: function 8 (waystonelaw04_TreeNil)

end Go.Proofs.Ytbiccahkniadfaa.P
