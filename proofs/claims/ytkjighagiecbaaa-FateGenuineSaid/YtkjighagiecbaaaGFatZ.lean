/- FatX3, FatX5, FatY, FatZ. -/
import Derived.Test.YtkjighagiecbaaaGEdtW
import Derived.Test.YtkjighagiecbaaaGQx1
/-! ### FatX3 -/
namespace Go.Proofs.Ytkjighagiecbaaa.H
open Go.RowKit Go.Proofs.Ytkjighagiecbaaa.P Go.Proofs.YtkjighagiecbaaaW.PrintWords Go.Proofs.YtkjighagiecbaaaW.PrintLast Go.Proofs.YtkjighagiecbaaaW.PrintMore
set_option linter.unusedVariables false
set_option linter.unusedSimpArgs false
theorem rightQ_f (r : Rul) : Q.rule_Right.f r.f0 r.f1 r.f2 r.f3 r.f4.f0 r.f4.f1 r.f5 = some (okRule r) := rfl
theorem rightR_f (r : Rul) (h : i64 r.f0) : R.waystoneref07_Right.f r.f0 r.f1 r.f2 r.f3 r.f4.f0 r.f4.f1 r.f5 = some (okRule r) := by
  unfold R.waystoneref07_Right.f
  rw [if_pos (show _ ∧ _ from h)]
theorem rd_rule (l : List Rul) (j : Nat) (h : j < l.length) : rd_T62 l (j : Int) = l[j] := by unfold rd_T62; rw [Int.toNat_natCast, List.getD_eq_getElem?_getD, List.getElem?_eq_getElem h]; rfl
def allB (l : List Rul) : Bool := allP okRule 0 l && decide ((l.length : Int) ≤ 40)
theorem allQ_l0 (l : List Rul) (hl : l.length ≤ 9223372036854775807) (d : Nat) : ∀ (j : Nat) (last : Int), j ≤ l.length → l.length - j = d →
    Ev (fun k => Q.rule_All.l0 k l last l (l.length : Int) (j : Int)) (allP okRule last (l.drop j) && decide ((l.length : Int) ≤ 40)) := by
  induction d with
  | zero =>
    intro j last hj hd
    obtain rfl : j = l.length := by omega
    refine Ev.step (fun k => by rw [Q.rule_All.l0]) ?_
    rw [List.drop_length]
    simp only [Int.lt_irrefl, if_false, allP, Bool.true_and]
    exact Ev.now _
  | succ d ih =>
    intro j last hj hd
    have hlt : j < l.length := by omega
    refine Ev.step (fun k => by rw [Q.rule_All.l0]) ?_
    rw [List.drop_eq_getElem_cons hlt, allP]
    simp only [show ((j : Int) < (l.length : Int)) from by omega, show (0 : Int) ≤ (j : Int) from by omega, if_true, rd_rule l j hlt, rightQ_f, Option.bind_some, wrap_up hlt hl]
    cases h : okRule l[j] with
    | false =>
      simp only [Bool.false_eq_true, if_false, Bool.false_and]
      exact Ev.now _
    | true =>
      simp only [if_true, Bool.true_and]
      by_cases c : l[j].f0 ≤ last
      · simp only [if_pos c, decide_eq_false (show ¬ last < l[j].f0 by omega), Bool.false_and]
        exact Ev.now _
      · simp only [if_neg c, decide_eq_true (show last < l[j].f0 by omega), Bool.true_and]
        exact ih (j + 1) l[j].f0 (by omega) (by omega)
theorem allQ_ev (l : List Rul) (hl : l.length ≤ 9223372036854775807) : Ev (fun k => Q.rule_All.f k l) (allB l) := allQ_l0 l hl _ 0 0 (by omega) rfl
def ahd (l : List Rul) : Nat → Option Int
  | 0 => none
  | j + 1 => (l[j]?).map (·.f0)
theorem ahd_succ (l : List Rul) (j : Nat) (h : j < l.length) : ahd l (j + 1) = some l[j].f0 := by
  show (l[j]?).map _ = _
  rw [List.getElem?_eq_getElem h]
  rfl
theorem allR_l0 (l : List Rul) (hl : l.length ≤ 9223372036854775807) (hi : ∀ r ∈ l, i64 r.f0) (d : Nat) : ∀ j : Nat, j ≤ l.length → l.length - j = d →
    Ev (fun k => R.waystoneref07_All.l0 k l (j : Int)) (allD okRule (ahd l j) (l.drop j) && decide ((l.length : Int) ≤ 40)) := by
  induction d with
  | zero =>
    intro j hj hd
    obtain rfl : j = l.length := by omega
    refine Ev.step (fun k => by rw [R.waystoneref07_All.l0]) ?_
    rw [List.drop_length]
    simp only [Int.lt_irrefl, if_false, allD, Bool.true_and]
    exact Ev.now _
  | succ d ih =>
    intro j hj hd
    have hlt : j < l.length := by omega
    have ih := ih (j + 1) (by omega) (by omega)
    have e1 := ahd_succ l j hlt
    rw [e1] at ih
    refine Ev.step (fun k => by rw [R.waystoneref07_All.l0]) ?_
    rw [List.drop_eq_getElem_cons hlt]
    simp only [show ((j : Int) < (l.length : Int)) from by omega, show (0 : Int) ≤ (j : Int) from by omega, if_true, rd_rule l j hlt, rightR_f _ (hi _ (List.getElem_mem hlt)), Option.bind_some, wrap_up hlt hl]
    match j, hlt, ih with
    | 0, hlt, ih =>
      unfold ahd
      rw [allD]
      cases h : okRule l[0] with
      | false =>
        simp only [Bool.false_eq_true, if_false, Bool.false_and]
        exact Ev.now _
      | true =>
        simp only [if_true, Bool.true_and]
        exact ih
    | j + 1, hlt, ih =>
      have e2 := ahd_succ l j (by omega)
      rw [e2, allD]
      have ew : wrap64 (((j + 1 : Nat) : Int) - 1) = (j : Int) := by unfold wrap64; omega
      cases h : okRule l[j + 1] with
      | false =>
        simp only [Bool.false_eq_true, if_false, Bool.false_and]
        exact Ev.now _
      | true =>
        simp only [if_true, Bool.true_and, show ((j + 1 : Nat) : Int) > 0 from by omega, ew, show (0 : Int) ≤ (j : Int) from by omega, show ((j : Int) < (l.length : Int)) from by omega, rd_rule l j (by omega)]
        by_cases c : l[j].f0 ≥ l[j + 1].f0
        · simp only [if_pos c, decide_eq_false (show ¬ l[j].f0 < l[j + 1].f0 by omega), Bool.false_and]
          exact Ev.now _
        · simp only [if_neg c, decide_eq_true (show l[j].f0 < l[j + 1].f0 by omega), Bool.true_and]
          exact ih
theorem okRule_pos (r : Rul) (h : okRule r = true) : 0 < r.f0 := by
  unfold okRule inB at h
  simp only [Bool.and_eq_true, decide_eq_true_iff] at h
  omega
theorem allR_ev (l : List Rul) (hl : l.length ≤ 9223372036854775807) (hi : ∀ r ∈ l, i64 r.f0) : Ev (fun k => R.waystoneref07_All.f k l) (allB l) := by
  have h := allR_l0 l hl hi _ 0 (by omega) rfl
  rw [List.drop_zero] at h
  unfold allB
  rw [all_same okRule okRule_pos]
  exact h
end Go.Proofs.Ytkjighagiecbaaa.H
/-! ### FatX5 -/
namespace Go.Proofs.Ytkjighagiecbaaa.H
open Go.RowKit Go.Proofs.Ytkjighagiecbaaa.P Go.Proofs.YtkjighagiecbaaaW.PrintWords Go.Proofs.YtkjighagiecbaaaW.PrintLast Go.Proofs.YtkjighagiecbaaaW.PrintMore
set_option linter.unusedVariables false
set_option linter.unusedSimpArgs false
set_option maxRecDepth 20000
structure RJ (H : Nat) (A0 : Option Addr) (c0 : Nat) (l0 : List Int) (A1 : Option Addr) (c1 : Nat) (l1 : List S66) (A2 : Option Addr) (c2 : Nat) (l2 : List Rul) (w : World) (pre : List Int) (W : World) : Prop where
  t_ : ∃ v, W.heap[H + 2]? = some (.cells #[v, .int .i64 0, .int .i64 0, .int .i64 0] 35 (0, 0)) ∧ W.ownsRow (H + 3) 3 1 v pre.length (pre.map (Value.int .i64))
  r_ : W.heap[H + 1]? = some (.cells #[.slice none 0 0, .int .i64 0, .int .i64 0, .int .i64 0] 35 (0, 0))
  n_ : W.heap[H]? = some (.cells #[.slice A0 l0.length c0, .slice A1 l1.length c1, .slice A2 l2.length c2] 28 (0, 0))
  bel : Below H w W
  big : H + 3 ≤ W.heap.size
section
variable {A0 : Option Addr} {c0 : Nat} {l0 : List Int} {A1 : Option Addr} {c1 : Nat} {l1 : List S66} {A2 : Option Addr} {c2 : Nat} {l2 : List Rul} {w : World} {H : Nat}
theorem RJ.below {pre : List Int} {W W' : World} (h : RJ H A0 c0 l0 A1 c1 l1 A2 c2 l2 w pre W) (hb : Below W.heap.size W W') : RJ H A0 c0 l0 A1 c1 l1 A2 c2 l2 w pre W' := by
  obtain ⟨⟨v, h1, h2⟩, h3, h4, h5, h6⟩ := h
  exact ⟨⟨v, blk_below h1 hb, row_below h2 hb⟩, blk_below h3 hb, blk_below h4 hb, h5.trans (hb.mono (by omega)), Nat.le_trans h6 hb.size⟩
theorem RJ.push {pre : List Int} {W w1 : World} {v v' : Value} {x : Int} (h : RJ H A0 c0 l0 A1 c1 l1 A2 c2 l2 w pre W)
    (k1 : W.heap[H + 2]? = some (.cells #[v, .int .i64 0, .int .i64 0, .int .i64 0] 35 (0, 0))) (hrow : W.ownsRow (H + 3) 3 1 v pre.length (pre.map (Value.int .i64))) (o : Obj)
    (hown : w1.ownsRow (H + 3) 3 1 v' (pre.length + 1) (pre.map (Value.int .i64) ++ [.int .i64 x])) (hg : (W.alloc o).grownBy w1 v.ownBlock) :
    RJ H A0 c0 l0 A1 c1 l1 A2 c2 l2 w (pre ++ [x]) (w1.setCell ⟨H + 2, 0, none⟩ v') ∧ w1.heap[H + 2]? = some (.cells #[v, .int .i64 0, .int .i64 0, .int .i64 0] 35 (0, 0)) ∧ w1.heap[H + 1]? = some (.cells #[.slice none 0 0, .int .i64 0, .int .i64 0, .int .i64 0] 35 (0, 0)) ∧ (w1.setCell ⟨H + 2, 0, none⟩ v').heap[H + 2]? = some (.cells #[v', .int .i64 0, .int .i64 0, .int .i64 0] 35 (0, 0)) ∧ (w1.setCell ⟨H + 2, 0, none⟩ v').ownsRow (H + 3) 3 1 v' (pre ++ [x]).length ((pre ++ [x]).map (Value.int .i64)) := by
  have hbig := h.big
  have hblk : ∀ k, k < H + 3 → w1.heap[k]? = W.heap[k]? := fun k hk => (hg.block k (by rw [World.size_alloc]; omega) (fun e => by
    obtain ⟨_, ⟨rfl, _⟩ | ⟨g, cap, cur, rfl, h4, _⟩⟩ := hrow
    · cases e
    · simp [Value.ownBlock] at e; omega)).trans (Below.heap_alloc W o k (by omega))
  have hset : ∀ k, k ≠ H + 2 → (w1.setCell ⟨H + 2, 0, none⟩ v').heap[k]? = w1.heap[k]? := fun k hk => Below.heap_setCell w1 _ v' k hk
  have t1 := (hblk (H + 2) (by omega)).trans k1
  have hsz1 : W.heap.size + 1 ≤ w1.heap.size := by have := hg.size; rw [World.size_alloc] at this; exact this
  have hbl0 : Below H w w1 := ((h.bel.alloc (by omega) o).grown hg (by rw [World.size_alloc]; omega) (fun q hq => by
    obtain ⟨_, ⟨rfl, _⟩ | ⟨g, cap, cur, rfl, h4, _⟩⟩ := hrow
    · cases hq
    · simp [Value.ownBlock] at hq; omega))
  have hrow' : (w1.setCell ⟨H + 2, 0, none⟩ v').ownsRow (H + 3) 3 1 v' (pre ++ [x]).length ((pre ++ [x]).map (Value.int .i64)) := by
    rw [List.length_append, List.map_append]
    exact row_far hown fun k hk => hset k (by omega)
  refine ⟨⟨⟨v', blk_set t1 0 v', hrow'⟩, (hset _ (by omega)).trans ((hblk _ (by omega)).trans h.r_), (hset _ (by omega)).trans ((hblk _ (by omega)).trans h.n_), hbl0.setCell (by show H ≤ H + 2; omega) v', ?_⟩, t1, (hblk _ (by omega)).trans h.r_, blk_set t1 0 v', hrow'⟩
  show H + 3 ≤ (w1.heap.modify _ _).size
  rw [Array.size_modify]
  omega
end
end Go.Proofs.Ytkjighagiecbaaa.H
/-! ### FatY -/
namespace Go.Proofs.Ytkjighagiecbaaa.H
open Go.RowKit Go.Proofs.Ytkjighagiecbaaa.P Go.Proofs.YtkjighagiecbaaaW.PrintWords Go.Proofs.YtkjighagiecbaaaW.PrintLast Go.Proofs.YtkjighagiecbaaaW.PrintMore
set_option linter.unusedVariables false
set_option linter.unusedSimpArgs false
theorem rd_at (l : List Int) (j : Nat) (h : j < l.length) : rd l (j : Int) = l[j] := by unfold rd; rw [Int.toNat_natCast, List.getD_eq_getElem?_getD, List.getElem?_eq_getElem h]; rfl
theorem drop_eq_cons {x y : List Int} {j : Nat} (hx : j < x.length) (hy : j < y.length) : decide (x.drop j = y.drop j) = (decide (x[j] = y[j]) && decide (x.drop (j + 1) = y.drop (j + 1))) := by
  rw [List.drop_eq_getElem_cons hx, List.drop_eq_getElem_cons hy, Bool.eq_iff_iff, decide_eq_true_iff, Bool.and_eq_true, decide_eq_true_iff, decide_eq_true_iff, List.cons.injEq]
theorem equalR_l0 (x y : List Int) (hl : x.length = y.length) (h : x.length ≤ 9223372036854775807) (d : Nat) : ∀ j : Nat, j ≤ x.length → x.length - j = d → Ev (fun k => R.slices_Equal_int_int.l0 k x y (x.length : Int) (j : Int)) (decide (x.drop j = y.drop j)) := by
  induction d with
  | zero =>
    intro j hj hd
    obtain rfl : j = x.length := by omega
    refine Ev.step (fun k => by rw [R.slices_Equal_int_int.l0]) ?_
    rw [List.drop_length, hl, List.drop_length]
    simp only [Int.lt_irrefl, if_false, decide_true]
    exact Ev.now _
  | succ d ih =>
    intro j hj hd
    have hlt : j < x.length := by omega
    have ih := ih (j + 1) (by omega) (by omega)
    refine Ev.step (fun k => by rw [R.slices_Equal_int_int.l0]) ?_
    rw [drop_eq_cons hlt (by omega)]
    simp only [show ((j : Int) < (x.length : Int)) from by omega, show (0 : Int) ≤ (j : Int) from by omega, show ((j : Int) < (y.length : Int)) from by omega, if_true, wrap_up hlt h, rd_at x j hlt, rd_at y j (by omega)]
    by_cases c : x[j] = y[j]'(by omega)
    · simp only [if_pos c, decide_eq_true c, Bool.true_and]; exact ih
    · simp only [if_neg c, decide_eq_false c, Bool.false_and]; exact Ev.now _
theorem equalR_ev (x y : List Int) (h : x.length ≤ 9223372036854775807) : Ev (fun k => R.slices_Equal_int_int.f k x y) (decide (x = y)) := by
  unfold R.slices_Equal_int_int.f
  by_cases hl : x.length = y.length
  · simp only [show ((x.length : Int) = (y.length : Int)) from by omega, if_true]
    have := equalR_l0 x y hl h _ 0 (by omega) rfl
    rw [List.drop_zero, List.drop_zero, show ((x.length : Int)) = (y.length : Int) from by omega] at this
    exact this
  · simp only [show ¬ ((x.length : Int) = (y.length : Int)) from by omega, if_false]
    rw [decide_eq_false (fun e => hl (by rw [e]))]
    exact Ev.now _
def sameT (x : List Int) (f a b : Int) (y : List Int) (f' a' b' : Int) : Bool := decide (x = y) && (decide (f = f') && (a == a' && b == b'))
theorem sameP_ev (x : List Int) (f a b : Int) (y : List Int) (f' a' b' : Int) (h : x.length ≤ 9223372036854775807) : Ev (fun k => R.fate_Same.f k x f a b y f' a' b') (sameT x f a b y f' a' b') := by
  unfold R.fate_Same.f sameT
  refine Ev.bind (equalR_ev x y h) ?_
  cases decide (x = y) with
  | false => exact Ev.now _
  | true =>
    by_cases c : f = f'
    · simp only [if_true, if_pos c, decide_eq_true c, Bool.true_and]
      exact Ev.now _
    · simp only [if_true, if_neg c, decide_eq_false c, Bool.false_and, Bool.and_false]
      exact Ev.now _
def rightN (l0 : List Int) (l1 : List S66) (l2 : List Rul) : Bool := rightB l0 l1 && (allB l2 && !l2.any (badR l0))
def idsB (l2 : List Rul) : Bool := l2.all fun r => decide (-9223372036854775808 ≤ r.f0) && decide (r.f0 ≤ 9223372036854775807)
theorem idsB_i64 {l2 : List Rul} (h : idsB l2 = true) : ∀ r ∈ l2, i64 r.f0 := by
  intro r hr
  have := List.all_eq_true.1 h r hr
  simpa [i64] using this
theorem rightQ_ev (l0 : List Int) (l1 : List S66) (l2 : List Rul) (hl : l2.length ≤ 9223372036854775807) : Ev (fun k => Q.fate_Right.f k l0 l1 l2) (rightN l0 l1 l2) := by
  unfold Q.fate_Right.f Q.topo_Right.f Q.topo_Fits.f rightN
  simp only [Option.bind_some]
  cases rightB l0 l1 with
  | false => exact Ev.now _
  | true =>
    simp only [if_true, Bool.true_and]
    refine Ev.bind (allQ_ev l2 hl) ?_
    cases allB l2 with
    | false => exact Ev.now _
    | true => exact Ev.now _
theorem rightR_ev (l0 : List Int) (l1 : List S66) (l2 : List Rul) (h0 : l0.length ≤ 1000) (h1 : l1.length ≤ 1000) (hl : l2.length ≤ 9223372036854775807) (hi : ∀ r ∈ l2, i64 r.f0) : Ev (fun k => R.waystoneref09_Right.f k l0 l1 l2) (rightN l0 l1 l2) := by
  unfold R.waystoneref09_Right.f rightN
  refine Ev.bind (refRight_ev l0 l1 h0 h1) (Ev.bind (allR_ev l2 hl hi) ?_)
  cases rightB l0 l1 with
  | false => exact Ev.now _
  | true =>
    simp only [if_true, Bool.true_and]
    cases allB l2 with
    | false => exact Ev.now _
    | true =>
      simp only [if_true, Bool.true_and]
      exact Ev.bind (refFits_ev l0 l1 l2 hl) (Ev.now _)
theorem rightN_T {l0 : List Int} {l1 : List S66} {l2 : List Rul} (h : rightN l0 l1 l2 = true) : RightT l0 l1 := by
  unfold rightN at h
  rw [Bool.and_eq_true] at h
  exact (right_iff l0 l1).1 h.1
noncomputable def traceF (l0 : List Int) (l1 : List S66) (l2 : List Rul) (d a : Int) : List Int × Int × Int × Int × Int :=
  if d < 0 ∨ (l0.length : Int) ≤ d then ([], 0, 0, 0, 91) else ((trcP l1 l2 a d).1, (trcP l1 l2 a d).2.1, (trcP l1 l2 a d).2.2.1, (trcP l1 l2 a d).2.2.2, 0)
theorem own_R {W : World} {B : Nat} {v : Value} {l : List Int} (h : W.ownsRow B 3 1 v l.length (l.map (Value.int .i64))) : Kd.R (Kd.int .i64) 3 W B (fun _ => True) v l :=
  Kd.R_of_own (enc := Value.int .i64) (h1 := fun _ => rfl) (ok := fun _ => True) h (fun _ _ => trivial)
section
variable {A0 : Option Addr} {c0 : Nat} {l0 : List Int} {A1 : Option Addr} {c1 : Nat} {l1 : List S66} {A2 : Option Addr} {c2 : Nat} {l2 : List Rul}
theorem trace_told (d a : Int) (w : World) (hN : NetAt A0 c0 l0 A1 c1 l1 A2 c2 l2 w) (hl : l2.length * 48 ≤ 140737488355328) (hl1 : l1.length ≤ 4398046511104) :
    Calls Try.prog 8 #[netV A0 c0 l0 A1 c1 l1 A2 c2 l2, .int .i64 d, .int .u32 a] w fun e w' => ∃ v0_ : Value, e = .returned (.tuple #[.agg #[v0_, .int .i64 (traceF l0 l1 l2 d a).2.1, .int .i64 (traceF l0 l1 l2 d a).2.2.1, .int .i64 (traceF l0 l1 l2 d a).2.2.2.1], .int .i64 (traceF l0 l1 l2 d a).2.2.2.2]) ∧ Kd.R (Kd.int .i64) 3 w' w.heap.size (fun _ => True) v0_ (traceF l0 l1 l2 d a).1 ∧ Below w.heap.size w w' := by
  unfold traceF
  by_cases h : d < 0 ∨ (l0.length : Int) ≤ d
  · rw [if_pos h]
    refine (trace_no d a w hN h).mono ?_
    rintro e w' ⟨v, rfl, h1, h2⟩
    exact ⟨v, rfl, own_R h1, h2⟩
  · rw [if_neg h]
    refine (trace_yes d a w hN (by omega) (by omega) hl hl1).mono ?_
    rintro e w' ⟨v, rfl, h1, h2⟩
    exact ⟨v, rfl, own_R h1, h2⟩
end
def sizesN (l1 : List S66) (l2 : List Rul) : Prop := l2.length * 48 ≤ 140737488355328 ∧ l1.length ≤ 4398046511104
end Go.Proofs.Ytkjighagiecbaaa.H
/-! ### FatZ -/
namespace Go.Proofs.Ytkjighagiecbaaa.H
open Go.RowKit Go.Proofs.Ytkjighagiecbaaa.P Go.Proofs.YtkjighagiecbaaaW.PrintWords Go.Proofs.YtkjighagiecbaaaW.PrintLast Go.Proofs.YtkjighagiecbaaaW.PrintMore
set_option linter.unusedVariables false
set_option linter.unusedSimpArgs false
set_option maxRecDepth 20000
def netP : List Int := [2, 3, 2]
def netL : List S66 := [⟨⟨0, 1⟩, ⟨1, 0⟩⟩, ⟨⟨1, 1⟩, ⟨2, 0⟩⟩]
def netR : List Rul := [⟨1, 0, 0, 0, ⟨0, 99⟩, 1⟩, ⟨2, 1, 0, 0, ⟨0, 49⟩, 1⟩, ⟨3, 1, 0, 0, ⟨50, 59⟩, 0⟩, ⟨4, 2, 0, 0, ⟨0, 29⟩, 1⟩, ⟨5, 2, 0, 3, ⟨20, 24⟩, 0⟩]
theorem net_10 : trcP netL netR 10 0 = ([0, 1, 2], 3, (2, 1)) := by
  refine (trcP_tr netL netR 10 0).one (.go (by simp) (by decide) (.go ?_ ?_ ?_))
  · decide
  · decide
  · have h : Tr (stepP netL netR 10) (nxD (nxS netL)) [0, 1] 2 ([0, 1] ++ [2], (stepP netL netR 10 2).1, (stepP netL netR 10 2).2) := .stop (by decide) (by decide)
    rw [show stepP netL netR 10 2 = (3, (2, 1)) by decide] at h
    exact h
theorem net_55 : trcP netL netR 55 0 = ([0, 1, 0], 4, (0, 0)) := by
  refine (trcP_tr netL netR 55 0).one (.go (by simp) (by decide) (.go ?_ ?_ ?_))
  · decide
  · decide
  · exact .loop (by decide)
theorem net_22 : trcP netL netR 22 0 = ([0, 1, 2], 2, (0, 0)) := by
  refine (trcP_tr netL netR 22 0).one (.go (by simp) (by decide) (.go ?_ ?_ ?_))
  · decide
  · decide
  · have h : Tr (stepP netL netR 22) (nxD (nxS netL)) [0, 1] 2 ([0, 1] ++ [2], (stepP netL netR 22 2).1, (stepP netL netR 22 2).2) := .stop (by decide) (by decide)
    rw [show stepP netL netR 22 2 = (2, (0, 0)) by decide] at h
    exact h
theorem net_right : rightN netP netL netR = true := by decide
theorem net_any (w : World) : Calls Try.prog 22 #[] w fun e w' => ∃ A0 c0 A1 c1 A2 c2, e = .returned (netV A0 c0 netP A1 c1 netL A2 c2 netR) ∧ NetAt A0 c0 netP A1 c1 netL A2 c2 netR w' ∧ Below w.heap.size w w' := by
  refine (R.waystonelaw09_Net.calls netP netL netR w rfl).mono ?_
  rintro e w' ⟨v0, v1, v2, rfl, h0, h1, h2, hb⟩
  obtain ⟨A0, c0, rfl, hc0, hr0⟩ := Kd.R_reads h0
  obtain ⟨A1, c1, rfl, hc1, hr1⟩ := Kd.R_reads h1
  obtain ⟨A2, c2, rfl, hc2, hr2⟩ := Kd.R_reads h2
  exact ⟨A0, c0, A1, c1, A2, c2, rfl, ⟨hr0, hc0, hr1, hc1, hr2, hc2⟩, hb⟩
theorem rightQ_any {A0 : Option Addr} {c0 : Nat} {l0 : List Int} {A1 : Option Addr} {c1 : Nat} {l1 : List S66} {A2 : Option Addr} {c2 : Nat} {l2 : List Rul} (w : World) (hN : NetAt A0 c0 l0 A1 c1 l1 A2 c2 l2 w) :
    Calls Try.prog 15 #[netV A0 c0 l0 A1 c1 l1 A2 c2 l2] w fun e w' => e = .returned (.bool (rightN l0 l1 l2)) ∧ Below w.heap.size w w' := by
  obtain ⟨k, hk⟩ := (rightQ_ev l0 l1 l2 (Kd.C_max hN.r2)).rounds
  exact Q.fate_Right.calls k A0 c0 l0 A1 c1 l1 A2 c2 l2 _ w hN.r0 hN.c0 hN.r1 hN.c1 hN.r2 hN.c2 hk
set_option maxHeartbeats 4000000 in
theorem alive_any (w : World) : Calls Try.prog 9 #[] w fun e w' => e = .returned (.bool true) ∧ Below w.heap.size w w' := by
  have huN := Try.underlying28
  have huT := Try.underlying25
  have huR := Try.underlying35
  have huP := Try.underlying33
  go_enter Try.func9, Try.ntmps9
  go_wp2_with fail
  refine (net_any _).mono ?_
  rintro e N1 ⟨A0, c0, A1, c1, A2, c2, rfl, hN, hb⟩
  have hc := trace_told 0 10 N1 hN (by decide) (by decide)
  rw [show traceF netP netL netR 0 10 = ([0, 1, 2], 3, 2, 1, 0) from by unfold traceF; rw [if_neg (by decide), net_10]] at hc
  have HN1 := Aside0.mk hb
  clear hN hb
  go_wp2_with fail
  refine hc.mono ?_
  rintro e T1 ⟨v, rfl, hv, hb⟩
  obtain ⟨B1, e1, rfl, _, _⟩ := Kd.R_reads hv
  have HT1 := Aside0.mk (HN1.out.trans (hb.mono HN1.out.size))
  clear hc hv hb HN1
  simp only [List.length_cons, List.length_nil, Nat.reduceAdd]
  go_wp2_with fail
  have n1 := Aside0.mk (blk_new T1 (.cells #[.slice B1 3 e1, .int .i64 3, .int .i64 2, .int .i64 1] 35))
  have HB1 := Aside0.mk (HT1.out.alloc HT1.out.size (.cells #[.slice B1 3 e1, .int .i64 3, .int .i64 2, .int .i64 1] 35))
  clear HT1
  generalize (T1.alloc (.cells #[.slice B1 3 e1, .int .i64 3, .int .i64 2, .int .i64 1] 35)) = W1 at *
  generalize T1.heap.size = b1 at *
  refine (net_any _).mono ?_
  rintro e N2 ⟨A0, c0, A1, c1, A2, c2, rfl, hN, hb⟩
  have hc := trace_told 0 55 N2 hN (by decide) (by decide)
  rw [show traceF netP netL netR 0 55 = ([0, 1, 0], 4, 0, 0, 0) from by unfold traceF; rw [if_neg (by decide), net_55]] at hc
  have HN2 := Aside0.mk (HB1.out.trans (hb.mono HB1.out.size))
  have k1 := Aside0.mk (blk_below n1.out hb)
  clear HB1 n1
  clear hN hb
  go_wp2_with fail
  refine hc.mono ?_
  rintro e T2 ⟨v, rfl, hv, hb⟩
  obtain ⟨B2, e2, rfl, _, _⟩ := Kd.R_reads hv
  have HT2 := Aside0.mk (HN2.out.trans (hb.mono HN2.out.size))
  have m1 := Aside0.mk (blk_below k1.out hb)
  clear hc hv hb HN2 k1
  simp only [List.length_cons, List.length_nil, Nat.reduceAdd]
  go_wp2_with fail
  have n2 := Aside0.mk (blk_new T2 (.cells #[.slice B2 3 e2, .int .i64 4, .int .i64 0, .int .i64 0] 35))
  have HB2 := Aside0.mk (HT2.out.alloc HT2.out.size (.cells #[.slice B2 3 e2, .int .i64 4, .int .i64 0, .int .i64 0] 35))
  have n1' := Aside0.mk (blk_alloc m1.out (.cells #[.slice B2 3 e2, .int .i64 4, .int .i64 0, .int .i64 0] 35))
  clear HT2 m1
  have n1 := n1'
  clear n1'
  generalize (T2.alloc (.cells #[.slice B2 3 e2, .int .i64 4, .int .i64 0, .int .i64 0] 35)) = W2 at *
  generalize T2.heap.size = b2 at *
  refine (net_any _).mono ?_
  rintro e N3 ⟨A0, c0, A1, c1, A2, c2, rfl, hN, hb⟩
  have hc := trace_told 0 22 N3 hN (by decide) (by decide)
  rw [show traceF netP netL netR 0 22 = ([0, 1, 2], 2, 0, 0, 0) from by unfold traceF; rw [if_neg (by decide), net_22]] at hc
  have HN3 := Aside0.mk (HB2.out.trans (hb.mono HB2.out.size))
  have k1 := Aside0.mk (blk_below n1.out hb)
  have k2 := Aside0.mk (blk_below n2.out hb)
  clear HB2 n1 n2
  clear hN hb
  go_wp2_with fail
  refine hc.mono ?_
  rintro e T3 ⟨v, rfl, hv, hb⟩
  obtain ⟨B3, e3, rfl, _, _⟩ := Kd.R_reads hv
  have HT3 := Aside0.mk (HN3.out.trans (hb.mono HN3.out.size))
  have m1 := Aside0.mk (blk_below k1.out hb)
  have m2 := Aside0.mk (blk_below k2.out hb)
  clear hc hv hb HN3 k1 k2
  simp only [List.length_cons, List.length_nil, Nat.reduceAdd]
  go_wp2_with fail
  have n3 := Aside0.mk (blk_new T3 (.cells #[.slice B3 3 e3, .int .i64 2, .int .i64 0, .int .i64 0] 35))
  have HB3 := Aside0.mk (HT3.out.alloc HT3.out.size (.cells #[.slice B3 3 e3, .int .i64 2, .int .i64 0, .int .i64 0] 35))
  have n1' := Aside0.mk (blk_alloc m1.out (.cells #[.slice B3 3 e3, .int .i64 2, .int .i64 0, .int .i64 0] 35))
  have n2' := Aside0.mk (blk_alloc m2.out (.cells #[.slice B3 3 e3, .int .i64 2, .int .i64 0, .int .i64 0] 35))
  clear HT3 m1 m2
  have n1 := n1'
  clear n1'
  have n2 := n2'
  clear n2'
  generalize (T3.alloc (.cells #[.slice B3 3 e3, .int .i64 2, .int .i64 0, .int .i64 0] 35)) = W3 at *
  generalize T3.heap.size = b3 at *
  refine (net_any _).mono ?_
  rintro e N4 ⟨A0, c0, A1, c1, A2, c2, rfl, hN, hb⟩
  have hc := trace_told 3 22 N4 hN (by decide) (by decide)
  rw [show traceF netP netL netR 3 22 = ([], 0, 0, 0, 91) from by unfold traceF; rw [if_pos (by decide)]] at hc
  have HN4 := Aside0.mk (HB3.out.trans (hb.mono HB3.out.size))
  have k1 := Aside0.mk (blk_below n1.out hb)
  have k2 := Aside0.mk (blk_below n2.out hb)
  have k3 := Aside0.mk (blk_below n3.out hb)
  clear HB3 n1 n2 n3
  clear hN hb
  go_wp2_with fail
  refine hc.mono ?_
  rintro e T4 ⟨v, rfl, hv, hb⟩
  obtain ⟨B4, e4, rfl, _, _⟩ := Kd.R_reads hv
  have HT4 := Aside0.mk (HN4.out.trans (hb.mono HN4.out.size))
  have m1 := Aside0.mk (blk_below k1.out hb)
  have m2 := Aside0.mk (blk_below k2.out hb)
  have m3 := Aside0.mk (blk_below k3.out hb)
  clear hc hv hb HN4 k1 k2 k3
  simp only [List.length_cons, List.length_nil, Nat.reduceAdd]
  go_wp2_with fail
  have HB4 := Aside0.mk (HT4.out.alloc HT4.out.size (.cells #[.slice B4 0 e4, .int .i64 0, .int .i64 0, .int .i64 0] 35))
  have n1 := Aside0.mk (blk_alloc m1.out (.cells #[.slice B4 0 e4, .int .i64 0, .int .i64 0, .int .i64 0] 35))
  have n2 := Aside0.mk (blk_alloc m2.out (.cells #[.slice B4 0 e4, .int .i64 0, .int .i64 0, .int .i64 0] 35))
  have n3 := Aside0.mk (blk_alloc m3.out (.cells #[.slice B4 0 e4, .int .i64 0, .int .i64 0, .int .i64 0] 35))
  clear HT4 m1 m2 m3
  generalize (T4.alloc (.cells #[.slice B4 0 e4, .int .i64 0, .int .i64 0, .int .i64 0] 35)) = W4 at *
  refine (net_any _).mono ?_
  rintro e N5 ⟨A0, c0, A1, c1, A2, c2, rfl, hN, hb⟩
  have hc := rightQ_any (A0 := A0) (c0 := c0) (A1 := A1) (c1 := c1) (A2 := A2) (c2 := c2) N5 hN
  rw [net_right] at hc
  have HN5 := Aside0.mk (HB4.out.trans (hb.mono HB4.out.size))
  have k1 := Aside0.mk (blk_below n1.out hb)
  have k2 := Aside0.mk (blk_below n2.out hb)
  have k3 := Aside0.mk (blk_below n3.out hb)
  clear HB4 n1 n2 n3 hN hb
  go_wp2_with fail
  refine hc.mono ?_
  rintro e T5 ⟨rfl, hb⟩
  have HT5 := Aside0.mk (HN5.out.trans (hb.mono HN5.out.size))
  have q1 := blk_below k1.out hb
  have c1_0 := blk_cell q1 0
  have c1_1 := blk_cell q1 1
  have c1_2 := blk_cell q1 2
  have c1_3 := blk_cell q1 3
  have q2 := blk_below k2.out hb
  have c2_0 := blk_cell q2 0
  have c2_1 := blk_cell q2 1
  have c2_2 := blk_cell q2 2
  have c2_3 := blk_cell q2 3
  have q3 := blk_below k3.out hb
  have c3_0 := blk_cell q3 0
  have c3_1 := blk_cell q3 1
  have c3_2 := blk_cell q3 2
  have c3_3 := blk_cell q3 3
  clear hc hb q1 q2 q3
  go_wp2_with fail
  go_ret
  exact ⟨rfl, HT5.out⟩
end Go.Proofs.Ytkjighagiecbaaa.H
