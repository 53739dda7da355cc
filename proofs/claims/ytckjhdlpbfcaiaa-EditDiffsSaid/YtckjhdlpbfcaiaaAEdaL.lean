/- EdaK, EdaL. -/
import Derived.Test.YtckjhdlpbfcaiaaAEx1
import Derived.Test.YtckjhdlpbfcaiaaAEdtP
import Derived.Test.YtckjhdlpbfcaiaaAEx5
import Derived.Test.YtckjhdlpbfcaiaaAEx10
/-! ### EdaK -/
namespace Go.Proofs.Ytckjhdlpbfcaiaa.H
open Go.RowKit Go.Proofs.Ytckjhdlpbfcaiaa.P Go.Proofs.YtckjhdlpbfcaiaaW.PrintWords Go.Proofs.YtckjhdlpbfcaiaaW.PrintLast Go.Proofs.YtckjhdlpbfcaiaaW.PrintMore
set_option linter.unusedVariables false
set_option linter.unusedSimpArgs false
set_option maxRecDepth 20000
abbrev Edi := S37
theorem rd_edit (l : List Edi) (j : Nat) (h : j < l.length) : rd_T37 l (j : Int) = l[j] := by unfold rd_T37; rw [Int.toNat_natCast, List.getD_eq_getElem?_getD, List.getElem?_eq_getElem h]; rfl
theorem rightE_f (r : Rul) (h : i64 r.f0) : E.waystoneref07_Right.f r.f0 r.f1 r.f2 r.f3 r.f4.f0 r.f4.f1 r.f5 = some (okRule r) := by
  unfold E.waystoneref07_Right.f
  rw [if_pos (show _ ∧ _ from h)]
def allB (l : List Rul) : Bool := allP okRule 0 l && decide ((l.length : Int) ≤ 40)
def ahd (l : List Rul) : Nat → Option Int
  | 0 => none
  | j + 1 => (l[j]?).map (·.f0)
theorem ahd_succ (l : List Rul) (j : Nat) (h : j < l.length) : ahd l (j + 1) = some l[j].f0 := by
  show (l[j]?).map _ = _
  rw [List.getElem?_eq_getElem h]
  rfl
theorem allR_l0 (l : List Rul) (hl : l.length ≤ 9223372036854775807) (hi : ∀ r ∈ l, i64 r.f0) (d : Nat) : ∀ j : Nat, j ≤ l.length → l.length - j = d →
    Ev (fun k => E.waystoneref07_All.l0 k l (j : Int)) (allD okRule (ahd l j) (l.drop j) && decide ((l.length : Int) ≤ 40)) := by
  induction d with
  | zero =>
    intro j hj hd
    obtain rfl : j = l.length := by omega
    refine Ev.step (fun k => by rw [E.waystoneref07_All.l0]) ?_
    rw [List.drop_length]
    simp only [Int.lt_irrefl, if_false, allD, Bool.true_and]
    exact Ev.now _
  | succ d ih =>
    intro j hj hd
    have hlt : j < l.length := by omega
    have ih := ih (j + 1) (by omega) (by omega)
    have e1 := ahd_succ l j hlt
    rw [e1] at ih
    refine Ev.step (fun k => by rw [E.waystoneref07_All.l0]) ?_
    rw [List.drop_eq_getElem_cons hlt]
    simp only [show ((j : Int) < (l.length : Int)) from by omega, show (0 : Int) ≤ (j : Int) from by omega, if_true, rd_rule l j hlt, rightE_f _ (hi _ (List.getElem_mem hlt)), Option.bind_some, wrap_up hlt hl]
    match j, hlt, ih with
    | 0, hlt, ih =>
      unfold ahd
      rw [allD]
      cases h : okRule l[0] with
      | false =>
        simp only [Bool.false_eq_true, if_false, Bool.false_and]
        exact Ev.now _
      | true =>
        simp only [if_true, Bool.true_and]
        exact ih
    | j + 1, hlt, ih =>
      have e2 := ahd_succ l j (by omega)
      rw [e2, allD]
      have ew : wrap64 (((j + 1 : Nat) : Int) - 1) = (j : Int) := by unfold wrap64; omega
      cases h : okRule l[j + 1] with
      | false =>
        simp only [Bool.false_eq_true, if_false, Bool.false_and]
        exact Ev.now _
      | true =>
        simp only [if_true, Bool.true_and, show ((j + 1 : Nat) : Int) > 0 from by omega, ew, show (0 : Int) ≤ (j : Int) from by omega, show ((j : Int) < (l.length : Int)) from by omega, rd_rule l j (by omega)]
        by_cases c : l[j].f0 ≥ l[j + 1].f0
        · simp only [if_pos c, decide_eq_false (show ¬ l[j].f0 < l[j + 1].f0 by omega), Bool.false_and]
          exact Ev.now _
        · simp only [if_neg c, decide_eq_true (show l[j].f0 < l[j + 1].f0 by omega), Bool.true_and]
          exact ih
theorem allR_ev (l : List Rul) (hl : l.length ≤ 9223372036854775807) (hi : ∀ r ∈ l, i64 r.f0) : Ev (fun k => E.waystoneref07_All.f k l) (allB l) := by
  have h := allR_l0 l hl hi _ 0 (by omega) rfl
  rw [List.drop_zero] at h
  unfold allB
  rw [all_same okRule okRule_pos]
  exact h
theorem fits_ev (l : List Rul) (hi : ∀ r ∈ l, i64 r.f0) : Ev (fun k => E.waystonelaw14_Fits.f k l) (decide (l.length ≤ 60) && allB l) := by
  unfold E.waystonelaw14_Fits.f
  by_cases h : l.length ≤ 60
  · have h2 : (l.length : Int) ≤ 60 := by omega
    simp only [if_pos h2, decide_eq_true h, Bool.true_and]
    exact Ev.bind (allR_ev l (by omega) hi) (Ev.now _)
  · have h2 : ¬ (l.length : Int) ≤ 60 := by omega
    simp only [if_neg h2, decide_eq_false h, Bool.false_and]
    exact Ev.now _
theorem fits_good {l : List Rul} (h : (decide (l.length ≤ 60) && allB l) = true) : GoodL 40 okRule l := by
  rw [Bool.and_eq_true] at h
  unfold allB at h
  rw [Bool.and_eq_true, decide_eq_true_iff] at h
  exact all_good h.2.1 (by have := of_decide_eq_true h.2.2; omega)
theorem alive_ev : Ev (fun k => E.waystonelaw14_alive.f k) true := Ev.of E.waystonelaw14_alive.mono (k := 30) (by kernel_rfl)
theorem same_rules (l : List Rul) (hl : l.length ≤ 9223372036854775807) : Ev (fun k => E.waystoneref07_Same.f k l l) true := by
  have h : ∀ d j : Nat, j ≤ l.length → l.length - j = d → Ev (fun k => E.waystoneref07_Same.l0 k l l (j : Int)) true := by
    intro d
    induction d with
    | zero =>
      intro j hj hd
      obtain rfl : j = l.length := by omega
      refine Ev.step (fun k => by rw [E.waystoneref07_Same.l0]) ?_
      simp only [Int.lt_irrefl, if_false]
      exact Ev.now _
    | succ d ih =>
      intro j hj hd
      have hlt : j < l.length := by omega
      refine Ev.step (fun k => by rw [E.waystoneref07_Same.l0]) ?_
      simp only [show ((j : Int) < (l.length : Int)) from by omega, show (0 : Int) ≤ (j : Int) from by omega, if_true, beq_self_eq_true, Bool.not_true, Bool.or_false, Bool.false_eq_true, if_false, wrap_up hlt hl]
      exact ih (j + 1) (by omega) (by omega)
  unfold E.waystoneref07_Same.f
  simp only [if_true]
  exact h _ 0 (Nat.zero_le _) rfl
theorem same_edits (l : List Edi) (hl : l.length ≤ 9223372036854775807) : Ev (fun k => E.waystoneref14_Same.f k l l) true := by
  have h : ∀ d j : Nat, j ≤ l.length → l.length - j = d → Ev (fun k => E.waystoneref14_Same.l0 k l l (j : Int)) true := by
    intro d
    induction d with
    | zero =>
      intro j hj hd
      obtain rfl : j = l.length := by omega
      refine Ev.step (fun k => by rw [E.waystoneref14_Same.l0]) ?_
      simp only [Int.lt_irrefl, if_false]
      exact Ev.now _
    | succ d ih =>
      intro j hj hd
      have hlt : j < l.length := by omega
      refine Ev.step (fun k => by rw [E.waystoneref14_Same.l0]) ?_
      simp only [show ((j : Int) < (l.length : Int)) from by omega, show (0 : Int) ≤ (j : Int) from by omega, if_true, beq_self_eq_true, Bool.not_true, Bool.or_false, Bool.false_eq_true, if_false, wrap_up hlt hl]
      exact ih (j + 1) (by omega) (by omega)
  unfold E.waystoneref14_Same.f
  simp only [if_true]
  exact h _ 0 (Nat.zero_le _) rfl
def ed (e : Int × Rul) : Edi := ⟨e.1, e.2⟩
theorem ne_rule (a b : Rul) : (!(a.f0 == b.f0) || (!(a.f1 == b.f1) || (!(a.f2 == b.f2) || (!(a.f3 == b.f3) || ((!(a.f4.f0 == b.f4.f0) || (!(a.f4.f1 == b.f4.f1))) || (!(a.f5 == b.f5))))))) = true ↔ a ≠ b := by
  obtain ⟨a0, a1, a2, a3, ⟨a4, a5⟩, a6⟩ := a
  obtain ⟨b0, b1, b2, b3, ⟨b4, b5⟩, b6⟩ := b
  simp only [Bool.or_eq_true, Bool.not_eq_true', beq_eq_false_iff_ne, ne_eq]
  constructor
  · intro h e
    injection e with e0 e1 e2 e3 e4 e5
    injection e4 with e41 e42
    omega
  · intro h
    by_cases c : a0 = b0 ∧ a1 = b1 ∧ a2 = b2 ∧ a3 = b3 ∧ a4 = b4 ∧ a5 = b5 ∧ a6 = b6
    · obtain ⟨rfl, rfl, rfl, rfl, rfl, rfl, rfl⟩ := c
      exact absurd rfl h
    · omega
theorem rd0 (x : Rul) (l : List Rul) : rd_T35 (x :: l) 0 = x := rfl
theorem diffE_l0 : ∀ (x y : List Rul) (acc : List Edi), x.length + y.length ≤ 100000 → acc.length + x.length + y.length ≤ 100000 → Ev (fun k => E.edit_Diff.l0 k x y acc) (acc ++ (diffS x y).map ed)
  | [], [], acc, h, ha => by
    refine Ev.step (fun k => by rw [E.edit_Diff.l0, if_neg (by simp [wrap64])]) ?_
    rw [diffS, List.map_nil, List.append_nil]
    exact Ev.now _
  | x :: l, [], acc, h, ha => by
    have ih := diffE_l0 l [] (acc ++ [ed (1, x)]) (by simp at h ⊢; omega) (by simp at ha ⊢; omega)
    simp only [List.length_cons, List.length_nil] at h ha
    have hw : wrap64 (((x :: l).length : Int) + (([] : List Rul).length : Int)) > 0 := by simp only [List.length_cons, List.length_nil]; unfold wrap64; omega
    have h1 : 0 < ((x :: l).length : Int) := by simp only [List.length_cons]; omega
    have h2 : 1 ≤ ((x :: l).length : Int) := by omega
    have h3 : acc.length < 2513169434916 := by omega
    refine Ev.step (fun k => by rw [E.edit_Diff.l0, if_pos hw, if_pos (show (([] : List Rul).length : Int) = 0 from rfl)]) ?_
    refine Ev.step (fun k => by rw [E.edit_Diff.j1, if_pos rfl, if_pos h1, if_pos h3, if_pos h2]) ?_
    rw [diffS, List.map_cons]
    rw [List.append_assoc, List.singleton_append] at ih
    exact ih
  | [], y :: m, acc, h, ha => by
    have ih := diffE_l0 [] m (acc ++ [ed (0, y)]) (by simp at h ⊢; omega) (by simp at ha ⊢; omega)
    simp only [List.length_cons, List.length_nil] at h ha
    have hw : wrap64 ((([] : List Rul).length : Int) + ((y :: m).length : Int)) > 0 := by simp only [List.length_cons, List.length_nil]; unfold wrap64; omega
    have h1 : 0 < ((y :: m).length : Int) := by simp only [List.length_cons]; omega
    have h0 : ¬ ((y :: m).length : Int) = 0 := by omega
    have h2 : 1 ≤ ((y :: m).length : Int) := by omega
    have h3 : acc.length < 2513169434916 := by omega
    refine Ev.step (fun k => by rw [E.edit_Diff.l0, if_pos hw, if_neg h0, if_neg (by decide)]) ?_
    refine Ev.step (fun k => by rw [E.edit_Diff.j1, if_neg (by decide), if_pos (show (([] : List Rul).length : Int) = 0 from rfl)]) ?_
    refine Ev.step (fun k => by rw [E.edit_Diff.j2, if_pos rfl, if_pos h1, if_pos h3, if_pos h2]) ?_
    rw [diffS, List.map_cons]
    rw [List.append_assoc, List.singleton_append] at ih
    exact ih
  | x :: l, y :: m, acc, h, ha => by
    have ih1 := diffE_l0 l (y :: m) (acc ++ [ed (1, x)]) (by simp at h ⊢; omega) (by simp at ha ⊢; omega)
    have ih2 := diffE_l0 (x :: l) m (acc ++ [ed (0, y)]) (by simp at h ⊢; omega) (by simp at ha ⊢; omega)
    have ih3 := diffE_l0 l m (acc ++ [ed (2, y)]) (by simp at h ⊢; omega) (by simp at ha ⊢; omega)
    have ih4 := diffE_l0 l m acc (by simp at h ⊢; omega) (by simp at ha ⊢; omega)
    simp only [List.length_cons] at h ha
    have hw : wrap64 (((x :: l).length : Int) + ((y :: m).length : Int)) > 0 := by simp only [List.length_cons]; unfold wrap64; omega
    have h1 : 0 < ((y :: m).length : Int) := by simp only [List.length_cons]; omega
    have h0 : ¬ ((y :: m).length : Int) = 0 := by omega
    have h2 : 1 ≤ ((y :: m).length : Int) := by omega
    have g1 : 0 < ((x :: l).length : Int) := by simp only [List.length_cons]; omega
    have g2 : 1 ≤ ((x :: l).length : Int) := by omega
    have g0 : ¬ ((x :: l).length : Int) = 0 := by omega
    have h3 : acc.length < 2513169434916 := by omega
    refine Ev.step (fun k => by rw [E.edit_Diff.l0, if_pos hw, if_neg h0, if_pos g1, if_pos g1, if_pos h1, rd0, rd0]) ?_
    rw [diffS]
    by_cases c1 : x.f0 < y.f0
    · rw [if_pos c1, List.map_cons]
      refine Ev.step (fun k => by rw [E.edit_Diff.j1, if_pos (decide_eq_true c1), if_pos g1, if_pos h3, if_pos g2]) ?_
      rw [List.append_assoc, List.singleton_append] at ih1
      exact ih1
    · rw [if_neg c1]
      refine Ev.step (fun k => by rw [E.edit_Diff.j1, if_neg (by rw [decide_eq_true_eq]; exact c1), if_neg g0, if_pos h1, if_pos g1, rd0, rd0]) ?_
      by_cases c2 : y.f0 < x.f0
      · rw [if_pos c2, List.map_cons]
        refine Ev.step (fun k => by rw [E.edit_Diff.j2, if_pos (decide_eq_true c2), if_pos h1, if_pos h3, if_pos h2]) ?_
        rw [List.append_assoc, List.singleton_append] at ih2
        exact ih2
      · rw [if_neg c2]
        by_cases c3 : x = y
        · rw [if_pos c3]
          refine Ev.step (fun k => by rw [E.edit_Diff.j2, if_neg (by rw [decide_eq_true_eq]; exact c2), if_pos g1, if_pos h1, rd0, rd0, if_neg (fun q => (ne_rule x y).1 q c3), if_pos g2, if_pos h2]) ?_
          exact ih4
        · rw [if_neg c3, List.map_cons]
          refine Ev.step (fun k => by rw [E.edit_Diff.j2, if_neg (by rw [decide_eq_true_eq]; exact c2), if_pos g1, if_pos h1, rd0, rd0, if_pos ((ne_rule x y).2 c3), if_pos h3, if_pos g2, if_pos h2]) ?_
          rw [List.append_assoc, List.singleton_append] at ih3
          exact ih3
termination_by x y => x.length + y.length
theorem diffE_ev (x y : List Rul) (h : x.length + y.length ≤ 100000) : Ev (fun k => E.edit_Diff.f k x y) ((diffS x y).map ed) := diffE_l0 x y [] h (by simpa using h)
end Go.Proofs.Ytckjhdlpbfcaiaa.H
/-! ### EdaL -/
namespace Go.Proofs.Ytckjhdlpbfcaiaa.H
open Go.RowKit Go.Proofs.Ytckjhdlpbfcaiaa.P Go.Proofs.YtckjhdlpbfcaiaaW.PrintWords Go.Proofs.YtckjhdlpbfcaiaaW.PrintLast Go.Proofs.YtckjhdlpbfcaiaaW.PrintMore
set_option linter.unusedVariables false
set_option linter.unusedSimpArgs false
set_option maxRecDepth 20000
theorem put_l1 (l : List Rul) (r : Rul) (hl : l.length ≤ 100000) (d : Nat) : ∀ (j : Nat) (acc : List Rul), j ≤ l.length → l.length - j = d → acc.length ≤ 200000 + j →
    Ev (fun k => E.waystoneref14_put.l1 k l acc (j : Int) r.f0 r.f1 r.f2 r.f3 r.f4.f0 r.f4.f1 r.f5) (acc ++ (l.drop j).filter (fun x => decide (r.f0 < x.f0))) := by
  induction d with
  | zero =>
    intro j acc hj hd ha
    obtain rfl : j = l.length := by omega
    refine Ev.step (fun k => by rw [E.waystoneref14_put.l1, if_neg (by omega)]) ?_
    rw [List.drop_length, List.filter_nil, List.append_nil]
    exact Ev.now _
  | succ d ih =>
    intro j acc hj hd ha
    have hlt : j < l.length := by omega
    rw [List.drop_eq_getElem_cons hlt, List.filter_cons]
    by_cases c : r.f0 < l[j].f0
    · refine Ev.step (fun k => by rw [E.waystoneref14_put.l1, if_pos (by omega), if_pos (by omega), rd_rule l j hlt, if_pos c, if_pos (by omega), wrap_up hlt (by omega)]) ?_
      rw [if_pos (by simpa using c)]
      have := ih (j + 1) (acc ++ [l[j]]) (by omega) (by omega) (by simp; omega)
      rw [List.append_assoc, List.singleton_append] at this
      exact this
    · refine Ev.step (fun k => by rw [E.waystoneref14_put.l1, if_pos (by omega), if_pos (by omega), rd_rule l j hlt, if_neg c, wrap_up hlt (by omega)]) ?_
      rw [if_neg (by simpa using c)]
      exact ih (j + 1) acc (by omega) (by omega) (by omega)
theorem put_j1 (l : List Rul) (r : Rul) (hl : l.length ≤ 100000) (acc : List Rul) (ha : acc.length ≤ 100000) :
    Ev (fun k => E.waystoneref14_put.j1 k l acc r.f0 r.f1 r.f2 r.f3 r.f4.f0 r.f4.f1 r.f5) (acc ++ r :: l.filter (fun x => decide (r.f0 < x.f0))) := by
  refine Ev.step (fun k => by rw [E.waystoneref14_put.j1, if_pos (by omega)]) ?_
  have := put_l1 l r hl _ 0 (acc ++ [r]) (Nat.zero_le _) rfl (by simp; omega)
  rw [List.drop_zero, List.append_assoc, List.singleton_append] at this
  exact this
theorem put_l0 (l : List Rul) (r : Rul) (hl : l.length ≤ 100000) (d : Nat) : ∀ (j : Nat) (acc : List Rul), j ≤ l.length → l.length - j = d → acc.length ≤ j →
    Ev (fun k => E.waystoneref14_put.l0 k l acc (j : Int) r.f0 r.f1 r.f2 r.f3 r.f4.f0 r.f4.f1 r.f5) (acc ++ (l.drop j).takeWhile (fun x => decide (x.f0 < r.f0)) ++ r :: l.filter (fun x => decide (r.f0 < x.f0))) := by
  induction d with
  | zero =>
    intro j acc hj hd ha
    obtain rfl : j = l.length := by omega
    refine Ev.step (fun k => by rw [E.waystoneref14_put.l0, if_neg (by omega)]) ?_
    rw [List.drop_length, List.takeWhile_nil, List.append_nil]
    exact put_j1 l r hl acc (by omega)
  | succ d ih =>
    intro j acc hj hd ha
    have hlt : j < l.length := by omega
    rw [List.drop_eq_getElem_cons hlt, List.takeWhile_cons]
    by_cases c : l[j].f0 < r.f0
    · refine Ev.step (fun k => by rw [E.waystoneref14_put.l0, if_pos (by omega), if_pos (by omega), rd_rule l j hlt, if_pos c, if_pos (by omega), wrap_up hlt (by omega)]) ?_
      rw [if_pos (by simpa using c)]
      have := ih (j + 1) (acc ++ [l[j]]) (by omega) (by omega) (by simp; omega)
      rw [List.append_assoc acc, List.singleton_append] at this
      exact this
    · refine Ev.step (fun k => by rw [E.waystoneref14_put.l0, if_pos (by omega), if_pos (by omega), rd_rule l j hlt, if_neg c]) ?_
      rw [if_neg (by simpa using c), List.append_nil]
      exact put_j1 l r hl acc (by omega)
theorem put_ev (l : List Rul) (r : Rul) (hl : l.length ≤ 100000) (h : Rising l) : Ev (fun k => E.waystoneref14_put.f k l r.f0 r.f1 r.f2 r.f3 r.f4.f0 r.f4.f1 r.f5) (putK l r) := by
  have := put_l0 l r hl _ 0 [] (Nat.zero_le _) rfl (Nat.le_refl _)
  rw [List.drop_zero, List.nil_append, put_doc h] at this
  exact this
def tupR (o : Option Rul) : Int × Int × Int × Int × Int × Int × Int × Bool := ((o.getD z35).f0, (o.getD z35).f1, (o.getD z35).f2, (o.getD z35).f3, (o.getD z35).f4.f0, (o.getD z35).f4.f1, (o.getD z35).f5, o.isSome)
theorem find_l0 (l : List Rul) (id : Int) (hl : l.length ≤ 9223372036854775807) (d : Nat) : ∀ j : Nat, j ≤ l.length → l.length - j = d → Ev (fun k => E.waystoneref07_Find.l0 k l id (j : Int)) (tupR (findK (l.drop j) id)) := by
  induction d with
  | zero =>
    intro j hj hd
    obtain rfl : j = l.length := by omega
    refine Ev.step (fun k => by rw [E.waystoneref07_Find.l0, if_neg (by omega)]) ?_
    rw [List.drop_length]
    exact Ev.now _
  | succ d ih =>
    intro j hj hd
    have hlt : j < l.length := by omega
    rw [List.drop_eq_getElem_cons hlt, findK_cons]
    by_cases c : l[j].f0 = id
    · refine Ev.step (fun k => by rw [E.waystoneref07_Find.l0, if_pos (by omega), if_pos (by omega), rd_rule l j hlt, if_pos c]) ?_
      rw [if_pos c]
      exact Ev.now _
    · refine Ev.step (fun k => by rw [E.waystoneref07_Find.l0, if_pos (by omega), if_pos (by omega), rd_rule l j hlt, if_neg c, wrap_up hlt hl]) ?_
      rw [if_neg c]
      exact ih (j + 1) (by omega) (by omega)
theorem find_ev (l : List Rul) (id : Int) (hl : l.length ≤ 9223372036854775807) : Ev (fun k => E.waystoneref07_Find.f k l id) (tupR (findK l id)) := find_l0 l id hl _ 0 (Nat.zero_le _) rfl
theorem fold_len : ∀ (y x : List Rul), (y.foldl putK x).length ≤ x.length + y.length
  | [], x => by simp
  | r :: y, x => by
    have h1 := fold_len y (putK x r)
    have h2 := len_put x r
    rw [List.foldl_cons, List.length_cons]
    omega
theorem ids_l1 (a : List Rul) (ha : a.length ≤ 100000) (d : Nat) : ∀ (j : Nat) (acc : List Int), j ≤ a.length → a.length - j = d → acc.length ≤ j → Ev (fun k => E.waystoneref14_ids.l1 k a acc (j : Int)) (acc ++ (a.drop j).map (·.f0)) := by
  induction d with
  | zero =>
    intro j acc hj hd hc
    obtain rfl : j = a.length := by omega
    refine Ev.step (fun k => by rw [E.waystoneref14_ids.l1, if_neg (by omega)]) ?_
    rw [List.drop_length, List.map_nil, List.append_nil]
    exact Ev.now _
  | succ d ih =>
    intro j acc hj hd hc
    have hlt : j < a.length := by omega
    refine Ev.step (fun k => by rw [E.waystoneref14_ids.l1, if_pos (by omega), if_pos (by omega), if_pos (by omega), rd_rule a j hlt, wrap_up hlt (by omega)]) ?_
    rw [List.drop_eq_getElem_cons hlt, List.map_cons]
    have := ih (j + 1) (acc ++ [a[j].f0]) (by omega) (by omega) (by simp; omega)
    rw [List.append_assoc, List.singleton_append] at this
    exact this
theorem ids_l0 (y : List Rul) (hy : y.length ≤ 1000) (d : Nat) : ∀ (j : Nat) (a : List Rul), j ≤ y.length → y.length - j = d → Rising a → a.length ≤ 10000 + j → Ev (fun k => E.waystoneref14_ids.l0 k y a (j : Int)) (((y.drop j).foldl putK a).map (·.f0)) := by
  induction d with
  | zero =>
    intro j a hj hd ha hc
    obtain rfl : j = y.length := by omega
    refine Ev.step (fun k => by rw [E.waystoneref14_ids.l0, if_neg (by omega)]) ?_
    rw [List.drop_length, List.foldl_nil]
    have := ids_l1 a (by omega) _ 0 [] (Nat.zero_le _) rfl (Nat.le_refl _)
    rwa [List.drop_zero, List.nil_append] at this
  | succ d ih =>
    intro j a hj hd ha hc
    have hlt : j < y.length := by omega
    refine Ev.step (fun k => by rw [E.waystoneref14_ids.l0, if_pos (by omega), if_pos (by omega), rd_rule y j hlt, wrap_up hlt (by omega)]) ?_
    rw [List.drop_eq_getElem_cons hlt, List.foldl_cons]
    refine Ev.bind (put_ev a y[j] (by omega) ha) ?_
    have h2 := len_put a y[j]
    exact ih (j + 1) (putK a y[j]) (by omega) (by omega) (rising_put ha _) (by omega)
theorem ids_ev (x y : List Rul) (hx : x.length ≤ 1000) (hy : y.length ≤ 1000) (h : Rising x) : Ev (fun k => E.waystoneref14_ids.f k x y) (idsS x y) := by
  unfold E.waystoneref14_ids.f
  have h0 : ([] : List Rul).length + x.length < 2932031007402 := by simp; omega
  simp only [if_pos h0]
  rw [List.nil_append]
  have := ids_l0 y hy _ 0 x (Nat.zero_le _) rfl h (by omega)
  rwa [List.drop_zero] at this
theorem ne_tup (a b : Rul) : (!((tupR (some a)).1 == (tupR (some b)).1) || (!((tupR (some a)).2.1 == (tupR (some b)).2.1) || (!((tupR (some a)).2.2.1 == (tupR (some b)).2.2.1) || (!((tupR (some a)).2.2.2.1 == (tupR (some b)).2.2.2.1) || ((!((tupR (some a)).2.2.2.2.1 == (tupR (some b)).2.2.2.2.1) || (!((tupR (some a)).2.2.2.2.2.1 == (tupR (some b)).2.2.2.2.2.1))) || (!((tupR (some a)).2.2.2.2.2.2.1 == (tupR (some b)).2.2.2.2.2.2.1))))))) = true ↔ a ≠ b := ne_rule a b
theorem rdI (l : List Int) (j : Nat) (h : j < l.length) : rd l (j : Int) = l[j] := by unfold rd; rw [Int.toNat_natCast, List.getD_eq_getElem?_getD, List.getElem?_eq_getElem h]; rfl
theorem diffD_l0 (x y : List Rul) (hx : x.length ≤ 1000) (hy : y.length ≤ 1000) (s : List Int) (hs : s.length ≤ 100000) (d : Nat) : ∀ (j : Nat) (acc : List Edi), j ≤ s.length → s.length - j = d → acc.length ≤ j →
    Ev (fun k => E.waystoneref14_Diff.l0 k x y acc s (j : Int)) (acc ++ ((s.drop j).filterMap (fun id => cellK (findK x id) (findK y id))).map ed) := by
  induction d with
  | zero =>
    intro j acc hj hd hc
    obtain rfl : j = s.length := by omega
    refine Ev.step (fun k => by rw [E.waystoneref14_Diff.l0, if_neg (by omega)]) ?_
    rw [List.drop_length, List.filterMap_nil, List.map_nil, List.append_nil]
    exact Ev.now _
  | succ d ih =>
    intro j acc hj hd hc
    have hlt : j < s.length := by omega
    have hlen : acc.length < 2513169434916 := by omega
    have hw : wrap64 ((j : Int) + 1) = ((j + 1 : Nat) : Int) := wrap_up hlt (by omega)
    have next : ∀ e : Edi, Ev (fun k => E.waystoneref14_Diff.l0 k x y (acc ++ [e]) s ((j + 1 : Nat) : Int)) (acc ++ e :: ((s.drop (j + 1)).filterMap (fun id => cellK (findK x id) (findK y id))).map ed) := fun e => by
      have := ih (j + 1) (acc ++ [e]) (by omega) (by omega) (by simp; omega)
      rwa [List.append_assoc, List.singleton_append] at this
    have stay := ih (j + 1) acc (by omega) (by omega) (by omega)
    refine Ev.step (fun k => by rw [E.waystoneref14_Diff.l0, if_pos (by omega), if_pos (by omega), rdI s j hlt]) ?_
    rw [List.drop_eq_getElem_cons hlt, List.filterMap_cons]
    refine Ev.bind (find_ev x s[j] (by omega)) (Ev.bind (find_ev y s[j] (by omega)) ?_)
    cases hp : findK x s[j] with
    | none =>
      cases hq : findK y s[j] with
      | none =>
        refine Ev.congr (fun k => if_neg (by decide)) ?_
        refine Ev.step (fun k => by rw [E.waystoneref14_Diff.j1, if_neg (by decide)]) ?_
        refine Ev.step (fun k => by rw [E.waystoneref14_Diff.j2, if_neg (show ¬ ((tupR (none : Option Rul)).2.2.2.2.2.2.2 = true) from by decide)]) ?_
        refine Ev.step (fun k => by rw [E.waystoneref14_Diff.j3, if_neg (show ¬ ((tupR (none : Option Rul)).2.2.2.2.2.2.2 = true) from by decide), if_neg (show ¬ ((tupR (none : Option Rul)).2.2.2.2.2.2.2 = true) from by decide), hw]) ?_
        exact stay
      | some b =>
        refine Ev.congr (fun k => if_neg (by decide)) ?_
        refine Ev.step (fun k => by rw [E.waystoneref14_Diff.j1, if_neg (by decide)]) ?_
        refine Ev.step (fun k => by rw [E.waystoneref14_Diff.j2, if_neg (show ¬ ((tupR (none : Option Rul)).2.2.2.2.2.2.2 = true) from by decide)]) ?_
        refine Ev.step (fun k => by rw [E.waystoneref14_Diff.j3, if_pos (show (tupR (some b)).2.2.2.2.2.2.2 = true from rfl), if_pos hlen, Option.bind_some, if_neg (show ¬ ((tupR (none : Option Rul)).2.2.2.2.2.2.2 = true) from by decide), hw]) ?_
        exact next (ed (0, b))
    | some a =>
      cases hq : findK y s[j] with
      | none =>
        refine Ev.congr (fun k => if_pos rfl) ?_
        refine Ev.step (fun k => by rw [E.waystoneref14_Diff.j1, if_pos (show (!(tupR (none : Option Rul)).2.2.2.2.2.2.2) = true from rfl), if_pos hlen]) ?_
        refine Ev.step (fun k => by rw [E.waystoneref14_Diff.j2, if_pos (show (tupR (some a)).2.2.2.2.2.2.2 = true from rfl)]) ?_
        refine Ev.step (fun k => by rw [E.waystoneref14_Diff.j3, if_neg (by decide), if_pos (show (tupR (some a)).2.2.2.2.2.2.2 = true from rfl), if_neg (show ¬ ((tupR (none : Option Rul)).2.2.2.2.2.2.2 = true) from by decide), hw]) ?_
        exact next (ed (1, a))
      | some b =>
        refine Ev.congr (fun k => if_pos rfl) ?_
        refine Ev.step (fun k => by rw [E.waystoneref14_Diff.j1, if_neg (show ¬ ((!(tupR (some b)).2.2.2.2.2.2.2) = true) from by simp [tupR])]) ?_
        refine Ev.step (fun k => by rw [E.waystoneref14_Diff.j2, if_pos (show (tupR (some a)).2.2.2.2.2.2.2 = true from rfl)]) ?_
        by_cases c : a = b
        · refine Ev.step (fun k => by rw [E.waystoneref14_Diff.j3, if_neg (by decide), if_pos (show (tupR (some a)).2.2.2.2.2.2.2 = true from rfl), if_pos (show (tupR (some b)).2.2.2.2.2.2.2 = true from rfl), if_neg (fun q => (ne_tup a b).1 q c), hw]) ?_
          rw [show cellK (some a) (some b) = none from if_pos c]
          exact stay
        · refine Ev.step (fun k => by rw [E.waystoneref14_Diff.j3, if_neg (by decide), if_pos (show (tupR (some a)).2.2.2.2.2.2.2 = true from rfl), if_pos (show (tupR (some b)).2.2.2.2.2.2.2 = true from rfl), if_pos ((ne_tup a b).2 c), if_pos hlen, hw]) ?_
          rw [show cellK (some a) (some b) = some (2, b) from if_neg c]
          exact next (ed (2, b))
theorem diffD_ev (x y : List Rul) (hx : x.length ≤ 1000) (hy : y.length ≤ 1000) (h : Rising x) (h2 : Rising y) : Ev (fun k => E.waystoneref14_Diff.f k x y) ((diffS x y).map ed) := by
  refine Ev.bind (ids_ev x y hx hy h) ?_
  have hl : (idsS x y).length ≤ 100000 := by
    unfold idsS
    have := fold_len y x
    rw [List.length_map]
    omega
  have := diffD_l0 x y hx hy (idsS x y) hl _ 0 [] (Nat.zero_le _) rfl (Nat.le_refl _)
  rw [List.drop_zero, List.nil_append] at this
  rw [← doc_diff x y h h2]
  exact this
theorem diff_len (x y : List Rul) : (diffS x y).length ≤ x.length + y.length := by
  fun_induction diffS x y <;> simp_all <;> omega
theorem editDiffs_ev (x y : List Rul) (hx : ∀ r ∈ x, i64 r.f0) (hy : ∀ r ∈ y, i64 r.f0) : Ev (fun k => E.waystonelaw14_EditDiffs.f k x y) true := by
  have out : Ev (fun k => E.waystonelaw14_EditDiffs.j0 k x y true) true := by
    refine Ev.step (fun k => by rw [E.waystonelaw14_EditDiffs.j0, if_pos rfl]) ?_
    exact Ev.bind alive_ev (Ev.now _)
  refine Ev.bind (fits_ev x hx) (Ev.bind (fits_ev y hy) ?_)
  cases h1 : (decide (x.length ≤ 60) && allB x) with
  | false => exact Ev.congr (fun k => if_neg (by decide)) out
  | true =>
    refine Ev.congr (fun k => if_pos rfl) ?_
    cases h2 : (decide (y.length ≤ 60) && allB y) with
    | false => exact out
    | true =>
      have g1 := fits_good h1
      have g2 := fits_good h2
      refine Ev.step (fun k => by rw [E.waystonelaw14_EditDiffs.j0, if_neg (by decide)]) ?_
      refine Ev.bind alive_ev (Ev.congr (fun k => if_pos rfl) ?_)
      have l1 := g1.le
      have l2 := g2.le
      have l3 := diff_len x y
      refine Ev.bind (diffE_ev x y (by omega)) (Ev.bind (diffD_ev x y (by omega) (by omega) g1.up g2.up) ?_)
      exact Ev.bind (same_edits _ (by rw [List.length_map]; omega)) (Ev.now _)
end Go.Proofs.Ytckjhdlpbfcaiaa.H
