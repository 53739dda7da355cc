/- EdaK. -/
import Derived.Test.YtckjhdlpbfcaiaaDEx1
import Derived.Test.YtckjhdlpbfcaiaaDEx11
namespace Go.Proofs.Ytckjhdlpbfcaiaa.H
open Go.RowKit Go.Proofs.Ytckjhdlpbfcaiaa.P Go.Proofs.YtckjhdlpbfcaiaaW.PrintWords Go.Proofs.YtckjhdlpbfcaiaaW.PrintLast Go.Proofs.YtckjhdlpbfcaiaaW.PrintMore
set_option linter.unusedVariables false
set_option linter.unusedSimpArgs false
set_option maxRecDepth 20000
abbrev Edi := S37
theorem rightE_f (r : Rul) (h : i64 r.f0) : E.waystoneref07_Right.f r.f0 r.f1 r.f2 r.f3 r.f4.f0 r.f4.f1 r.f5 = some (okRule r) := by
  unfold E.waystoneref07_Right.f
  rw [if_pos (show _ ∧ _ from h)]
def allB (l : List Rul) : Bool := allP okRule 0 l && decide ((l.length : Int) ≤ 40)
def ahd (l : List Rul) : Nat → Option Int
  | 0 => none
  | j + 1 => (l[j]?).map (·.f0)
theorem ahd_succ (l : List Rul) (j : Nat) (h : j < l.length) : ahd l (j + 1) = some l[j].f0 := by
  show (l[j]?).map _ = _
  rw [List.getElem?_eq_getElem h]
  rfl
theorem allR_l0 (l : List Rul) (hl : l.length ≤ 9223372036854775807) (hi : ∀ r ∈ l, i64 r.f0) (d : Nat) : ∀ j : Nat, j ≤ l.length → l.length - j = d →
    Ev (fun k => E.waystoneref07_All.l0 k l (j : Int)) (allD okRule (ahd l j) (l.drop j) && decide ((l.length : Int) ≤ 40)) := by
  induction d with
  | zero =>
    intro j hj hd
    obtain rfl : j = l.length := by omega
    refine Ev.step (fun k => by rw [E.waystoneref07_All.l0]) ?_
    rw [List.drop_length]
    simp only [Int.lt_irrefl, if_false, allD, Bool.true_and]
    exact Ev.now _
  | succ d ih =>
    intro j hj hd
    have hlt : j < l.length := by omega
    have ih := ih (j + 1) (by omega) (by omega)
    have e1 := ahd_succ l j hlt
    rw [e1] at ih
    refine Ev.step (fun k => by rw [E.waystoneref07_All.l0]) ?_
    rw [List.drop_eq_getElem_cons hlt]
    simp only [show ((j : Int) < (l.length : Int)) from by omega, show (0 : Int) ≤ (j : Int) from by omega, if_true, rd_rule l j hlt, rightE_f _ (hi _ (List.getElem_mem hlt)), Option.bind_some, wrap_up hlt hl]
    match j, hlt, ih with
    | 0, hlt, ih =>
      unfold ahd
      rw [allD]
      cases h : okRule l[0] with
      | false =>
        simp only [Bool.false_eq_true, if_false, Bool.false_and]
        exact Ev.now _
      | true =>
        simp only [if_true, Bool.true_and]
        exact ih
    | j + 1, hlt, ih =>
      have e2 := ahd_succ l j (by omega)
      rw [e2, allD]
      have ew : wrap64 (((j + 1 : Nat) : Int) - 1) = (j : Int) := by unfold wrap64; omega
      cases h : okRule l[j + 1] with
      | false =>
        simp only [Bool.false_eq_true, if_false, Bool.false_and]
        exact Ev.now _
      | true =>
        simp only [if_true, Bool.true_and, show ((j + 1 : Nat) : Int) > 0 from by omega, ew, show (0 : Int) ≤ (j : Int) from by omega, show ((j : Int) < (l.length : Int)) from by omega, rd_rule l j (by omega)]
        by_cases c : l[j].f0 ≥ l[j + 1].f0
        · simp only [if_pos c, decide_eq_false (show ¬ l[j].f0 < l[j + 1].f0 by omega), Bool.false_and]
          exact Ev.now _
        · simp only [if_neg c, decide_eq_true (show l[j].f0 < l[j + 1].f0 by omega), Bool.true_and]
          exact ih
theorem allR_ev (l : List Rul) (hl : l.length ≤ 9223372036854775807) (hi : ∀ r ∈ l, i64 r.f0) : Ev (fun k => E.waystoneref07_All.f k l) (allB l) := by
  have h := allR_l0 l hl hi _ 0 (by omega) rfl
  rw [List.drop_zero] at h
  unfold allB
  rw [all_same okRule okRule_pos]
  exact h
theorem fits_ev (l : List Rul) (hi : ∀ r ∈ l, i64 r.f0) : Ev (fun k => E.waystonelaw14_Fits.f k l) (decide (l.length ≤ 60) && allB l) := by
  unfold E.waystonelaw14_Fits.f
  by_cases h : l.length ≤ 60
  · have h2 : (l.length : Int) ≤ 60 := by omega
    simp only [if_pos h2, decide_eq_true h, Bool.true_and]
    exact Ev.bind (allR_ev l (by omega) hi) (Ev.now _)
  · have h2 : ¬ (l.length : Int) ≤ 60 := by omega
    simp only [if_neg h2, decide_eq_false h, Bool.false_and]
    exact Ev.now _
theorem fits_good {l : List Rul} (h : (decide (l.length ≤ 60) && allB l) = true) : GoodL 40 okRule l := by
  rw [Bool.and_eq_true] at h
  unfold allB at h
  rw [Bool.and_eq_true, decide_eq_true_iff] at h
  exact all_good h.2.1 (by have := of_decide_eq_true h.2.2; omega)
theorem alive_ev : Ev (fun k => E.waystonelaw14_alive.f k) true := Ev.of E.waystonelaw14_alive.mono (k := 30) (by kernel_rfl)
theorem same_rules (l : List Rul) (hl : l.length ≤ 9223372036854775807) : Ev (fun k => E.waystoneref07_Same.f k l l) true := by
  have h : ∀ d j : Nat, j ≤ l.length → l.length - j = d → Ev (fun k => E.waystoneref07_Same.l0 k l l (j : Int)) true := by
    intro d
    induction d with
    | zero =>
      intro j hj hd
      obtain rfl : j = l.length := by omega
      refine Ev.step (fun k => by rw [E.waystoneref07_Same.l0]) ?_
      simp only [Int.lt_irrefl, if_false]
      exact Ev.now _
    | succ d ih =>
      intro j hj hd
      have hlt : j < l.length := by omega
      refine Ev.step (fun k => by rw [E.waystoneref07_Same.l0]) ?_
      simp only [show ((j : Int) < (l.length : Int)) from by omega, show (0 : Int) ≤ (j : Int) from by omega, if_true, beq_self_eq_true, Bool.not_true, Bool.or_false, Bool.false_eq_true, if_false, wrap_up hlt hl]
      exact ih (j + 1) (by omega) (by omega)
  unfold E.waystoneref07_Same.f
  simp only [if_true]
  exact h _ 0 (Nat.zero_le _) rfl
end Go.Proofs.Ytckjhdlpbfcaiaa.H
