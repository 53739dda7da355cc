/- FatL1. -/
import Derived.Test.YtkjighagiecbaaaAFatZ
import Derived.Test.YtkjighagiecbaaaAEx3
namespace Go.Proofs.Ytkjighagiecbaaa.H
open Go.RowKit Go.Proofs.Ytkjighagiecbaaa.P Go.Proofs.YtkjighagiecbaaaW.PrintWords Go.Proofs.YtkjighagiecbaaaW.PrintLast Go.Proofs.YtkjighagiecbaaaW.PrintMore
set_option linter.unusedVariables false
set_option linter.unusedSimpArgs false
theorem sameT_self (x : List Int) (f a b : Int) : sameT x f a b x f a b = true := by simp [sameT]
theorem Tr.all {st : Int → Int × (Int × Int)} {nx : Int × Int → Int} {Q : Int → Prop} (hQ : ∀ x, Q x → (st x).1 = 4 → Q (nx (st x).2)) {seen : List Int} {d : Int} {R : Trc} (t : Tr st nx seen d R) : (∀ x ∈ seen, Q x) → Q d → ∀ x ∈ R.1, Q x := by
  have snoc : ∀ {seen : List Int} {d : Int}, (∀ x ∈ seen, Q x) → Q d → ∀ x ∈ seen ++ [d], Q x := by
    intro seen d hs hd x hx
    rw [List.mem_append, List.mem_singleton] at hx
    rcases hx with hx | rfl
    · exact hs x hx
    · exact hd
  induction t with
  | loop h => exact fun hs hd => snoc hs hd
  | stop h h4 => exact fun hs hd => snoc hs hd
  | go h h4 t ih => exact fun hs hd => ih (snoc hs hd) (hQ _ hd h4)
theorem trc_range {l0 : List Int} {l1 : List S66} {l2 : List Rul} (hT : RightT l0 l1) (d a : Int) (hd : 0 ≤ d ∧ d < (l0.length : Int)) : ∀ x ∈ (trcP l1 l2 a d).1, 0 ≤ x ∧ x < (l0.length : Int) := by
  refine (trcP_tr l1 l2 a d).all (Q := fun x => 0 ≤ x ∧ x < (l0.length : Int)) (fun x hx h4 => ?_) (fun x hx => by simp at hx) hd
  have h := ((step_fates matchP denyP l2 (nxS l1) a x).1 h4).1
  have e : stepS matchP denyP l2 (nxS l1) a x = stepP l1 l2 a x := rfl
  rw [e, nxS_some] at h
  have h2 := (next_yes hT _ h).2.2.2.2
  have h3 := (hasB_iff _ _).1 h2
  unfold nxD nxS
  rw [if_pos h]
  exact ⟨h3.1, h3.2.1⟩
theorem traceE (l0 : List Int) (l1 : List S66) (l2 : List Rul) (h : sizesN l1 l2) (d a : Int) : E.fate_Trace.f l0 l1 l2 d a = some (traceF l0 l1 l2 d a) := by
  unfold E.fate_Trace.f
  rw [if_pos (show _ ∧ _ from h)]
def fitsN (l0 : List Int) (l1 : List S66) (l2 : List Rul) : Bool := decide (l0.length ≤ 20) && (decide (l1.length ≤ 40) && (decide (l2.length ≤ 60) && rightN l0 l1 l2))
theorem fitsE (l0 : List Int) (l1 : List S66) (l2 : List Rul) (hi : idsB l2 = true) : E.waystonelaw09_Fits.f l0 l1 l2 = some (fitsN l0 l1 l2) := by
  unfold E.waystonelaw09_Fits.f fitsN
  by_cases h0 : l0.length ≤ 20
  · by_cases h1 : l1.length ≤ 40
    · by_cases h2 : l2.length ≤ 60
      · simp only [show ¬ (l0.length : Int) > 20 from by omega, show ¬ (l1.length : Int) > 40 from by omega, show ¬ (l2.length : Int) > 60 from by omega, if_false, decide_eq_true h0, decide_eq_true h1, decide_eq_true h2, Bool.true_and]
        unfold E.waystoneref09_Right.f
        rw [if_pos ⟨by omega, by omega, hi⟩]
        rfl
      · simp only [show ¬ (l0.length : Int) > 20 from by omega, show ¬ (l1.length : Int) > 40 from by omega, show (l2.length : Int) > 60 from by omega, if_false, if_true, decide_eq_true h0, decide_eq_true h1, decide_eq_false h2, Bool.true_and, Bool.false_and]
    · simp only [show ¬ (l0.length : Int) > 20 from by omega, show (l1.length : Int) > 40 from by omega, if_false, if_true, decide_eq_true h0, decide_eq_false h1, Bool.true_and, Bool.false_and]
  · simp only [show (l0.length : Int) > 20 from by omega, if_true, decide_eq_false h0, Bool.false_and]
theorem fits_right {l0 : List Int} {l1 : List S66} {l2 : List Rul} (h : fitsN l0 l1 l2 = true) : rightN l0 l1 l2 = true := by
  unfold fitsN at h
  simp only [Bool.and_eq_true] at h
  exact h.2.2.2
theorem rest_l0 (l0 : List Int) (l1 : List S66) (l2 : List Rul) (a : Int) (hs : sizesN l1 l2) (X : List Int) (f x y : Int) (hX : X.length ≤ 9223372036854775807)
    (hr : ∀ (i : Nat) (z : Int), X[i]? = some z → traceF l0 l1 l2 z a = (X.drop i, f, x, y, 0)) (n : Nat) : ∀ j : Nat, j ≤ X.length → X.length - j = n → Ev (fun k => E.waystonelaw09_FateRest.l0 k a (j : Int) l0 l1 l2 X f x y) true := by
  induction n with
  | zero =>
    intro j hj hd
    obtain rfl : j = X.length := by omega
    refine Ev.step (fun k => by rw [E.waystonelaw09_FateRest.l0]) ?_
    simp only [Int.lt_irrefl, if_false, E.waystonelaw09_alive.f, Option.bind_some]
    exact Ev.now _
  | succ n ih =>
    intro j hj hd
    have hlt : j < X.length := by omega
    have ih := ih (j + 1) (by omega) (by omega)
    refine Ev.step (fun k => by rw [E.waystonelaw09_FateRest.l0]) ?_
    simp only [show ((j : Int) < (X.length : Int)) from by omega, show (0 : Int) ≤ (j : Int) from by omega, if_true, rd_at X j hlt, traceE l0 l1 l2 hs, Option.bind_some, hr j X[j] (List.getElem?_eq_getElem hlt), show ((j : Int) ≤ (X.length : Int)) from by omega, Int.toNat_natCast, wrap_up hlt hX]
    simp only [E.fate_Same.f, sameT_self, Option.bind_some, if_true]
    exact ih
theorem rest_ev (l0 : List Int) (l1 : List S66) (l2 : List Rul) (d a : Int) (hs : sizesN l1 l2) (hi : idsB l2 = true) : Ev (fun k => E.waystonelaw09_FateRest.f k l0 l1 l2 d a) true := by
  have alive : ∀ (f : Bool) X F x y, f = true → Ev (fun k => E.waystonelaw09_FateRest.j0 k a f l0 l1 l2 X F x y) true := by
    intro f X F x y h
    subst h
    refine Ev.step (fun k => by rw [E.waystonelaw09_FateRest.j0]) ?_
    simp only [if_true, E.waystonelaw09_alive.f, Option.bind_some]
    exact Ev.now _
  unfold E.waystonelaw09_FateRest.f
  simp only [fitsE l0 l1 l2 hi, traceE l0 l1 l2 hs, Option.bind_some]
  cases hf : fitsN l0 l1 l2 with
  | false =>
    simp only [Bool.false_eq_true, if_false]
    exact alive _ _ _ _ _ rfl
  | true =>
    simp only [if_true]
    by_cases he : (traceF l0 l1 l2 d a).2.2.2.2 = 0
    · simp only [if_pos he]
      by_cases h4 : (traceF l0 l1 l2 d a).2.1 = 4
      · exact alive _ _ _ _ _ (by simp [h4])
      · have hne : ((traceF l0 l1 l2 d a).2.1 == 4) = false := by rw [beq_eq_false_iff_ne]; exact h4
        rw [hne]
        refine Ev.step (fun k => by rw [E.waystonelaw09_FateRest.j0]) ?_
        simp only [Bool.false_eq_true, if_false]
        have hd : ¬ (d < 0 ∨ (l0.length : Int) ≤ d) := fun hd => by unfold traceF at he; rw [if_pos hd] at he; cases he
        have ht : traceF l0 l1 l2 d a = ((trcP l1 l2 a d).1, (trcP l1 l2 a d).2.1, (trcP l1 l2 a d).2.2.1, (trcP l1 l2 a d).2.2.2, 0) := by unfold traceF; rw [if_neg hd]
        rw [ht] at h4 ⊢
        have hT := rightN_T (fits_right hf)
        have hrg := trc_range (l2 := l2) hT d a ⟨by omega, by omega⟩
        refine rest_l0 l0 l1 l2 a hs _ _ _ _ (by show (trcP l1 l2 a d).1.length ≤ _; have := trcP_len l1 l2 a d; have := hs.2; omega) (fun i z hz => ?_) _ 0 (by omega) rfl
        obtain ⟨rest, e, h⟩ := (trcP_tr l1 l2 a d).tails h4
        rw [List.nil_append] at e
        have h1 := h i z (by rw [← e]; exact hz)
        rw [← e] at h1
        have h2 := hrg z (List.mem_of_getElem? hz)
        unfold traceF
        rw [if_neg (by omega), (trcP_tr l1 l2 a z).one h1]
    · simp only [if_neg he]
      exact alive _ _ _ _ _ rfl
end Go.Proofs.Ytkjighagiecbaaa.H
