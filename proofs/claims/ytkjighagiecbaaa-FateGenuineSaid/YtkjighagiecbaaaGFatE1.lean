/- FatL1, FatE1. -/
import Derived.Test.YtkjighagiecbaaaGFatZ
import Derived.Test.YtkjighagiecbaaaGFatR
import Derived.Test.YtkjighagiecbaaaGEx2
/-! ### FatL1 -/
namespace Go.Proofs.Ytkjighagiecbaaa.H
open Go.RowKit Go.Proofs.Ytkjighagiecbaaa.P Go.Proofs.YtkjighagiecbaaaW.PrintWords Go.Proofs.YtkjighagiecbaaaW.PrintLast Go.Proofs.YtkjighagiecbaaaW.PrintMore
set_option linter.unusedVariables false
set_option linter.unusedSimpArgs false
theorem sameT_self (x : List Int) (f a b : Int) : sameT x f a b x f a b = true := by simp [sameT]
theorem Tr.all {st : Int → Int × (Int × Int)} {nx : Int × Int → Int} {Q : Int → Prop} (hQ : ∀ x, Q x → (st x).1 = 4 → Q (nx (st x).2)) {seen : List Int} {d : Int} {R : Trc} (t : Tr st nx seen d R) : (∀ x ∈ seen, Q x) → Q d → ∀ x ∈ R.1, Q x := by
  have snoc : ∀ {seen : List Int} {d : Int}, (∀ x ∈ seen, Q x) → Q d → ∀ x ∈ seen ++ [d], Q x := by
    intro seen d hs hd x hx
    rw [List.mem_append, List.mem_singleton] at hx
    rcases hx with hx | rfl
    · exact hs x hx
    · exact hd
  induction t with
  | loop h => exact fun hs hd => snoc hs hd
  | stop h h4 => exact fun hs hd => snoc hs hd
  | go h h4 t ih => exact fun hs hd => ih (snoc hs hd) (hQ _ hd h4)
theorem trc_range {l0 : List Int} {l1 : List S66} {l2 : List Rul} (hT : RightT l0 l1) (d a : Int) (hd : 0 ≤ d ∧ d < (l0.length : Int)) : ∀ x ∈ (trcP l1 l2 a d).1, 0 ≤ x ∧ x < (l0.length : Int) := by
  refine (trcP_tr l1 l2 a d).all (Q := fun x => 0 ≤ x ∧ x < (l0.length : Int)) (fun x hx h4 => ?_) (fun x hx => by simp at hx) hd
  have h := ((step_fates matchP denyP l2 (nxS l1) a x).1 h4).1
  have e : stepS matchP denyP l2 (nxS l1) a x = stepP l1 l2 a x := rfl
  rw [e, nxS_some] at h
  have h2 := (next_yes hT _ h).2.2.2.2
  have h3 := (hasB_iff _ _).1 h2
  unfold nxD nxS
  rw [if_pos h]
  exact ⟨h3.1, h3.2.1⟩
theorem traceE (l0 : List Int) (l1 : List S66) (l2 : List Rul) (h : sizesN l1 l2) (d a : Int) : E.fate_Trace.f l0 l1 l2 d a = some (traceF l0 l1 l2 d a) := by
  unfold E.fate_Trace.f
  rw [if_pos (show _ ∧ _ from h)]
def fitsN (l0 : List Int) (l1 : List S66) (l2 : List Rul) : Bool := decide (l0.length ≤ 20) && (decide (l1.length ≤ 40) && (decide (l2.length ≤ 60) && rightN l0 l1 l2))
theorem fitsE (l0 : List Int) (l1 : List S66) (l2 : List Rul) (hi : idsB l2 = true) : E.waystonelaw09_Fits.f l0 l1 l2 = some (fitsN l0 l1 l2) := by
  unfold E.waystonelaw09_Fits.f fitsN
  by_cases h0 : l0.length ≤ 20
  · by_cases h1 : l1.length ≤ 40
    · by_cases h2 : l2.length ≤ 60
      · simp only [show ¬ (l0.length : Int) > 20 from by omega, show ¬ (l1.length : Int) > 40 from by omega, show ¬ (l2.length : Int) > 60 from by omega, if_false, decide_eq_true h0, decide_eq_true h1, decide_eq_true h2, Bool.true_and]
        unfold E.waystoneref09_Right.f
        rw [if_pos ⟨by omega, by omega, hi⟩]
        rfl
      · simp only [show ¬ (l0.length : Int) > 20 from by omega, show ¬ (l1.length : Int) > 40 from by omega, show (l2.length : Int) > 60 from by omega, if_false, if_true, decide_eq_true h0, decide_eq_true h1, decide_eq_false h2, Bool.true_and, Bool.false_and]
    · simp only [show ¬ (l0.length : Int) > 20 from by omega, show (l1.length : Int) > 40 from by omega, if_false, if_true, decide_eq_true h0, decide_eq_false h1, Bool.true_and, Bool.false_and]
  · simp only [show (l0.length : Int) > 20 from by omega, if_true, decide_eq_false h0, Bool.false_and]
theorem fits_right {l0 : List Int} {l1 : List S66} {l2 : List Rul} (h : fitsN l0 l1 l2 = true) : rightN l0 l1 l2 = true := by
  unfold fitsN at h
  simp only [Bool.and_eq_true] at h
  exact h.2.2.2
end Go.Proofs.Ytkjighagiecbaaa.H
/-! ### FatE1 -/
namespace Go.Proofs.Ytkjighagiecbaaa.H
open Go.RowKit Go.Proofs.Ytkjighagiecbaaa.P Go.Proofs.YtkjighagiecbaaaW.PrintWords Go.Proofs.YtkjighagiecbaaaW.PrintLast Go.Proofs.YtkjighagiecbaaaW.PrintMore
set_option linter.unusedVariables false
set_option linter.unusedSimpArgs false
theorem C_some {w : World} {A : Option Addr} {l : List Int} (hC : Kd.C (Kd.int .i64) w A l.length l) (h : 0 < l.length) : ∃ ad, A = some ad := by
  obtain ⟨ad', e, x0⟩ := (Kd.reads_of_C (d := (0 : Int)) hC).at_ 0 (by omega) (by omega)
  exact ⟨ad', e⟩
structure EndsX (l0 : List Int) (l1 : List S66) (l2 : List Rul) (d a : Int) (X : List Int) (f px py : Int) (init : List Int) (last : Int) : Prop where
  form : X = init ++ [last]
  head : X[0]? = some d
  len : X.length ≤ l0.length + 1
  pair : ∀ (i j : Nat) (x y : Int), j < i → X[i]? = some x → X[j]? = some y → x = y → f = 4 ∧ i + 1 = X.length
  next : ∀ (m : Nat) (x y : Int), X[m]? = some x → X[m + 1]? = some y → (stepP l1 l2 a x).1 = 4 ∧ nextB l1 ⟨(stepP l1 l2 a x).2.1, (stepP l1 l2 a x).2.2⟩ = true ∧ (nextQ l1 ⟨(stepP l1 l2 a x).2.1, (stepP l1 l2 a x).2.2⟩).f0 = y
  seen : decide (last ∈ init) = (f == 4)
  out3 : f = 3 → px = last ∧ nextB l1 ⟨px, py⟩ = false
  outN : f ≠ 3 → px = 0 ∧ py = 0
theorem EndsX.size {l0 : List Int} {l1 : List S66} {l2 : List Rul} {d a : Int} {X : List Int} {f px py : Int} {init : List Int} {last : Int} (h : EndsX l0 l1 l2 d a X f px py init last) : X.length = init.length + 1 := by rw [h.form]; simp
theorem EndsX.take_ {l0 : List Int} {l1 : List S66} {l2 : List Rul} {d a : Int} {X : List Int} {f px py : Int} {init : List Int} {last : Int} (h : EndsX l0 l1 l2 d a X f px py init last) : X.take init.length = init := by rw [h.form]; simp
theorem ends_all {l0 : List Int} {l1 : List S66} {l2 : List Rul} (hT : RightT l0 l1) (d a : Int) (hd : 0 ≤ d ∧ d < (l0.length : Int)) :
    ∃ X f px py init last, traceF l0 l1 l2 d a = (X, f, px, py, 0) ∧ EndsX l0 l1 l2 d a X f px py init last := by
  have ht : traceF l0 l1 l2 d a = ((trcP l1 l2 a d).1, (trcP l1 l2 a d).2.1, (trcP l1 l2 a d).2.2.1, (trcP l1 l2 a d).2.2.2, 0) := by unfold traceF; rw [if_neg (by omega)]
  have tr := trcP_tr l1 l2 a d
  have hrg := trc_range (l2 := l2) hT d a hd
  obtain ⟨init0, last0, e0, hn, _⟩ := tr.form .nil
  obtain ⟨init, last, e, hh, h4, h40, hs⟩ := ends_last tr
  refine ⟨_, _, _, _, init, last, ht, ⟨e, hh, ?_, ?_, ?_, ?_, ?_, ?_⟩⟩
  · have h := nodup_len init0 ((List.range l0.length).map Int.ofNat) hn (fun x hx => by
      have h := hrg x (by rw [e0]; exact List.mem_append_left _ hx)
      rw [List.mem_map]
      exact ⟨x.toNat, List.mem_range.2 (by omega), by show ((x.toNat : Nat) : Int) = x; omega⟩)
    rw [List.length_map, List.length_range] at h
    rw [e0, List.length_append, List.length_singleton]
    omega
  · intro i j x y hji hi hj hxy
    subst hxy
    exact ends_pair tr hi hj hji
  · intro m x y hx hy
    obtain ⟨g4, gn⟩ := ends_next tr hx hy
    have h := ((step_fates matchP denyP l2 (nxS l1) a x).1 g4).1
    have e : stepS matchP denyP l2 (nxS l1) a x = stepP l1 l2 a x := rfl
    rw [e, nxS_some] at h
    refine ⟨g4, h, ?_⟩
    rw [← gn]
    unfold nxD nxS
    rw [if_pos h]
    rfl
  · rw [Bool.eq_iff_iff, decide_eq_true_iff, beq_iff_eq]
    exact h4
  · intro h3
    have e2 := hs (by omega)
    have h := (step_fates matchP denyP l2 (nxS l1) a last).2.1
    have e : stepS matchP denyP l2 (nxS l1) a last = stepP l1 l2 a last := rfl
    rw [e, ← e2] at h
    have h := h h3
    rw [nxS_some] at h
    exact ⟨h.2, h.1⟩
  · intro h3
    by_cases c : (trcP l1 l2 a d).2.1 = 4
    · rw [h40 c]; exact ⟨rfl, rfl⟩
    · have e2 := hs c
      have h := (step_fates matchP denyP l2 (nxS l1) a last).2.2.1
      have e : stepS matchP denyP l2 (nxS l1) a last = stepP l1 l2 a last := rfl
      rw [e, ← e2] at h
      rw [h h3 c]
      exact ⟨rfl, rfl⟩
end Go.Proofs.Ytkjighagiecbaaa.H
