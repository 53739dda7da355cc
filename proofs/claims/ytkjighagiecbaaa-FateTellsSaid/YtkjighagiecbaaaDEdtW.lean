/- EdtP, EdtW. -/
import Derived.Test.YtkjighagiecbaaaDFatQ
/-! ### EdtP -/
namespace Go.Proofs.Ytkjighagiecbaaa.H
open Go.RowKit Go.Proofs.Ytkjighagiecbaaa.P Go.Proofs.YtkjighagiecbaaaW.PrintWords
set_option linter.unusedVariables false
set_option linter.unusedSimpArgs false
abbrev Rle := S62
def Rising (l : List Rle) : Prop := l.Pairwise (fun a b => a.f0 < b.f0)
structure Codes where
  w : Int
  t : Int
  n : Int
  f : Int
section
variable {c : Codes} {m : Nat} {right : Rle → Bool}
end
section
variable {c : Codes} {m : Nat} {right : Rle → Bool}
end
end Go.Proofs.Ytkjighagiecbaaa.H
/-! ### EdtW -/
namespace Go.Proofs.Ytkjighagiecbaaa.H
open Go.RowKit Go.Proofs.Ytkjighagiecbaaa.P Go.Proofs.YtkjighagiecbaaaW.PrintWords
set_option linter.unusedVariables false
set_option linter.unusedSimpArgs false
def allP (right : Rle → Bool) : Int → List Rle → Bool
  | _, [] => true
  | last, r :: l => right r && (decide (last < r.f0) && allP right r.f0 l)
def allD (right : Rle → Bool) : Option Int → List Rle → Bool
  | _, [] => true
  | none, r :: l => right r && allD right (some r.f0) l
  | some a, r :: l => right r && (decide (a < r.f0) && allD right (some r.f0) l)
theorem all_some (right : Rle → Bool) : ∀ (l : List Rle) (a : Int), allP right a l = allD right (some a) l
  | [], a => rfl
  | r :: l, a => by rw [allP, allD, all_some right l]
theorem all_same (right : Rle → Bool) (hp : ∀ r, right r = true → 0 < r.f0) : ∀ l : List Rle, allP right 0 l = allD right none l
  | [] => rfl
  | r :: l => by
    rw [allP, allD, all_some right l]
    cases e : right r with
    | false => rfl
    | true =>
      have := hp r e
      rw [decide_eq_true this]
      rfl
theorem all_iff (right : Rle → Bool) : ∀ (l : List Rle) (a : Int), allP right a l = true ↔ (∀ r ∈ l, right r = true ∧ a < r.f0) ∧ Rising l
  | [], a => by simp [allP, Rising]
  | r :: l, a => by
    rw [allP, Bool.and_eq_true, Bool.and_eq_true, decide_eq_true_eq, all_iff right l r.f0]
    unfold Rising
    rw [List.pairwise_cons]
    constructor
    · rintro ⟨h1, h2, h3, h4⟩
      refine ⟨fun x hx => ?_, fun x hx => (h3 x hx).2, h4⟩
      rcases List.mem_cons.1 hx with rfl | hx
      · exact ⟨h1, h2⟩
      · have := h3 x hx
        exact ⟨this.1, by omega⟩
    · rintro ⟨h1, h2, h3⟩
      have := h1 r (by simp)
      exact ⟨this.1, this.2, fun x hx => ⟨(h1 x (List.mem_cons_of_mem _ hx)).1, h2 x hx⟩, h3⟩
end Go.Proofs.Ytkjighagiecbaaa.H
