/- EdtP, EdtW. -/
import Derived.Test.YtkjighagiecbaaaFFatR
/-! ### EdtP -/
namespace Go.Proofs.Ytkjighagiecbaaa.H
open Go.RowKit Go.Proofs.Ytkjighagiecbaaa.P Go.Proofs.YtkjighagiecbaaaW.PrintWords
set_option linter.unusedVariables false
set_option linter.unusedSimpArgs false
abbrev Rle := S62
structure Codes where
  w : Int
  t : Int
  n : Int
  f : Int
section
variable {c : Codes} {m : Nat} {right : Rle → Bool}
end
section
variable {c : Codes} {m : Nat} {right : Rle → Bool}
end
end Go.Proofs.Ytkjighagiecbaaa.H
/-! ### EdtW -/
namespace Go.Proofs.Ytkjighagiecbaaa.H
open Go.RowKit Go.Proofs.Ytkjighagiecbaaa.P Go.Proofs.YtkjighagiecbaaaW.PrintWords
set_option linter.unusedVariables false
set_option linter.unusedSimpArgs false
def allP (right : Rle → Bool) : Int → List Rle → Bool
  | _, [] => true
  | last, r :: l => right r && (decide (last < r.f0) && allP right r.f0 l)
def allD (right : Rle → Bool) : Option Int → List Rle → Bool
  | _, [] => true
  | none, r :: l => right r && allD right (some r.f0) l
  | some a, r :: l => right r && (decide (a < r.f0) && allD right (some r.f0) l)
theorem all_some (right : Rle → Bool) : ∀ (l : List Rle) (a : Int), allP right a l = allD right (some a) l
  | [], a => rfl
  | r :: l, a => by rw [allP, allD, all_some right l]
theorem all_same (right : Rle → Bool) (hp : ∀ r, right r = true → 0 < r.f0) : ∀ l : List Rle, allP right 0 l = allD right none l
  | [] => rfl
  | r :: l => by
    rw [allP, allD, all_some right l]
    cases e : right r with
    | false => rfl
    | true =>
      have := hp r e
      rw [decide_eq_true this]
      rfl
end Go.Proofs.Ytkjighagiecbaaa.H
