/- Ex1, FatL2. -/
import Derived.Test.YtkjighagiecbaaaGFatR
import Derived.Test.YtkjighagiecbaaaGFatZ
import Derived.Test.YtkjighagiecbaaaGFatE1
import Derived.Test.YtkjighagiecbaaaGEx4
import Derived.Test.YtkjighagiecbaaaGEx2
/-! ### Ex1 -/
namespace Go.Proofs.Ytkjighagiecbaaa.E
noncomputable section
open Go.Proofs.Ytkjighagiecbaaa.P
open Go.RowKit Go.Proofs.YtkjighagiecbaaaW.PrintWords Go.Proofs.YtkjighagiecbaaaW.PrintLast Go.Proofs.YtkjighagiecbaaaW.PrintMore
set_option linter.unusedVariables false
set_option linter.unusedSimpArgs false
theorem eqA33 (d : Nat) (w : World) (x0 y0 : Int) (x1 y1 : Int) :
    (Op.equalIn (d + 2) 33 (.agg #[.int .i64 x0, .int .i64 x1]) (.agg #[.int .i64 y0, .int .i64 y1])).run Try.prog w = .ok (x0 == y0 && (x1 == y1)) w := by
  refine eqA_of Try.underlying33 (by kernel_rfl) ?_
  refine eqf_cons (by rfl) (by go_simp; rfl) (by go_simp; rfl) (by go_simp) ?_
  exact eqf_last (by rfl) (by go_simp; rfl) (by go_simp; rfl) (by go_simp)
end
end Go.Proofs.Ytkjighagiecbaaa.E
/-! ### FatL2 -/
namespace Go.Proofs.Ytkjighagiecbaaa.H
open Go.RowKit Go.Proofs.Ytkjighagiecbaaa.P Go.Proofs.YtkjighagiecbaaaW.PrintWords Go.Proofs.YtkjighagiecbaaaW.PrintLast Go.Proofs.YtkjighagiecbaaaW.PrintMore
set_option linter.unusedVariables false
set_option linter.unusedSimpArgs false
theorem genuineE_ev (l0 : List Int) (l1 : List S66) (l2 : List Rul) (hs : sizesN l1 l2) (a d : Int) (rest : List Int) (f x y : Int) (hl : (d :: rest).length ≤ 9223372036854775807) :
    E.fate_Genuine.f l0 l1 l2 a (d :: rest) f x y = some (decide ((traceF l0 l1 l2 d a).2.2.2.2 = 0) && sameT (d :: rest) f x y (traceF l0 l1 l2 d a).1 (traceF l0 l1 l2 d a).2.1 (traceF l0 l1 l2 d a).2.2.1 (traceF l0 l1 l2 d a).2.2.2.1) := by
  unfold E.fate_Genuine.f
  have h0 : ¬ (((d :: rest).length : Int) = 0) := by rw [List.length_cons]; omega
  have h1 : (0 : Int) < ((d :: rest).length : Int) := by rw [List.length_cons]; omega
  simp only [if_neg h0, if_pos h1, show rd (d :: rest) 0 = d from rfl, traceE l0 l1 l2 hs, Option.bind_some]
  by_cases he : (traceF l0 l1 l2 d a).2.2.2.2 = 0
  · simp only [if_pos he, decide_eq_true he, Bool.true_and]
    simp only [E.fate_Same.f, Option.bind_some]
  · simp only [if_neg he, decide_eq_false he, Bool.false_and]
end Go.Proofs.Ytkjighagiecbaaa.H
