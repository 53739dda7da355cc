/- Ex2. -/
import Derived.Test.YtckjhdlpbfcaiaaDEdtP
import Derived.Test.YtckjhdlpbfcaiaaDEx1
namespace Go.Proofs.Ytckjhdlpbfcaiaa.E
open Go.Proofs.Ytckjhdlpbfcaiaa.P
open Go.RowKit Go.Proofs.YtckjhdlpbfcaiaaW.PrintWords Go.Proofs.YtckjhdlpbfcaiaaW.PrintLast Go.Proofs.YtckjhdlpbfcaiaaW.PrintMore
set_option linter.unusedVariables false
set_option linter.unusedSimpArgs false
theorem eqA37 (d : Nat) (w : World) (x0 y0 : Int) (x1 y1 : Int) (x2 y2 : Int) (x3 y3 : Int) (x4 y4 : Int) (x5 y5 : Int) (x6 y6 : Int) (x7 y7 : Int) :
    (Op.equalIn (d + 4) 37 (.agg #[.int .i64 x0, .int .i64 x1, .int .i64 x2, .int .i64 x3, .int .i64 x4, .int .u32 x5, .int .u32 x6, .int .i64 x7]) (.agg #[.int .i64 y0, .int .i64 y1, .int .i64 y2, .int .i64 y3, .int .i64 y4, .int .u32 y5, .int .u32 y6, .int .i64 y7])).run Try.prog w = .ok (x0 == y0 && ((x1 == y1 && (x2 == y2 && (x3 == y3 && (x4 == y4 && ((x5 == y5 && (x6 == y6)) && (x7 == y7)))))))) w := by
  refine eqA_of Try.underlying37 (by kernel_rfl) ?_
  refine eqf_cons (by rfl) (by go_simp; rfl) (by go_simp; rfl) (by go_simp) ?_
  exact eqf_last (by rfl) (by go_simp) (by go_simp) (eqA35 (d + 0) w _ _ _ _ _ _ _ _ _ _ _ _ _ _)
end Go.Proofs.Ytckjhdlpbfcaiaa.E
