/- Bol8. -/
import Derived.Test.YtnbojemjaipnlaaEBol6
import Derived.Test.YtnbojemjaipnlaaEBol7
namespace Go.Proofs.Ytnbojemjaipnlaa.H
open Go.RowKit Go.Proofs.Ytnbojemjaipnlaa.P Go.Proofs.Ytnbojemjaipnlaa.Open Go.Proofs.YtnbojemjaipnlaaW.PrintWords Go.Proofs.YtnbojemjaipnlaaW.PrintLast
set_option linter.unusedVariables false
set_option linter.unusedSimpArgs false
theorem kAct_open {w : World} {x : ActR} {cs : List Value} (h : kAct.K w x cs) : cs = acells x := by
  obtain ⟨c1, c2, e1, h8, c3, c4, e2, h9, c5, c6, e3, h10, h11⟩ := h
  have e4 : c1 = [.int .i64 x.k] := h8
  have e5 : c3 = [.int .i64 x.n] := h9
  have e6 : c5 = [.string x.nm] := h10
  have e7 := k37_open h11
  dsimp only at e7
  subst e4 e5 e6 e7 e3 e2 e1
  rfl
theorem bookApart_row (A : Option Addr) (c : Nat) (L : List ActR) (a : ActR) (w : World) (hr : Kd.C kAct w A L.length L) (hc : L.length ≤ c) (hi : (∀ a ∈ L, i64 a.n) ∧ L.length * 88 ≤ 140737488355328) (hn : i64 a.n) :
    Calls Try.prog 4 #[.slice A L.length c, .agg #[.int .i64 a.k, .int .i64 a.n, .string a.nm, .int .i64 a.e.f0, .int .i64 a.e.f1.f0, .int .i64 a.e.f1.f1, .int .i64 a.e.f1.f2, .int .i64 a.e.f1.f3, .int .u32 a.e.f1.f4.f0, .int .u32 a.e.f1.f4.f1, .int .i64 a.e.f1.f5]] w fun e w' => e = .returned (.bool true) ∧ Below w.heap.size w w' :=
  bookApart_any A c L a w hr hc hi.1 hn
end Go.Proofs.Ytnbojemjaipnlaa.H
