/- FatG2. -/
import Derived.Test.YtkjighagiecbaaaGOpen2
namespace Go.Proofs.Ytkjighagiecbaaa.H
open Go.RowKit Go.Proofs.Ytkjighagiecbaaa.P Go.Proofs.Ytkjighagiecbaaa.Open Go.Proofs.YtkjighagiecbaaaW.PrintWords Go.Proofs.YtkjighagiecbaaaW.PrintLast
set_option linter.unusedVariables false
def fld (t o : Nat) : Field := { name := "", type := t, offset := o, embedded := false, tag := "", pkgPath := "", byteOffset := 0 }
def isI64 (x : Int) : Prop := (Lit.int .i64 x).wf = true
theorem opensA2 : Opens Try.prog 48 (Kd.pair (Kd.int .i64) (Kd.int .i64)) (fun x => isI64 x.1 ∧ isI64 x.2) := by
  refine Opens.imp (OpensAt.array (fs := [fld 3 0, fld 3 1]) (OpensAt.cons (f := fld 3 0) rfl (Opens.int Try.underlying3) (by kernel_rfl) (OpensAt.last (f := fld 3 1) rfl (Opens.int Try.underlying3) (by kernel_rfl))) Try.underlying48 ?_ (by kernel_rfl)) (fun x h => h)
  · intro f hf
    have e : Try.prog.cellsOf 3 = 1 := by kernel_rfl
    rw [e]
    simp only [List.mem_cons, List.not_mem_nil, or_false] at hf
    rcases hf with rfl | rfl
    · exact ⟨0, by omega, rfl, rfl⟩
    · exact ⟨1, by omega, rfl, rfl⟩
theorem pair_open {w : World} {x : Int × Int} {cs : List Value} (h : (Kd.pair (Kd.int .i64) (Kd.int .i64)).K w x cs) : cs = [.int .i64 x.1, .int .i64 x.2] := by
  obtain ⟨c1, c2, rfl, h1, h2⟩ := h
  cases h1; cases h2; rfl
end Go.Proofs.Ytkjighagiecbaaa.H
