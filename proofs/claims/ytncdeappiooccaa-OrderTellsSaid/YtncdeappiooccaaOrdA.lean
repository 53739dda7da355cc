import Derived.Test.YtncdeappiooccaaOpen2
namespace Go.Proofs.Ytncdeappiooccaa.H
open Go.RowKit Go.Proofs.Ytncdeappiooccaa.P Go.Proofs.Ytncdeappiooccaa.Open Go.Proofs.YtncdeappiooccaaW.PrintWords Go.Proofs.YtncdeappiooccaaW.PrintLast
set_option linter.unusedVariables false
/-- How events, and arrays of numbers, are opened. -/
def fld (t o : Nat) : Field := { name := "", type := t, offset := o, embedded := false, tag := "", pkgPath := "", byteOffset := 0 }
def isI64 (x : Int) : Prop := (Lit.int .i64 x).wf = true
theorem opensEvent : Opens Try.prog 47 k47 (fun x => isI64 x.f0 ∧ isI64 x.f1) := by
  refine' Opens.imp (Opens.iso (fun x : S47 => (x.f0, x.f1)) (fun y => ⟨y.1, y.2⟩) (fun _ => rfl) (OpensAt.struct' ?h Try.underlying47 (by kernel_rfl))) ?i
  case h => exact OpensAt.cons rfl (Opens.int Try.underlying3) (by kernel_rfl) (OpensAt.last rfl (Opens.int Try.underlying3) (by kernel_rfl))
  case i => exact fun x h => h
theorem opensEvents : Opens Try.prog 22 (Kd.slice 47 k47) (fun x => ∀ y ∈ x, isI64 y.f0 ∧ isI64 y.f1) := Opens.slice Try.underlying22 opensEvent (by kernel_rfl)
theorem opensInts : Opens Try.prog 24 (Kd.slice 3 (Kd.int .i64)) (fun x => ∀ y ∈ x, isI64 y) := Opens.slice Try.underlying24 (Opens.int Try.underlying3) (by kernel_rfl)
theorem opensA2 : Opens Try.prog 23 (Kd.pair (Kd.int .i64) (Kd.int .i64)) (fun x => isI64 x.1 ∧ isI64 x.2) := by
  refine Opens.imp (OpensAt.array (fs := [fld 3 0, fld 3 1]) (OpensAt.cons (f := fld 3 0) rfl (Opens.int Try.underlying3) (by kernel_rfl) (OpensAt.last (f := fld 3 1) rfl (Opens.int Try.underlying3) (by kernel_rfl))) Try.underlying23 ?_ (by kernel_rfl)) (fun x h => h)
  · intro f hf
    have e : Try.prog.cellsOf 3 = 1 := by kernel_rfl
    rw [e]
    simp only [List.mem_cons, List.not_mem_nil, or_false] at hf
    rcases hf with rfl | rfl
    · exact ⟨0, by omega, rfl, rfl⟩
    · exact ⟨1, by omega, rfl, rfl⟩
theorem opensA3 : Opens Try.prog 43 (Kd.pair (Kd.int .i64) (Kd.pair (Kd.int .i64) (Kd.int .i64))) (fun x => isI64 x.1 ∧ isI64 x.2.1 ∧ isI64 x.2.2) := by
  refine Opens.imp (OpensAt.array (fs := [fld 3 0, fld 3 1, fld 3 2]) (OpensAt.cons (f := fld 3 0) rfl (Opens.int Try.underlying3) (by kernel_rfl) (OpensAt.cons (f := fld 3 1) rfl (Opens.int Try.underlying3) (by kernel_rfl) (OpensAt.last (f := fld 3 2) rfl (Opens.int Try.underlying3) (by kernel_rfl)))) Try.underlying43 ?_ (by kernel_rfl)) (fun x h => h)
  · intro f hf
    have e : Try.prog.cellsOf 3 = 1 := by kernel_rfl
    rw [e]
    simp only [List.mem_cons, List.not_mem_nil, or_false] at hf
    rcases hf with rfl | rfl | rfl
    · exact ⟨0, by omega, rfl, rfl⟩
    · exact ⟨1, by omega, rfl, rfl⟩
    · exact ⟨2, by omega, rfl, rfl⟩
theorem pair_open {w : World} {x : Int × Int} {cs : List Value} (h : (Kd.pair (Kd.int .i64) (Kd.int .i64)).K w x cs) : cs = [.int .i64 x.1, .int .i64 x.2] := by
  obtain ⟨c1, c2, rfl, h1, h2⟩ := h
  cases h1; cases h2; rfl
theorem triple_open {w : World} {x : Int × Int × Int} {cs : List Value} (h : (Kd.pair (Kd.int .i64) (Kd.pair (Kd.int .i64) (Kd.int .i64))).K w x cs) : cs = [.int .i64 x.1, .int .i64 x.2.1, .int .i64 x.2.2] := by
  obtain ⟨c1, c2, rfl, h1, h2⟩ := h
  rw [pair_open h2]
  cases h1; rfl
end Go.Proofs.Ytncdeappiooccaa.H
