/- How the laws' arguments are opened. -/
import Derived.Test.YtdhkhbejedndoaaDoorOpen2
import Derived.Test.YtdhkhbejedndoaaDoorBitF
namespace Go.Proofs.YtdhkhbejedndoaaDoor.H
open Go.RowKit Go.Proofs.YtdhkhbejedndoaaDoor.P Go.Proofs.YtdhkhbejedndoaaDoor.Open Go.Proofs.YtdhkhbejedndoaaDoorW.PrintWords Go.Proofs.YtdhkhbejedndoaaDoorW.PrintLast
set_option linter.unusedVariables false
def fld (t o : Nat) : Field := { name := "", type := t, offset := o, embedded := false, tag := "", pkgPath := "", byteOffset := 0 }
theorem opensInts : Opens Tryd.prog 22 (Kd.slice 3 (Kd.int .i64)) (fun x => ∀ y ∈ x, isI64 y) := Opens.slice Tryd.underlying22 (Opens.int Tryd.underlying3) (by kernel_rfl)
theorem opensA2 : Opens Tryd.prog 35 (Kd.pair (Kd.int .i64) (Kd.int .i64)) (fun x => isI64 x.1 ∧ isI64 x.2) := by
  refine Opens.imp (OpensAt.array (fs := [fld 3 0, fld 3 1]) (OpensAt.cons (f := fld 3 0) rfl (Opens.int Tryd.underlying3) (by kernel_rfl) (OpensAt.last (f := fld 3 1) rfl (Opens.int Tryd.underlying3) (by kernel_rfl))) Tryd.underlying35 ?_ (by kernel_rfl)) (fun x h => h)
  · intro f hf
    have e : Tryd.prog.cellsOf 3 = 1 := by kernel_rfl
    rw [e]
    simp only [List.mem_cons, List.not_mem_nil, or_false] at hf
    rcases hf with rfl | rfl
    · exact ⟨0, by omega, rfl, rfl⟩
    · exact ⟨1, by omega, rfl, rfl⟩
theorem pair_open {w : World} {x : Int × Int} {cs : List Value} (h : (Kd.pair (Kd.int .i64) (Kd.int .i64)).K w x cs) : cs = [.int .i64 x.1, .int .i64 x.2] := by
  obtain ⟨c1, c2, rfl, h1, h2⟩ := h
  cases h1; cases h2; rfl
theorem opensTwo : Opens Tryd.prog 45 (Kd.pair (Kd.slice 3 (Kd.int .i64)) (Kd.slice 3 (Kd.int .i64))) (fun x => (∀ y ∈ x.1, isI64 y) ∧ ∀ y ∈ x.2, isI64 y) := by
  refine' Opens.imp (OpensAt.struct' ?h Tryd.underlying45 (by kernel_rfl)) ?i
  case h => exact OpensAt.cons rfl opensInts (by kernel_rfl) (OpensAt.last rfl opensInts (by kernel_rfl))
  case i => exact fun x h => h
theorem two_open {w : World} {x : List Int × List Int} {cs : List Value} (h : (Kd.pair (Kd.slice 3 (Kd.int .i64)) (Kd.slice 3 (Kd.int .i64))).K w x cs) :
    ∃ A1 c1 A2 c2, cs = [.slice A1 x.1.length c1, .slice A2 x.2.length c2] ∧ x.1.length ≤ c1 ∧ x.2.length ≤ c2 ∧ Kd.C (Kd.int .i64) w A1 x.1.length x.1 ∧ Kd.C (Kd.int .i64) w A2 x.2.length x.2 := by
  obtain ⟨c1, c2, rfl, h1, h2⟩ := h
  obtain ⟨A1, d1, e1, hc1, hr1⟩ := h1
  obtain ⟨A2, d2, e2, hc2, hr2⟩ := h2
  exact ⟨A1, d1, A2, d2, by rw [e1, e2]; rfl, hc1, hc2, hr1, hr2⟩
end Go.Proofs.YtdhkhbejedndoaaDoor.H
