import Derived.Test.YtglfpobapkkgdaaTopoA
namespace Go.Proofs.Ytglfpobapkkgdaa.H
open Go.RowKit Go.Proofs.Ytglfpobapkkgdaa.P Go.Proofs.Ytglfpobapkkgdaa.Open Go.Proofs.YtglfpobapkkgdaaW.PrintWords Go.Proofs.YtglfpobapkkgdaaW.PrintLast
set_option linter.unusedVariables false
/-- How rules are opened. -/
theorem opensRange : Opens Try.prog 61 k61 (fun _ => True) := by
  refine' Opens.imp (Opens.iso (fun x : S61 => (x.f0, x.f1)) (fun y => ⟨y.1, y.2⟩) (fun _ => rfl) (OpensAt.struct' ?h Try.underlying61 (by kernel_rfl))) ?i
  case h => exact OpensAt.cons rfl (Opens.int Try.underlying59) (by kernel_rfl) (OpensAt.last rfl (Opens.int Try.underlying59) (by kernel_rfl))
  case i => exact fun x h => trivial
theorem opensRule : Opens Try.prog 63 k63 (fun _ => True) := by
  refine' Opens.imp (Opens.iso (fun x : S63 => (x.f0, x.f1, x.f2, x.f3, x.f4, x.f5)) (fun y => ⟨y.1, y.2.1, y.2.2.1, y.2.2.2.1, y.2.2.2.2.1, y.2.2.2.2.2⟩) (fun _ => rfl) (OpensAt.struct' ?h Try.underlying63 (by kernel_rfl))) ?i
  case h => exact OpensAt.cons rfl (Opens.int Try.underlying3) (by kernel_rfl) (OpensAt.cons rfl (Opens.int Try.underlying3) (by kernel_rfl) (OpensAt.cons rfl (Opens.int Try.underlying3) (by kernel_rfl) (OpensAt.cons rfl (Opens.int Try.underlying58) (by kernel_rfl) (OpensAt.cons rfl opensRange (by kernel_rfl) (OpensAt.last rfl (Opens.int Try.underlying3) (by kernel_rfl))))))
  case i => exact fun x h => trivial
theorem opensRules : Opens Try.prog 41 (Kd.slice 63 k63) (fun _ => True) := Opens.imp (Opens.slice Try.underlying41 opensRule (by kernel_rfl)) (fun _ _ => trivial)
end Go.Proofs.Ytglfpobapkkgdaa.H
