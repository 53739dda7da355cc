import Derived.Test.YtnmmknifidpmbaaNumA
import Derived.Test.YtnmmknifidpmbaaNumR
namespace Go.Proofs.Ytnmmknifidpmbaa.H
open Go.RowKit Go.Proofs.Ytnmmknifidpmbaa.P Go.Proofs.Ytnmmknifidpmbaa.Open Go.Proofs.YtnmmknifidpmbaaW.PrintWords Go.Proofs.YtnmmknifidpmbaaW.PrintLast
theorem opensAct2 : Opens Try.prog 26 k26 ActOk2 := by
  refine' Opens.imp (Opens.iso (fun x : S26 => (x.f0, x.f1, x.f2, x.f3, x.f4)) (fun y => ⟨y.1, y.2.1, y.2.2.1, y.2.2.2.1, y.2.2.2.2⟩) (fun _ => rfl) (OpensAt.struct' ?h Try.underlying26 (by kernel_rfl))) ?i
  case h =>
    exact OpensAt.cons rfl (Opens.int Try.underlying3) (by kernel_rfl) (OpensAt.cons rfl (Opens.int Try.underlying3) (by kernel_rfl) (OpensAt.cons rfl (Opens.int Try.underlying24) (by kernel_rfl)
      (OpensAt.cons rfl (Opens.int Try.underlying24) (by kernel_rfl) (OpensAt.last rfl (Opens.string Try.underlying9) (by kernel_rfl)))))
  case i =>
    intro x h
    have h1 := h.2.1
    have h3 := h.2.2.2.1
    simp only [Lit.wf, Bool.and_eq_true, decide_eq_true_eq] at h1 h3
    have e1 : IntKind.u64.min = 0 := rfl
    have e2 : IntKind.u64.max = 18446744073709551615 := rfl
    have e3 : IntKind.i64.min = -9223372036854775808 := rfl
    have e4 : IntKind.i64.max = 9223372036854775807 := rfl
    unfold ActOk2
    omega
theorem opensActs2 : Opens Try.prog 22 (Kd.slice 26 k26) (fun l => ∀ x ∈ l, ActOk2 x) := Opens.slice Try.underlying22 opensAct2 (by kernel_rfl)
end Go.Proofs.Ytnmmknifidpmbaa.H
