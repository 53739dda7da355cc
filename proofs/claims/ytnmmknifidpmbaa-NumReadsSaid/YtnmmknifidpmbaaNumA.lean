import Derived.Test.YtnmmknifidpmbaaOpen
import Derived.Test.YtnmmknifidpmbaaNumB
namespace Go.Proofs.Ytnmmknifidpmbaa.H
open Go.RowKit Go.Proofs.Ytnmmknifidpmbaa.P Go.Proofs.Ytnmmknifidpmbaa.Open Go.Proofs.YtnmmknifidpmbaaW.PrintWords Go.Proofs.YtnmmknifidpmbaaW.PrintLast
/-- How the acts of a script, and bytes, are opened. -/
theorem opensAct : Opens Try.prog 26 k26 ActOk := by
  refine' Opens.imp (Opens.iso (fun x : S26 => (x.f0, x.f1, x.f2, x.f3, x.f4)) (fun y => ⟨y.1, y.2.1, y.2.2.1, y.2.2.2.1, y.2.2.2.2⟩) (fun _ => rfl) (OpensAt.struct' ?h Try.underlying26 (by kernel_rfl))) ?i
  case h =>
    exact OpensAt.cons rfl (Opens.int Try.underlying3) (by kernel_rfl) (OpensAt.cons rfl (Opens.int Try.underlying3) (by kernel_rfl) (OpensAt.cons rfl (Opens.int Try.underlying24) (by kernel_rfl)
      (OpensAt.cons rfl (Opens.int Try.underlying24) (by kernel_rfl) (OpensAt.last rfl (Opens.string Try.underlying9) (by kernel_rfl)))))
  case i =>
    intro x h
    have h1 := h.2.2.1
    simp only [Lit.wf, Bool.and_eq_true, decide_eq_true_eq] at h1
    have e1 : IntKind.u64.min = 0 := rfl
    have e2 : IntKind.u64.max = 18446744073709551615 := rfl
    unfold ActOk
    omega
theorem opensActs : Opens Try.prog 22 (Kd.slice 26 k26) (fun l => ∀ x ∈ l, ActOk x) := Opens.slice Try.underlying22 opensAct (by kernel_rfl)
theorem opensBytes : Opens Try.prog 23 (Kd.slice 5 (Kd.int .u8)) (fun l => bytes l) :=
  Opens.slice Try.underlying23 ((Opens.int Try.underlying5).imp (J := fun x => 0 ≤ x ∧ x ≤ 255) fun x h => by
    simp only [Lit.wf, Bool.and_eq_true, decide_eq_true_eq] at h
    have e1 : IntKind.u8.min = 0 := rfl
    have e2 : IntKind.u8.max = 255 := rfl
    omega) (by kernel_rfl)
end Go.Proofs.Ytnmmknifidpmbaa.H
