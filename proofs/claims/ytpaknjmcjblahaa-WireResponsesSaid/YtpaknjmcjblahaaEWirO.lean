/- WirO. -/
import Derived.Test.YtpaknjmcjblahaaEOpen2
import Derived.Test.YtpaknjmcjblahaaEWirF
import Derived.Test.YtpaknjmcjblahaaEWirH
import Derived.Test.YtpaknjmcjblahaaEWirJ
import Derived.Test.YtpaknjmcjblahaaEWir7
import Derived.Deep.RegionHeld3
import Derived.Test.YtpaknjmcjblahaaEWirM
namespace Go.Proofs.Ytpaknjmcjblahaa.H
open Go.RowKit Go.Proofs.Ytpaknjmcjblahaa.P Go.Proofs.Ytpaknjmcjblahaa.Open Go.Proofs.YtpaknjmcjblahaaW.PrintWords Go.Proofs.YtpaknjmcjblahaaW.PrintLast
set_option linter.unusedVariables false
def isU32 (x : Int) : Prop := 0 ≤ x ∧ x ≤ 4294967295
theorem u32_of {x : Int} (h : (Lit.int .u32 x).wf = true) : isU32 x := by
  simp only [Lit.wf, Bool.and_eq_true, decide_eq_true_eq] at h
  have e1 : IntKind.u32.min = 0 := rfl
  have e2 : IntKind.u32.max = 4294967295 := rfl
  unfold isU32
  omega
theorem opensBytes : Opens Try.prog 37 (Kd.slice 5 (Kd.int .u8)) (fun l => bytes l) :=
  Opens.slice Try.underlying37 ((Opens.int Try.underlying5).imp (J := fun x => 0 ≤ x ∧ x ≤ 255) fun x h => by
    simp only [Lit.wf, Bool.and_eq_true, decide_eq_true_eq] at h
    have e1 : IntKind.u8.min = 0 := rfl
    have e2 : IntKind.u8.max = 255 := rfl
    omega) (by kernel_rfl)
theorem opensRange : Opens Try.prog 27 k27 (fun x => isU32 x.f0 ∧ isU32 x.f1) := by
  refine' Opens.imp (Opens.iso (fun x : S27 => (x.f0, x.f1)) (fun y => ⟨y.1, y.2⟩) (fun _ => rfl) (OpensAt.struct' ?h Try.underlying27 (by kernel_rfl))) ?i
  case h => exact OpensAt.cons rfl (Opens.int Try.underlying25) (by kernel_rfl) (OpensAt.last rfl (Opens.int Try.underlying25) (by kernel_rfl))
  case i => exact fun x h => ⟨u32_of h.1, u32_of h.2⟩
theorem opensRule : Opens Try.prog 29 k29 okRu := by
  refine' Opens.imp (Opens.iso (fun x : Ru => (x.f0, x.f1, x.f2, x.f3, x.f4, x.f5)) (fun y => ⟨y.1, y.2.1, y.2.2.1, y.2.2.2.1, y.2.2.2.2.1, y.2.2.2.2.2⟩) (fun _ => rfl) (OpensAt.struct' ?h Try.underlying29 (by kernel_rfl))) ?i
  case h => exact OpensAt.cons rfl (Opens.int Try.underlying3) (by kernel_rfl) (OpensAt.cons rfl (Opens.int Try.underlying3) (by kernel_rfl) (OpensAt.cons rfl (Opens.int Try.underlying3) (by kernel_rfl) (OpensAt.cons rfl (Opens.int Try.underlying24) (by kernel_rfl) (OpensAt.cons rfl opensRange (by kernel_rfl) (OpensAt.last rfl (Opens.int Try.underlying3) (by kernel_rfl))))))
  case i => exact fun x h => ⟨h.2.2.2.2.1.1, h.2.2.2.2.1.2⟩
theorem opensRules : Opens Try.prog 41 (Kd.slice 29 k29) (fun l => ∀ x ∈ l, okRu x) := Opens.slice Try.underlying41 opensRule (by kernel_rfl)
abbrev kI := Kd.int .i64
abbrev TRs := Int × Int × List Int × List Ru × (Bool × Int × Int × (List Int × Int × (Int × Int)))
def kRs : Kd TRs := Kd.pair kI (Kd.pair kI (Kd.pair (Kd.slice 3 kI) (Kd.pair (Kd.slice 29 k29) (Kd.pair Kd.bool (Kd.pair kI (Kd.pair (Kd.int .u32) (Kd.pair (Kd.slice 3 kI) (Kd.pair kI (Kd.pair kI kI)))))))))
def rsOf (x : TRs) : Rs := ⟨x.1, x.2.1, x.2.2.1, x.2.2.2.1, x.2.2.2.2.1, x.2.2.2.2.2.1, x.2.2.2.2.2.2.1, x.2.2.2.2.2.2.2.1, x.2.2.2.2.2.2.2.2.1, x.2.2.2.2.2.2.2.2.2.1, x.2.2.2.2.2.2.2.2.2.2⟩
theorem opensPort : Opens Try.prog 44 (Kd.pair kI kI) (fun _ => True) := by
  refine' Opens.imp (OpensAt.struct' ?h Try.underlying44 (by kernel_rfl)) ?i
  case h => exact OpensAt.cons rfl (Opens.int Try.underlying3) (by kernel_rfl) (OpensAt.last rfl (Opens.int Try.underlying3) (by kernel_rfl))
  case i => exact fun _ _ => trivial
theorem opensTrace : Opens Try.prog 46 (Kd.pair (Kd.slice 3 kI) (Kd.pair kI (Kd.pair kI kI))) (fun _ => True) := by
  refine' Opens.imp (OpensAt.struct' ?h Try.underlying46 (by kernel_rfl)) ?i
  case h => exact OpensAt.cons rfl (Opens.slice Try.underlying40 (Opens.int Try.underlying3) (by kernel_rfl)) (by kernel_rfl) (OpensAt.cons rfl (Opens.int Try.underlying42) (by kernel_rfl) (OpensAt.last rfl opensPort (by kernel_rfl)))
  case i => exact fun _ _ => trivial
theorem opensVerdict : Opens Try.prog 48 (Kd.pair Kd.bool (Kd.pair kI (Kd.pair (Kd.int .u32) (Kd.pair (Kd.slice 3 kI) (Kd.pair kI (Kd.pair kI kI)))))) (fun x => isU32 x.2.2.1) := by
  refine' Opens.imp (OpensAt.struct' ?h Try.underlying48 (by kernel_rfl)) ?i
  case h => exact OpensAt.cons rfl (Opens.bool Try.underlying4) (by kernel_rfl) (OpensAt.cons rfl (Opens.int Try.underlying3) (by kernel_rfl) (OpensAt.cons rfl (Opens.int Try.underlying25) (by kernel_rfl) (OpensAt.last rfl opensTrace (by kernel_rfl))))
  case i => exact fun x h => u32_of h.2.2.1
def okRs (r : Rs) : Prop := (∀ x ∈ r.rules, okRu x) ∧ isU32 r.ad
theorem opensRs : Opens Try.prog 50 kRs (fun x => okRs (rsOf x)) := by
  refine' Opens.imp (OpensAt.struct' ?h Try.underlying50 (by kernel_rfl)) ?i
  case h => exact OpensAt.cons rfl (Opens.int Try.underlying39) (by kernel_rfl) (OpensAt.cons rfl (Opens.int Try.underlying3) (by kernel_rfl) (OpensAt.cons rfl (Opens.slice Try.underlying40 (Opens.int Try.underlying3) (by kernel_rfl)) (by kernel_rfl) (OpensAt.cons rfl opensRules (by kernel_rfl) (OpensAt.last rfl opensVerdict (by kernel_rfl)))))
  case i => exact fun x h => ⟨h.2.2.2.1, h.2.2.2.2⟩
theorem rs_open {w : World} {x : TRs} {cs : List Value} (h : kRs.K w x cs) : ∃ A2 c2 A3 c3 A7 c7, cs = rsVals (.slice A2 (rsOf x).ids.length c2) (.slice A3 (rsOf x).rules.length c3) (.slice A7 (rsOf x).dv.length c7) (rsOf x) ∧
    Kd.C kI w A2 (rsOf x).ids.length (rsOf x).ids ∧ (rsOf x).ids.length ≤ c2 ∧ Kd.C k29 w A3 (rsOf x).rules.length (rsOf x).rules ∧ (rsOf x).rules.length ≤ c3 ∧ Kd.C kI w A7 (rsOf x).dv.length (rsOf x).dv ∧ (rsOf x).dv.length ≤ c7 := by
  obtain ⟨_, _, rfl, a1, _, _, rfl, a2, _, _, rfl, ⟨A2, c2, rfl, l2, h2⟩, _, _, rfl, ⟨A3, c3, rfl, l3, h3⟩, _, _, rfl, a5, _, _, rfl, a6, _, _, rfl, a7, _, _, rfl, ⟨A7, c7, rfl, l7, h7⟩, _, _, rfl, a9, _, _, rfl, a10, a11⟩ := h
  cases a1; cases a2; cases a5; cases a6; cases a7; cases a9; cases a10; cases a11
  exact ⟨A2, c2, A3, c3, A7, c7, rfl, h2, l2, h3, l3, h7, l7⟩
end Go.Proofs.Ytpaknjmcjblahaa.H
