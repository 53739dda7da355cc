/- How requests, responses and bytes are opened. -/
import Derived.Test.YtpaknjmcjblahaaCOpen
import Derived.Test.YtpaknjmcjblahaaCOpen2
import Derived.Test.YtpaknjmcjblahaaCWirF
import Derived.Test.YtpaknjmcjblahaaCWirQ
import Derived.Test.YtpaknjmcjblahaaCPx0
import Derived.Test.YtpaknjmcjblahaaCPx1
import Derived.Test.YtpaknjmcjblahaaCNum7
import Derived.Test.YtpaknjmcjblahaaCPx3
import Derived.Test.YtpaknjmcjblahaaCPx4
import Derived.Test.YtpaknjmcjblahaaCWirB
import Derived.Deep.RegionHeld3
import Derived.Test.YtpaknjmcjblahaaCWirJ
import Derived.Test.YtpaknjmcjblahaaCWir7
import Derived.Test.YtpaknjmcjblahaaCWirL
namespace Go.Proofs.Ytpaknjmcjblahaa.H
open Go.RowKit Go.Proofs.Ytpaknjmcjblahaa.P Go.Proofs.Ytpaknjmcjblahaa.Open Go.Proofs.YtpaknjmcjblahaaW.PrintWords Go.Proofs.YtpaknjmcjblahaaW.PrintLast
set_option linter.unusedVariables false
def isU32 (x : Int) : Prop := 0 ≤ x ∧ x ≤ 4294967295
theorem u32_of {x : Int} (h : (Lit.int .u32 x).wf = true) : isU32 x := by
  simp only [Lit.wf, Bool.and_eq_true, decide_eq_true_eq] at h
  have e1 : IntKind.u32.min = 0 := rfl
  have e2 : IntKind.u32.max = 4294967295 := rfl
  unfold isU32
  omega
theorem opensBytes : Opens Try.prog 37 (Kd.slice 5 (Kd.int .u8)) (fun l => bytes l) :=
  Opens.slice Try.underlying37 ((Opens.int Try.underlying5).imp (J := fun x => 0 ≤ x ∧ x ≤ 255) fun x h => by
    simp only [Lit.wf, Bool.and_eq_true, decide_eq_true_eq] at h
    have e1 : IntKind.u8.min = 0 := rfl
    have e2 : IntKind.u8.max = 255 := rfl
    omega) (by kernel_rfl)
theorem opensRange : Opens Try.prog 27 k27 (fun x => isU32 x.f0 ∧ isU32 x.f1) := by
  refine' Opens.imp (Opens.iso (fun x : S27 => (x.f0, x.f1)) (fun y => ⟨y.1, y.2⟩) (fun _ => rfl) (OpensAt.struct' ?h Try.underlying27 (by kernel_rfl))) ?i
  case h => exact OpensAt.cons rfl (Opens.int Try.underlying25) (by kernel_rfl) (OpensAt.last rfl (Opens.int Try.underlying25) (by kernel_rfl))
  case i => exact fun x h => ⟨u32_of h.1, u32_of h.2⟩
theorem opensRule : Opens Try.prog 29 k29 okRu := by
  refine' Opens.imp (Opens.iso (fun x : Ru => (x.f0, x.f1, x.f2, x.f3, x.f4, x.f5)) (fun y => ⟨y.1, y.2.1, y.2.2.1, y.2.2.2.1, y.2.2.2.2.1, y.2.2.2.2.2⟩) (fun _ => rfl) (OpensAt.struct' ?h Try.underlying29 (by kernel_rfl))) ?i
  case h => exact OpensAt.cons rfl (Opens.int Try.underlying3) (by kernel_rfl) (OpensAt.cons rfl (Opens.int Try.underlying3) (by kernel_rfl) (OpensAt.cons rfl (Opens.int Try.underlying3) (by kernel_rfl) (OpensAt.cons rfl (Opens.int Try.underlying24) (by kernel_rfl) (OpensAt.cons rfl opensRange (by kernel_rfl) (OpensAt.last rfl (Opens.int Try.underlying3) (by kernel_rfl))))))
  case i => exact fun x h => ⟨h.2.2.2.2.1.1, h.2.2.2.2.1.2⟩
abbrev kI := Kd.int .i64
abbrev TRq := Int × Int × ByteArray × (Int × Ru) × (Int × Int × Int × Int × S27 × ByteArray)
def kRq : Kd TRq := Kd.pair kI (Kd.pair kI (Kd.pair Kd.string (Kd.pair (Kd.pair kI k29) (Kd.pair kI (Kd.pair kI (Kd.pair kI (Kd.pair kI (Kd.pair k27 Kd.string))))))))
def rqOf (x : TRq) : Rq := ⟨x.1, x.2.1, x.2.2.1, x.2.2.2.1.1, x.2.2.2.1.2, x.2.2.2.2.1, x.2.2.2.2.2.1, x.2.2.2.2.2.2.1, x.2.2.2.2.2.2.2.1, x.2.2.2.2.2.2.2.2.1.f0, x.2.2.2.2.2.2.2.2.1.f1, x.2.2.2.2.2.2.2.2.2⟩
theorem opensEdit : Opens Try.prog 31 (Kd.pair kI k29) (fun x => okRu x.2) := by
  refine' Opens.imp (OpensAt.struct' ?h Try.underlying31 (by kernel_rfl)) ?i
  case h => exact OpensAt.cons rfl (Opens.int Try.underlying23) (by kernel_rfl) (OpensAt.last rfl opensRule (by kernel_rfl))
  case i => exact fun x h => h.2
theorem opensQuery : Opens Try.prog 34 (Kd.pair kI (Kd.pair kI (Kd.pair kI (Kd.pair kI (Kd.pair k27 Kd.string))))) (fun x => isU32 x.2.2.2.2.1.f0 ∧ isU32 x.2.2.2.2.1.f1) := by
  refine' Opens.imp (OpensAt.struct' ?h Try.underlying34 (by kernel_rfl)) ?i
  case h => exact OpensAt.cons rfl (Opens.int Try.underlying32) (by kernel_rfl) (OpensAt.cons rfl (Opens.int Try.underlying3) (by kernel_rfl) (OpensAt.cons rfl (Opens.int Try.underlying3) (by kernel_rfl) (OpensAt.cons rfl (Opens.int Try.underlying3) (by kernel_rfl) (OpensAt.cons rfl opensRange (by kernel_rfl) (OpensAt.last rfl (Opens.string Try.underlying9) (by kernel_rfl))))))
  case i => exact fun x h => h.2.2.2.2.1
theorem opensReq : Opens Try.prog 36 kRq (fun x => okRq (rqOf x)) := by
  refine' Opens.imp (OpensAt.struct' ?h Try.underlying36 (by kernel_rfl)) ?i
  case h => exact OpensAt.cons rfl (Opens.int Try.underlying22) (by kernel_rfl) (OpensAt.cons rfl (Opens.int Try.underlying3) (by kernel_rfl) (OpensAt.cons rfl (Opens.string Try.underlying9) (by kernel_rfl) (OpensAt.cons rfl opensEdit (by kernel_rfl) (OpensAt.last rfl opensQuery (by kernel_rfl)))))
  case i => exact fun x h => ⟨h.2.2.2.1, h.2.2.2.2⟩
theorem req_open {w : World} {x : TRq} {cs : List Value} (h : kRq.K w x cs) : cs = rqVals (rqOf x) := by
  obtain ⟨_, _, rfl, a1, _, _, rfl, a2, _, _, rfl, a3, _, _, rfl, ⟨_, _, rfl, a4, a5⟩, _, _, rfl, a6, _, _, rfl, a7, _, _, rfl, a8, _, _, rfl, a9, _, _, rfl, a10, a11⟩ := h
  cases a1; cases a2; cases a3; cases a4; cases a6; cases a7; cases a8; cases a9; cases a11
  rw [k29_open a5, k27_open a10]
  rfl
end Go.Proofs.Ytpaknjmcjblahaa.H
