/- What the laid table gives the walks. -/
import Derived.Test.YtdhkhbejedndoaaDoorCards
import Derived.Test.YtdhkhbejedndoaaDoorTie
import Derived.Test.YtdhkhbejedndoaaDoorBit3
import Derived.ProofKit
import Derived.LaidMore
import Derived.OpenShut
import Derived.MakeChecks
namespace Go.Proofs.YtdhkhbejedndoaaDoor.LaidT
open Go.ChangeShapes Go.WideShapes Go.ChangeAt Go.WideMaps Go.WideElems Go.RowKit
def laidL : List (String × DataW Unit) := [("math/bits.deBruijn64tab", Rows.laid_math_bits_deBruijn64tab)]
theorem gTab : Tryd.prog.globalNamed "math/bits.deBruijn64tab" = some 0 := by kernel_rfl
theorem tTab : (Tryd.prog.globals[0]?).map (·.type) = some 59 := by kernel_rfl
theorem u5 : Tryd.prog.underlying 5 = some (.int .u8) := by kernel_rfl
theorem c5 : Tryd.prog.cellsOf 5 = 1 := by kernel_rfl
theorem datum : (Rows.laid_math_bits_deBruijn64tab : DataW Unit) = .agg (Lib.deBruijn64tab.map fun (k : Nat) => DataW.lit (.int .u8 (k : Int))) := by rfl
theorem door_met (os : Os) (args : Array Value) : laidMetH Tryd.prog laidL ((World.doorLaid Tryd.prog 400 os).forCall (fun _ _ => 0) ⟨#[], args, []⟩).memory :=
  laidMetH_of_parts3 (fuel := 8) (laidMet_of_run' 8 (by kernel_rfl) (by kernel_rfl)) (by kernel_rfl) (by kernel_rfl)
theorem tab_of_laid {W : World} (h : laidMetH Tryd.prog laidL W) : TabAt 0 Lib.deBruijn64tab W := by
  rw [MakeChecks.laidMetH_plain _ _ _ (by kernel_rfl)] at h
  obtain ⟨ps, ⟨g0, t0, cs0, f0, p0, q0, hg0, ht0, hv0, hd0, _, _⟩, _, _⟩ := h
  obtain rfl := Option.some.inj (gTab.symm.trans hg0)
  obtain rfl := Option.some.inj (tTab.symm.trans ht0)
  obtain ⟨xs, m, rfl, hx, hlen, hn, hel⟩ := DataW.trod_array Tryd.underlying59 hd0
  rw [datum] at hx
  simp only [Prod.mk.injEq, DataW.agg.injEq] at hx
  have hx1 := hx.1
  intro j hj
  have hj64 : j < 64 := hj
  have h0 := hel j hj64
  have hjx : j < xs.length := by rw [hn]; exact hj64
  rw [List.getElem?_eq_getElem hjx] at h0
  obtain ⟨k, e1, e2, _⟩ := DataW.trod_int u5 h0
  have e3 : (xs.map (·.1))[j]? = some (.lit (.int .u8 k)) := by
    rw [List.getElem?_map, List.getElem?_eq_getElem hjx, e2]; rfl
  rw [← hx1, List.getElem?_map, List.getElem?_eq_getElem hj] at e3
  have e4 : ((Lib.deBruijn64tab[j] : Nat) : Int) = k := by
    have e6 := Option.some.inj e3
    injection e6 with e7
    injection e7 with _ e8
  have hc := World.var?_cell hg0 hv0 j
  rw [hc]
  rw [c5, Nat.mul_one] at e1
  have e5 : (cs0.toList.drop j)[0]? = some (.int .u8 k) := by
    have : ((cs0.toList.drop j).take 1)[0]? = some (.int .u8 k) := by rw [e1]; rfl
    rwa [List.getElem?_take_of_lt (by decide)] at this
  rw [List.getElem?_drop, Nat.add_zero] at e5
  rw [← Array.getElem?_toList, e5, ← e4, List.getD_eq_getElem?_getD, List.getElem?_eq_getElem hj]
  rfl
end Go.Proofs.YtdhkhbejedndoaaDoor.LaidT
