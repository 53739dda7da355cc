/- Num8 -/
import Derived.Test.YtpaknjmcjblahaaCNum7
namespace Go.Proofs.Ytpaknjmcjblahaa.H
open Go.RowKit Go.Proofs.Ytpaknjmcjblahaa.P Go.Proofs.YtpaknjmcjblahaaW.PrintWords Go.Proofs.YtpaknjmcjblahaaW.PrintLast Go.Proofs.YtpaknjmcjblahaaW.PrintMore
set_option linter.unusedVariables false
set_option linter.unusedSimpArgs false
theorem RD.set {w : World} {g : Nat} {l : List Int} (h : RD w g l) {B : Option Addr} {n : Nat} {m : List Int} (hC : Kd.C (Kd.int .u8) w B n m) (v : Value) : Kd.C (Kd.int .u8) (w.setCell ⟨g, 0, none⟩ v) B n m := by
  obtain ⟨A, c, hg, _, _⟩ := h
  exact C_setCell hC hg (fun _ _ h => h) (RD.apart hg hC)
theorem RD.below {w w' : World} {g : Nat} {l : List Int} (h : RD w g l) (hb : Below w.heap.size w w') : RD w' g l := by
  obtain ⟨A, c, hg, hc, hr, hbl⟩ := h
  exact ⟨A, c, blk_below hg hb, hc, Kd.C_below hr hb, hbl⟩
end Go.Proofs.Ytpaknjmcjblahaa.H
