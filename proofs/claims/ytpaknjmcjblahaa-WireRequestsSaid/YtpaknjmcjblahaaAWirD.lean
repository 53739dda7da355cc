/- list, of numbers and of rules: walked. -/
import Derived.Test.YtpaknjmcjblahaaAWirP
import Derived.Test.YtpaknjmcjblahaaAWirB
import Derived.Deep.LoopGhost
namespace Go.Proofs.Ytpaknjmcjblahaa.H
open Go.RowKit Go.Proofs.Ytpaknjmcjblahaa.P Go.Proofs.YtpaknjmcjblahaaW.PrintWords Go.Proofs.YtpaknjmcjblahaaW.PrintLast Go.Proofs.YtpaknjmcjblahaaW.PrintMore
set_option linter.unusedVariables false
set_option linter.unusedSimpArgs false
set_option maxRecDepth 20000
theorem R_grownBase {α : Type} {d : Kd α} {e base : Nat} {W W' : World} {v : Value} {xs : List α} (hR : d.R e W base (fun _ => True) v xs) (hg : W.grownBy W' v.ownBlock) (hs : base ≤ W.heap.size) : ∀ k, k < base → W'.heap[k]? = W.heap[k]? :=
  fun k hk => hg.block k (by omega) (fun e => by have := Kd.R_base hR k e.symm; omega)
end Go.Proofs.Ytpaknjmcjblahaa.H
