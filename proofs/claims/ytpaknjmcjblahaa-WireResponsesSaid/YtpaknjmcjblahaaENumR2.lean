/- NumR2. -/
import Derived.Test.YtpaknjmcjblahaaENumR1
namespace Go.Proofs.Ytpaknjmcjblahaa.H
open Go.RowKit Go.Proofs.Ytpaknjmcjblahaa.P Go.Proofs.YtpaknjmcjblahaaW.PrintWords Go.Proofs.YtpaknjmcjblahaaW.PrintLast Go.Proofs.YtpaknjmcjblahaaW.PrintMore
set_option linter.unusedVariables false
set_option maxRecDepth 20000
set_option linter.unusedSimpArgs false
theorem RM.drewN {w : World} {g d i : Nat} {bad : Bool} {b : List Int} {B : Option Addr} (h : RM w g B d b i bad) (n : Nat) : RM (w.drewN n) g B d b i bad := h
end Go.Proofs.Ytpaknjmcjblahaa.H
