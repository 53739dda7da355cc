/- NumB2 -/
import Derived.Test.YtpaknjmcjblahaaCNumB1
import Derived.Deep.RegionHeld3
import Derived.Test.YtpaknjmcjblahaaCReg
namespace Go.Proofs.Ytpaknjmcjblahaa.H
open Go.RowKit Go.Proofs.Ytpaknjmcjblahaa.P Go.Proofs.YtpaknjmcjblahaaW.PrintWords Go.Proofs.YtpaknjmcjblahaaW.PrintLast Go.Proofs.YtpaknjmcjblahaaW.PrintMore
set_option linter.unusedVariables false
set_option maxRecDepth 20000
set_option linter.unusedSimpArgs false
theorem put_pos (n : Nat) : (put n).length ≠ 0 := by rw [put_len]; split <;> omega
theorem str_bytesOf (s : ByteArray) : strOfNums (bytesOf s) = s := by
  have := WideShapes.bytes_inj (a := strOfNums (bytesOf s)) (b := s)
  apply WideShapes.bytes_inj
  have : ∀ l : List UInt8, l.map ((fun n : Int => UInt8.ofNat n.toNat) ∘ fun b : UInt8 => (b.toNat : Int)) = l := fun l => by
    induction l with
    | nil => rfl
    | cons b l ih => simp [ih]
  simp [strOfNums, bytesOf, this]
theorem bytesOf_len (s : ByteArray) : (bytesOf s).length = s.size := by
  unfold bytesOf
  rw [List.length_map]
  rfl
end Go.Proofs.Ytpaknjmcjblahaa.H
