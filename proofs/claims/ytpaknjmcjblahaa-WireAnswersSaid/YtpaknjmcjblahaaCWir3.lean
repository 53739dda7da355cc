/- The document's reader: N, T: walked. -/
import Derived.Test.YtpaknjmcjblahaaCWir1
import Derived.Test.YtpaknjmcjblahaaCWir2
namespace Go.Proofs.Ytpaknjmcjblahaa.H
open Go.RowKit Go.Proofs.Ytpaknjmcjblahaa.P Go.Proofs.YtpaknjmcjblahaaW.PrintWords Go.Proofs.YtpaknjmcjblahaaW.PrintLast Go.Proofs.YtpaknjmcjblahaaW.PrintMore
set_option linter.unusedVariables false
set_option linter.unusedSimpArgs false
set_option maxRecDepth 20000
def RT (W : World) (g : Nat) (m : Mc) : Prop := ∃ B d b i, RM W g B d b i m.bad ∧ b.drop i = m.rest ∧ bytes b ∧ BL B b.length g
theorem Keep2.grown {g : Nat} {a b : World} (h : a.grownBy b (some g)) : Keep2 g g a b := ⟨h.os, h.tape, h.output, h.size, fun k hk h1 _ => h.block k hk (fun e => h1 (Option.some.inj e))⟩
theorem RT.below {W W' : World} {g : Nat} {m : Mc} (h : RT W g m) (hb : Below W.heap.size W W') : RT W' g m := by
  obtain ⟨B, d, b, i, ⟨h1, h2, h3, h4⟩, h5, h6, h7⟩ := h
  exact ⟨B, d, b, i, ⟨blk_below h1 hb, h2, h3, Kd.C_below h4 hb⟩, h5, h6, h7⟩
end Go.Proofs.Ytpaknjmcjblahaa.H
