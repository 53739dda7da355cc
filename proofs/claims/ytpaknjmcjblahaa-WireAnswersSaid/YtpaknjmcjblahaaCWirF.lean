/- A response out of bytes: walked (the document's). -/
import Derived.Test.YtpaknjmcjblahaaCWir7
import Derived.Test.YtpaknjmcjblahaaCWir9
import Derived.BigQuiet
import Derived.Test.YtpaknjmcjblahaaCWirE
import Derived.Deep.LoopGhost
namespace Go.Proofs.Ytpaknjmcjblahaa.H
open Go.RowKit Go.Proofs.Ytpaknjmcjblahaa.P Go.Proofs.YtpaknjmcjblahaaW.PrintWords Go.Proofs.YtpaknjmcjblahaaW.PrintLast Go.Proofs.YtpaknjmcjblahaaW.PrintMore
set_option linter.unusedVariables false
set_option linter.unusedSimpArgs false
set_option maxRecDepth 20000
structure Fr (w W : World) (t : Nat) : Prop where
  X : Mine w W t t w.heap.size #[.int .i64 0, .int .i64 0, .slice none 0 0, .slice none 0 0, .bool false, .int .i64 0, .int .u32 0, .slice none 0 0, .int .i64 0, .int .i64 0, .int .i64 0] 50
  K : Keep2 t t w W
theorem Fr.keep {w W W' : World} {t : Nat} (f : Fr w W t) (p : Keep2 t t W W') : Fr w W' t := ⟨f.X.keep p, f.K.trans p⟩
theorem Fr.below {w W W' : World} {t : Nat} (f : Fr w W t) (p : Below W.heap.size W W') : Fr w W' t := f.keep (Keep2.of p)
theorem Fr.far {w W : World} {t b : Nat} {cs : Array Value} {ty : TypeId} (f : Fr w W t) (y : Mine w W t t b cs ty) (n1 : w.heap.size ≠ b) (j : Nat) (u : Value) : Fr w (W.setCell ⟨b, j, none⟩ u) t := ⟨f.X.far n1 j u, f.K.mine y j u⟩
theorem Fr.farRow {w W : World} {t b : Nat} {cs : Array Value} {ty : TypeId} (f : Fr w W t) (y : Mine w W t t b cs ty) (n1 : w.heap.size ≠ b) (c' : Array Value) : Fr w (W.setRow b c') t := ⟨f.X.farRow n1 c', f.K.mineRow y c'⟩
theorem Mine.upto {w W W' : World} {t h b base : Nat} {cs : Array Value} {ty : TypeId} (k : Mine w W t h b cs ty) (hb : b < base) (p : ∀ k, k < base → W'.heap[k]? = W.heap[k]?) : Mine w W' t h b cs ty := ⟨(p b hb).trans k.blk, k.new, k.no, k.n1, k.n2⟩
theorem Fr.grown {α : Type} {d : Kd α} {e base t : Nat} {w W W' : World} {v : Value} {xs : List α} (f : Fr w W t) (hw : w.heap.size < base) (hs : base ≤ W.heap.size) (hR : d.R e W base (fun _ => True) v xs) (hg : W.grownBy W' v.ownBlock) : Fr w W' t :=
  ⟨f.X.upto hw (R_grownBase hR hg hs), ⟨hg.os.trans f.K.os, hg.tape.trans f.K.tape, hg.output.trans f.K.output, Nat.le_trans f.K.size hg.size, fun k hk h1 h2 => (R_grownBase hR hg hs k (by omega)).trans (f.K.block k hk h1 h2)⟩⟩
end Go.Proofs.Ytpaknjmcjblahaa.H
