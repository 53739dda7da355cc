/- A response out of bytes: walked. -/
import Derived.Test.YtpaknjmcjblahaaAWirD
import Derived.Laws.ResultCell
namespace Go.Proofs.Ytpaknjmcjblahaa.H
open Go.RowKit Go.Proofs.Ytpaknjmcjblahaa.P Go.Proofs.YtpaknjmcjblahaaW.PrintWords Go.Proofs.YtpaknjmcjblahaaW.PrintLast Go.Proofs.YtpaknjmcjblahaaW.PrintMore
set_option linter.unusedVariables false
set_option linter.unusedSimpArgs false
set_option maxRecDepth 20000
structure Fx (w W : World) (t h q : Nat) : Prop where
  X : Mine w W t h w.heap.size #[.int .i64 0, .int .i64 0, .slice none 0 0, .slice none 0 0, .bool false, .int .i64 0, .int .u32 0, .slice none 0 0, .int .i64 0, .int .i64 0, .int .i64 0] 50
  Q : Mine w W t h q #[.pointer (some ⟨t, 0, none⟩)] 73
  K : Keep2 t h w W
theorem Fx.keep {w W W' : World} {t h q : Nat} (f : Fx w W t h q) (p : Keep2 t h W W') : Fx w W' t h q := ⟨f.X.keep p, f.Q.keep p, f.K.trans p⟩
theorem Fx.below {w W W' : World} {t h q : Nat} (f : Fx w W t h q) (p : Below W.heap.size W W') : Fx w W' t h q := f.keep (Keep2.of p)
theorem Fx.far {w W : World} {t h q b : Nat} {cs : Array Value} {ty : TypeId} (f : Fx w W t h q) (y : Mine w W t h b cs ty) (n1 : w.heap.size ≠ b) (n2 : q ≠ b) (j : Nat) (u : Value) : Fx w (W.setCell ⟨b, j, none⟩ u) t h q := ⟨f.X.far n1 j u, f.Q.far n2 j u, f.K.mine y j u⟩
theorem Fx.farRow {w W : World} {t h q b : Nat} {cs : Array Value} {ty : TypeId} (f : Fx w W t h q) (y : Mine w W t h b cs ty) (n1 : w.heap.size ≠ b) (n2 : q ≠ b) (c' : Array Value) : Fx w (W.setRow b c') t h q := ⟨f.X.farRow n1 c', f.Q.farRow n2 c', f.K.mineRow y c'⟩
end Go.Proofs.Ytpaknjmcjblahaa.H
