/- WMore -/
import Derived.Test.YtpaknjmcjblahaaCWWords
import Derived.Test.YtpaknjmcjblahaaCWLast
import Derived.Test.YtpaknjmcjblahaaCWApart
import Derived.Test.YtpaknjmcjblahaaCWKept
import Derived.Test.YtpaknjmcjblahaaCWN
namespace Go.Proofs.YtpaknjmcjblahaaW.PrintMore
open Go.RowKit Go.Proofs.YtpaknjmcjblahaaW.PrintWords
namespace Kd
open Go.Proofs.YtpaknjmcjblahaaW.PrintWords.Kd
end Kd
namespace Kd
open Go.Proofs.YtpaknjmcjblahaaW.PrintWords.Kd
section
variable {α : Type} {d : Kd α} {e base g N : Nat} {ok : Nat → Prop} {W w1 : World} {u v : Value} {xs : List α}
end
end Kd
end Go.Proofs.YtpaknjmcjblahaaW.PrintMore
namespace Go.Proofs.YtpaknjmcjblahaaW.PrintWords
open Go.RowKit
section
variable {P : Program} {ops : Array Oper} {rest : List Oper} {o : Oper} {a : Act} {Q : Exit → Act → World → Prop} {W : World}
theorem gate_builtin {b : Builtin} {xs : Array Operand} {ts : Array TypeId} (_ho : o.op = .call { callee := .builtin b, args := xs, argTypes := ts }) (h : wpList P ops Q (o :: rest) a W) : wpList P ops Q (o :: rest) a W := h
end
namespace Kd
section
variable {α : Type} {d : Kd α} {e base : Nat} {ok : Nat → Prop} {W w1 : World} {v : Value} {xs : List α}
end
section
variable {α : Type} {d : Kd α} {e base g n cap : Nat} {ok oki okp : Nat → Prop} {W : World} {xs : List α} {i : Int} {c : List Value}
end
section
variable {α : Type} {d : Kd α} {e base b b' g N : Nat} {ok ok1 : Nat → Prop} {W W2 w1 : World} {u v : Value} {xs ys : List α} {S : Nat → Prop}
end
end Kd
end Go.Proofs.YtpaknjmcjblahaaW.PrintWords
namespace Go.Proofs.YtpaknjmcjblahaaW.PrintWords
open Go.RowKit
namespace Kd
def V {α : Type} (d : Kd α) (_e : Nat) (W : World) (_base : Nat) (ok : Nat → Prop) (v : Value) (xs : List α) : Prop := ∃ A c, v = .slice A xs.length c ∧ xs.length ≤ c ∧ F d W ok A xs.length xs
section
variable {α β : Type} {d : Kd α} {e base base' n m c g N' lo hi : Nat} {ok ok' S : Nat → Prop} {w W w1 : World} {A : Option Addr} {ad : Addr} {u v v1 : Value} {xs : List α}
end
end Kd
end Go.Proofs.YtpaknjmcjblahaaW.PrintWords
