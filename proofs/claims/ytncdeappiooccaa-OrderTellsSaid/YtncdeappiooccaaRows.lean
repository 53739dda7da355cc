/-
  No cell of these rows narrows 'for every input' (looked for: loops, veiled, ifaces, maps, wideKeys, modest, calm, conditions, laid).
  DERIVED. THE GIVEN ROWS OF THIS SEAT. 3 by the template 'for every input the law returns true; each argument reads behind the call as it read before'; 0 by the template 'total and deterministic' (their statements: YtncdeappiooccaaTotals.lean).
  GIVEN WITH THE SEED: the statements are not yours to turn. If you find one false, say at which input.
  Laid BY PROGRAM, IN A SANDBOX (cutbox-rows.mjs): the forced cells as the released guide's own fill.sh prints them over the translation a70888ff01ce0255… (all of the seat's roots in one cut). By AI agents, Wed Nov 11 2026. No macro, syntax, notation, axiom, sorry.
-/
import Derived.Test.YtncdeappiooccaaChecked
import GoSem.Claim
import GoSem.ClaimJoined
import GoSem.ClaimMapViews
import Derived.JoinedTies
import Derived.KernelRfl
namespace Go.Proofs.Ytncdeappiooccaa
/- THE CELL 'sum', in the pinned program and in every row, IS THE sha256 OF THE DUMP (.gsa) THAT YtncdeappiooccaaProg.lean LOADS. Nothing in Lean hashes anything: it is a label: what it is worth is what the hold of that sum in a sandbox is worth. -/
noncomputable def Try.pinned : Pinned := { name := "ytncdeappiooccaa", sum := "a70888ff01ce02558d184167a4d84363f51e41d6251049fa1463db9ce4d7045b", checked := Try.checked }
namespace Rows
def none {H : Type} : Left H := { results := [], args := [] }

/-- 'waystonelaw21.OrderTells': WHATEVER THE INPUT: true; the input reads as it did. -/
def orderTellsSpec : ChangeSpec := { name := "orderTells", fn := fun _ => fun
  | [d1, d2, d3] => { results := [.lit (.bool true)], args := [d1, d2, d3] }
  | _ => none }
def orderTellsRow : OpenClaim := { program := "ytncdeappiooccaa", sum := "a70888ff01ce02558d184167a4d84363f51e41d6251049fa1463db9ce4d7045b", func := "waystone/waystonelaw21.OrderTells", spec := "orderTells", unfollowed := true, recurses := true, plainKeys := false, apart := false }
def OrderTellsSaid : Prop := orderTellsRow.holds Try.pinned (OpenSpec.ofChange orderTellsSpec)

/-- ITS FALSE NEIGHBOUR: 'it returns false'. Refute it at one input. -/
def orderTellsWrong : ChangeSpec := { name := "orderTells", fn := fun _ => fun
  | [d1, d2, d3] => { results := [.lit (.bool false)], args := [d1, d2, d3] }
  | _ => none }
def OrderTellsWrongFalsely : Prop := orderTellsRow.holds Try.pinned (OpenSpec.ofChange orderTellsWrong)

/-- 'waystonelaw21.OrderDoes': WHATEVER THE INPUT: true; the input reads as it did. -/
def orderDoesSpec : ChangeSpec := { name := "orderDoes", fn := fun _ => fun
  | [d1, d2] => { results := [.lit (.bool true)], args := [d1, d2] }
  | _ => none }
def orderDoesRow : OpenClaim := { program := "ytncdeappiooccaa", sum := "a70888ff01ce02558d184167a4d84363f51e41d6251049fa1463db9ce4d7045b", func := "waystone/waystonelaw21.OrderDoes", spec := "orderDoes", unfollowed := true, recurses := true, plainKeys := false, apart := false }
def OrderDoesSaid : Prop := orderDoesRow.holds Try.pinned (OpenSpec.ofChange orderDoesSpec)

/-- ITS FALSE NEIGHBOUR: 'it returns false'. Refute it at one input. -/
def orderDoesWrong : ChangeSpec := { name := "orderDoes", fn := fun _ => fun
  | [d1, d2] => { results := [.lit (.bool false)], args := [d1, d2] }
  | _ => none }
def OrderDoesWrongFalsely : Prop := orderDoesRow.holds Try.pinned (OpenSpec.ofChange orderDoesWrong)

/-- 'waystonelaw21.OrderAhead': WHATEVER THE INPUT: true; the input reads as it did. -/
def orderAheadSpec : ChangeSpec := { name := "orderAhead", fn := fun _ => fun
  | [d1, d2] => { results := [.lit (.bool true)], args := [d1, d2] }
  | _ => none }
def orderAheadRow : OpenClaim := { program := "ytncdeappiooccaa", sum := "a70888ff01ce02558d184167a4d84363f51e41d6251049fa1463db9ce4d7045b", func := "waystone/waystonelaw21.OrderAhead", spec := "orderAhead", unfollowed := true, recurses := true, plainKeys := false, apart := false }
def OrderAheadSaid : Prop := orderAheadRow.holds Try.pinned (OpenSpec.ofChange orderAheadSpec)

/-- ITS FALSE NEIGHBOUR: 'it returns false'. Refute it at one input. -/
def orderAheadWrong : ChangeSpec := { name := "orderAhead", fn := fun _ => fun
  | [d1, d2] => { results := [.lit (.bool false)], args := [d1, d2] }
  | _ => none }
def OrderAheadWrongFalsely : Prop := orderAheadRow.holds Try.pinned (OpenSpec.ofChange orderAheadWrong)

/- THE SECOND FORM. 'bulk': how many values and letters a reading holds, each counted each time it is reached (what is shared counts as often as it is met; a slice's spare places count too). A statement '..UptoSaid' is the law's where the arguments, and the package variables that the reading takes, are together of bulk at most 1048576: NARROWER than '..Said'. Prove '..Said' where nothing that the law and all that it calls make is longer than what came in: it says more and counts as full. Else prove '..UptoSaid'. A law counts once. -/
mutual
def uptoBulk {H : Type} : DataW H → Nat
  | .lit (.string bytes) => bytes.length + 1
  | .lit _ => 1
  | .nil => 1
  | .ptr d => uptoBulk d + 1
  | .slice elems spare => uptoBulkAll elems + uptoBulkAll spare + 1
  | .agg parts => uptoBulkAll parts + 1
  | .iface _ d => uptoBulk d + 1
  | .map entries => uptoBulkEntries entries + 1
  | .held _ => 1
def uptoBulkAll {H : Type} : List (DataW H) → Nat
  | [] => 0
  | d :: r => uptoBulk d + uptoBulkAll r
def uptoBulkEntries {H : Type} : List (Lit × DataW H) → Nat
  | [] => 0
  | x :: r => uptoBulkEntry x + uptoBulkEntries r
def uptoBulkEntry {H : Type} : Lit × DataW H → Nat
  | (.string bytes, d) => bytes.length + uptoBulk d + 1
  | (_, d) => uptoBulk d + 1
 end
def uptoSmall : (H : Type) → List (DataW H) → Bool := fun _ ds => decide (uptoBulkAll ds ≤ 1048576)
def OpenSpec.upto (s : _root_.Go.ChangeSpec) : _root_.Go.OpenSpec := { _root_.Go.OpenSpec.ofChange s with cond := some uptoSmall }

/-- 'waystonelaw21.OrderTells', WHERE WHAT IT READS IS OF BULK AT MOST 1048576: true; the input reads as it did. -/
def orderTellsUptoRow : OpenClaim := { program := "ytncdeappiooccaa", sum := "a70888ff01ce02558d184167a4d84363f51e41d6251049fa1463db9ce4d7045b", func := "waystone/waystonelaw21.OrderTells", spec := "orderTells", unfollowed := true, recurses := true, plainKeys := false, apart := false, narrowed := true }
def OrderTellsUptoSaid : Prop := orderTellsUptoRow.holds Try.pinned (OpenSpec.upto orderTellsSpec)

/-- 'waystonelaw21.OrderDoes', WHERE WHAT IT READS IS OF BULK AT MOST 1048576: true; the input reads as it did. -/
def orderDoesUptoRow : OpenClaim := { program := "ytncdeappiooccaa", sum := "a70888ff01ce02558d184167a4d84363f51e41d6251049fa1463db9ce4d7045b", func := "waystone/waystonelaw21.OrderDoes", spec := "orderDoes", unfollowed := true, recurses := true, plainKeys := false, apart := false, narrowed := true }
def OrderDoesUptoSaid : Prop := orderDoesUptoRow.holds Try.pinned (OpenSpec.upto orderDoesSpec)

/-- 'waystonelaw21.OrderAhead', WHERE WHAT IT READS IS OF BULK AT MOST 1048576: true; the input reads as it did. -/
def orderAheadUptoRow : OpenClaim := { program := "ytncdeappiooccaa", sum := "a70888ff01ce02558d184167a4d84363f51e41d6251049fa1463db9ce4d7045b", func := "waystone/waystonelaw21.OrderAhead", spec := "orderAhead", unfollowed := true, recurses := true, plainKeys := false, apart := false, narrowed := true }
def OrderAheadUptoSaid : Prop := orderAheadUptoRow.holds Try.pinned (OpenSpec.upto orderAheadSpec)

end Rows
end Go.Proofs.Ytncdeappiooccaa
