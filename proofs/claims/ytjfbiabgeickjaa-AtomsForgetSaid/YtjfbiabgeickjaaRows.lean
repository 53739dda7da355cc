/-
  No cell of these rows narrows 'for every input' (looked for: loops, veiled, ifaces, maps, wideKeys, modest, calm, conditions, laid).
  DERIVED. THE GIVEN ROWS OF THIS SEAT. 6 by the template 'for every input the law returns true; each argument reads behind the call as it read before'; 0 by the template 'total and deterministic' (their statements: YtjfbiabgeickjaaTotals.lean).
  GIVEN WITH THE SEED: the statements are not yours to turn. If you find one false, say at which input.
  Laid BY PROGRAM, IN A SANDBOX (cutbox-rows.mjs): the forced cells as the released guide's own fill.sh prints them over the translation fa5408159dd265f9… (all of the seat's roots in one cut). By AI agents, Wed Nov 11 2026. No macro, syntax, notation, axiom, sorry.
-/
import Derived.Test.YtjfbiabgeickjaaChecked
import GoSem.Claim
import GoSem.ClaimJoined
import GoSem.ClaimMapViews
import Derived.JoinedTies
import Derived.KernelRfl
namespace Go.Proofs.Ytjfbiabgeickjaa
/- THE CELL 'sum', in the pinned program and in every row, IS THE sha256 OF THE DUMP (.gsa) THAT YtjfbiabgeickjaaProg.lean LOADS. Nothing in Lean hashes anything: it is a label: what it is worth is what the hold of that sum in a sandbox is worth. -/
noncomputable def Try.pinned : Pinned := { name := "ytjfbiabgeickjaa", sum := "fa5408159dd265f9f173b13e6ed0d6730f7f98a154e61b38d368c7db7bbf6d83", checked := Try.checked }
namespace Rows
def none {H : Type} : Left H := { results := [], args := [] }

/-- 'waystonelaw05.AtomsOrder': WHATEVER THE INPUT: true; the input reads as it did. -/
def atomsOrderSpec : ChangeSpec := { name := "atomsOrder", fn := fun _ => fun
  | [d] => { results := [.lit (.bool true)], args := [d] }
  | _ => none }
def atomsOrderRow : OpenClaim := { program := "ytjfbiabgeickjaa", sum := "fa5408159dd265f9f173b13e6ed0d6730f7f98a154e61b38d368c7db7bbf6d83", func := "waystone/waystonelaw05.AtomsOrder", spec := "atomsOrder", recurses := true, apart := false }
def AtomsOrderSaid : Prop := atomsOrderRow.holds Try.pinned (OpenSpec.ofChange atomsOrderSpec)

/-- ITS FALSE NEIGHBOUR: 'it returns false'. Refute it at one input. -/
def atomsOrderWrong : ChangeSpec := { name := "atomsOrder", fn := fun _ => fun
  | [d] => { results := [.lit (.bool false)], args := [d] }
  | _ => none }
def AtomsOrderWrongFalsely : Prop := atomsOrderRow.holds Try.pinned (OpenSpec.ofChange atomsOrderWrong)

/-- 'waystonelaw05.AtomsAsk': WHATEVER THE INPUT: true; the input reads as it did. -/
def atomsAskSpec : ChangeSpec := { name := "atomsAsk", fn := fun _ => fun
  | [d1, d2, d3] => { results := [.lit (.bool true)], args := [d1, d2, d3] }
  | _ => none }
def atomsAskRow : OpenClaim := { program := "ytjfbiabgeickjaa", sum := "fa5408159dd265f9f173b13e6ed0d6730f7f98a154e61b38d368c7db7bbf6d83", func := "waystone/waystonelaw05.AtomsAsk", spec := "atomsAsk", recurses := true, apart := false }
def AtomsAskSaid : Prop := atomsAskRow.holds Try.pinned (OpenSpec.ofChange atomsAskSpec)

/-- ITS FALSE NEIGHBOUR: 'it returns false'. Refute it at one input. -/
def atomsAskWrong : ChangeSpec := { name := "atomsAsk", fn := fun _ => fun
  | [d1, d2, d3] => { results := [.lit (.bool false)], args := [d1, d2, d3] }
  | _ => none }
def AtomsAskWrongFalsely : Prop := atomsAskRow.holds Try.pinned (OpenSpec.ofChange atomsAskWrong)

/-- 'waystonelaw05.AtomsPlay': WHATEVER THE INPUT: true; the input reads as it did. -/
def atomsPlaySpec : ChangeSpec := { name := "atomsPlay", fn := fun _ => fun
  | [d] => { results := [.lit (.bool true)], args := [d] }
  | _ => none }
def atomsPlayRow : OpenClaim := { program := "ytjfbiabgeickjaa", sum := "fa5408159dd265f9f173b13e6ed0d6730f7f98a154e61b38d368c7db7bbf6d83", func := "waystone/waystonelaw05.AtomsPlay", spec := "atomsPlay", unfollowed := true, recurses := true, apart := false }
def AtomsPlaySaid : Prop := atomsPlayRow.holds Try.pinned (OpenSpec.ofChange atomsPlaySpec)

/-- ITS FALSE NEIGHBOUR: 'it returns false'. Refute it at one input. -/
def atomsPlayWrong : ChangeSpec := { name := "atomsPlay", fn := fun _ => fun
  | [d] => { results := [.lit (.bool false)], args := [d] }
  | _ => none }
def AtomsPlayWrongFalsely : Prop := atomsPlayRow.holds Try.pinned (OpenSpec.ofChange atomsPlayWrong)

/-- 'waystonelaw05.AtomsWhole': WHATEVER THE INPUT: true; the input reads as it did. -/
def atomsWholeSpec : ChangeSpec := { name := "atomsWhole", fn := fun _ => fun
  | [d] => { results := [.lit (.bool true)], args := [d] }
  | _ => none }
def atomsWholeRow : OpenClaim := { program := "ytjfbiabgeickjaa", sum := "fa5408159dd265f9f173b13e6ed0d6730f7f98a154e61b38d368c7db7bbf6d83", func := "waystone/waystonelaw05.AtomsWhole", spec := "atomsWhole", unfollowed := true, recurses := true, apart := false }
def AtomsWholeSaid : Prop := atomsWholeRow.holds Try.pinned (OpenSpec.ofChange atomsWholeSpec)

/-- ITS FALSE NEIGHBOUR: 'it returns false'. Refute it at one input. -/
def atomsWholeWrong : ChangeSpec := { name := "atomsWhole", fn := fun _ => fun
  | [d] => { results := [.lit (.bool false)], args := [d] }
  | _ => none }
def AtomsWholeWrongFalsely : Prop := atomsWholeRow.holds Try.pinned (OpenSpec.ofChange atomsWholeWrong)

/-- 'waystonelaw05.AtomsForget': WHATEVER THE INPUT: true; the input reads as it did. -/
def atomsForgetSpec : ChangeSpec := { name := "atomsForget", fn := fun _ => fun
  | [d1, d2] => { results := [.lit (.bool true)], args := [d1, d2] }
  | _ => none }
def atomsForgetRow : OpenClaim := { program := "ytjfbiabgeickjaa", sum := "fa5408159dd265f9f173b13e6ed0d6730f7f98a154e61b38d368c7db7bbf6d83", func := "waystone/waystonelaw05.AtomsForget", spec := "atomsForget", unfollowed := true, recurses := true, apart := false }
def AtomsForgetSaid : Prop := atomsForgetRow.holds Try.pinned (OpenSpec.ofChange atomsForgetSpec)

/-- ITS FALSE NEIGHBOUR: 'it returns false'. Refute it at one input. -/
def atomsForgetWrong : ChangeSpec := { name := "atomsForget", fn := fun _ => fun
  | [d1, d2] => { results := [.lit (.bool false)], args := [d1, d2] }
  | _ => none }
def AtomsForgetWrongFalsely : Prop := atomsForgetRow.holds Try.pinned (OpenSpec.ofChange atomsForgetWrong)

/-- 'waystonelaw05.AtomsNil': WHATEVER THE INPUT: true; the input reads as it did. -/
def atomsNilSpec : ChangeSpec := { name := "atomsNil", fn := fun _ => fun
  | [d1, d2] => { results := [.lit (.bool true)], args := [d1, d2] }
  | _ => none }
def atomsNilRow : OpenClaim := { program := "ytjfbiabgeickjaa", sum := "fa5408159dd265f9f173b13e6ed0d6730f7f98a154e61b38d368c7db7bbf6d83", func := "waystone/waystonelaw05.AtomsNil", spec := "atomsNil", unfollowed := true, recurses := true, apart := false }
def AtomsNilSaid : Prop := atomsNilRow.holds Try.pinned (OpenSpec.ofChange atomsNilSpec)

/-- ITS FALSE NEIGHBOUR: 'it returns false'. Refute it at one input. -/
def atomsNilWrong : ChangeSpec := { name := "atomsNil", fn := fun _ => fun
  | [d1, d2] => { results := [.lit (.bool false)], args := [d1, d2] }
  | _ => none }
def AtomsNilWrongFalsely : Prop := atomsNilRow.holds Try.pinned (OpenSpec.ofChange atomsNilWrong)

/- THE SECOND FORM. 'bulk': how many values and letters a reading holds, each counted each time it is reached (what is shared counts as often as it is met; a slice's spare places count too). A statement '..UptoSaid' is the law's where the arguments, and the package variables that the reading takes, are together of bulk at most 1048576: NARROWER than '..Said'. Prove '..Said' where nothing that the law and all that it calls make is longer than what came in: it says more and counts as full. Else prove '..UptoSaid'. A law counts once. -/
mutual
def uptoBulk {H : Type} : DataW H → Nat
  | .lit (.string bytes) => bytes.length + 1
  | .lit _ => 1
  | .nil => 1
  | .ptr d => uptoBulk d + 1
  | .slice elems spare => uptoBulkAll elems + uptoBulkAll spare + 1
  | .agg parts => uptoBulkAll parts + 1
  | .iface _ d => uptoBulk d + 1
  | .map entries => uptoBulkEntries entries + 1
  | .held _ => 1
def uptoBulkAll {H : Type} : List (DataW H) → Nat
  | [] => 0
  | d :: r => uptoBulk d + uptoBulkAll r
def uptoBulkEntries {H : Type} : List (Lit × DataW H) → Nat
  | [] => 0
  | x :: r => uptoBulkEntry x + uptoBulkEntries r
def uptoBulkEntry {H : Type} : Lit × DataW H → Nat
  | (.string bytes, d) => bytes.length + uptoBulk d + 1
  | (_, d) => uptoBulk d + 1
 end
def uptoSmall : (H : Type) → List (DataW H) → Bool := fun _ ds => decide (uptoBulkAll ds ≤ 1048576)
def OpenSpec.upto (s : _root_.Go.ChangeSpec) : _root_.Go.OpenSpec := { _root_.Go.OpenSpec.ofChange s with cond := some uptoSmall }

/-- 'waystonelaw05.AtomsOrder', WHERE WHAT IT READS IS OF BULK AT MOST 1048576: true; the input reads as it did. -/
def atomsOrderUptoRow : OpenClaim := { program := "ytjfbiabgeickjaa", sum := "fa5408159dd265f9f173b13e6ed0d6730f7f98a154e61b38d368c7db7bbf6d83", func := "waystone/waystonelaw05.AtomsOrder", spec := "atomsOrder", recurses := true, apart := false, narrowed := true }
def AtomsOrderUptoSaid : Prop := atomsOrderUptoRow.holds Try.pinned (OpenSpec.upto atomsOrderSpec)

/-- 'waystonelaw05.AtomsAsk', WHERE WHAT IT READS IS OF BULK AT MOST 1048576: true; the input reads as it did. -/
def atomsAskUptoRow : OpenClaim := { program := "ytjfbiabgeickjaa", sum := "fa5408159dd265f9f173b13e6ed0d6730f7f98a154e61b38d368c7db7bbf6d83", func := "waystone/waystonelaw05.AtomsAsk", spec := "atomsAsk", recurses := true, apart := false, narrowed := true }
def AtomsAskUptoSaid : Prop := atomsAskUptoRow.holds Try.pinned (OpenSpec.upto atomsAskSpec)

/-- 'waystonelaw05.AtomsPlay', WHERE WHAT IT READS IS OF BULK AT MOST 1048576: true; the input reads as it did. -/
def atomsPlayUptoRow : OpenClaim := { program := "ytjfbiabgeickjaa", sum := "fa5408159dd265f9f173b13e6ed0d6730f7f98a154e61b38d368c7db7bbf6d83", func := "waystone/waystonelaw05.AtomsPlay", spec := "atomsPlay", unfollowed := true, recurses := true, apart := false, narrowed := true }
def AtomsPlayUptoSaid : Prop := atomsPlayUptoRow.holds Try.pinned (OpenSpec.upto atomsPlaySpec)

/-- 'waystonelaw05.AtomsWhole', WHERE WHAT IT READS IS OF BULK AT MOST 1048576: true; the input reads as it did. -/
def atomsWholeUptoRow : OpenClaim := { program := "ytjfbiabgeickjaa", sum := "fa5408159dd265f9f173b13e6ed0d6730f7f98a154e61b38d368c7db7bbf6d83", func := "waystone/waystonelaw05.AtomsWhole", spec := "atomsWhole", unfollowed := true, recurses := true, apart := false, narrowed := true }
def AtomsWholeUptoSaid : Prop := atomsWholeUptoRow.holds Try.pinned (OpenSpec.upto atomsWholeSpec)

/-- 'waystonelaw05.AtomsForget', WHERE WHAT IT READS IS OF BULK AT MOST 1048576: true; the input reads as it did. -/
def atomsForgetUptoRow : OpenClaim := { program := "ytjfbiabgeickjaa", sum := "fa5408159dd265f9f173b13e6ed0d6730f7f98a154e61b38d368c7db7bbf6d83", func := "waystone/waystonelaw05.AtomsForget", spec := "atomsForget", unfollowed := true, recurses := true, apart := false, narrowed := true }
def AtomsForgetUptoSaid : Prop := atomsForgetUptoRow.holds Try.pinned (OpenSpec.upto atomsForgetSpec)

/-- 'waystonelaw05.AtomsNil', WHERE WHAT IT READS IS OF BULK AT MOST 1048576: true; the input reads as it did. -/
def atomsNilUptoRow : OpenClaim := { program := "ytjfbiabgeickjaa", sum := "fa5408159dd265f9f173b13e6ed0d6730f7f98a154e61b38d368c7db7bbf6d83", func := "waystone/waystonelaw05.AtomsNil", spec := "atomsNil", unfollowed := true, recurses := true, apart := false, narrowed := true }
def AtomsNilUptoSaid : Prop := atomsNilUptoRow.holds Try.pinned (OpenSpec.upto atomsNilSpec)

end Rows
end Go.Proofs.Ytjfbiabgeickjaa
