/-
  No cell of these rows narrows 'for every input' (looked for: loops, veiled, ifaces, maps, wideKeys, modest, calm, conditions, laid).
  DERIVED. THE GIVEN ROWS OF THIS SEAT. 6 by the template 'for every input the law returns true; each argument reads behind the call as it read before'; 0 by the template 'total and deterministic' (their statements: YtbiccahkniadfaaTotals.lean).
  GIVEN WITH THE SEED: the statements are not yours to turn. If you find one false, say at which input.
  Laid BY PROGRAM, IN A SANDBOX (cutbox-rows.mjs): the forced cells as the released guide's own fill.sh prints them over the translation 12e03f0b3d3293a1… (all of the seat's roots in one cut). By AI agents, Wed Nov 11 2026. No macro, syntax, notation, axiom, sorry.
-/
import Derived.Test.YtbiccahkniadfaaChecked
import GoSem.Claim
import GoSem.ClaimJoined
import GoSem.ClaimMapViews
import Derived.JoinedTies
import Derived.KernelRfl
namespace Go.Proofs.Ytbiccahkniadfaa
/- THE CELL 'sum', in the pinned program and in every row, IS THE sha256 OF THE DUMP (.gsa) THAT YtbiccahkniadfaaProg.lean LOADS. Nothing in Lean hashes anything: it is a label: what it is worth is what the hold of that sum in a sandbox is worth. -/
noncomputable def Try.pinned : Pinned := { name := "ytbiccahkniadfaa", sum := "12e03f0b3d3293a175b39d1303015d4fe5bd2b4ee60ccb9542786154c8a0393b", checked := Try.checked }
namespace Rows
def none {H : Type} : Left H := { results := [], args := [] }

/-- 'waystonelaw04.TreeFull': WHATEVER THE INPUT: true; the input reads as it did. -/
def treeFullSpec : ChangeSpec := { name := "treeFull", fn := fun _ => fun
  | [d1, d2] => { results := [.lit (.bool true)], args := [d1, d2] }
  | _ => none }
def treeFullRow : OpenClaim := { program := "ytbiccahkniadfaa", sum := "12e03f0b3d3293a175b39d1303015d4fe5bd2b4ee60ccb9542786154c8a0393b", func := "waystone/waystonelaw04.TreeFull", spec := "treeFull", recurses := true, apart := false }
def TreeFullSaid : Prop := treeFullRow.holds Try.pinned (OpenSpec.ofChange treeFullSpec)

/-- ITS FALSE NEIGHBOUR: 'it returns false'. Refute it at one input. -/
def treeFullWrong : ChangeSpec := { name := "treeFull", fn := fun _ => fun
  | [d1, d2] => { results := [.lit (.bool false)], args := [d1, d2] }
  | _ => none }
def TreeFullWrongFalsely : Prop := treeFullRow.holds Try.pinned (OpenSpec.ofChange treeFullWrong)

/-- 'waystonelaw04.TreeAsks': WHATEVER THE INPUT: true; the input reads as it did. -/
def treeAsksSpec : ChangeSpec := { name := "treeAsks", fn := fun _ => fun
  | [d1, d2, d3] => { results := [.lit (.bool true)], args := [d1, d2, d3] }
  | _ => none }
def treeAsksRow : OpenClaim := { program := "ytbiccahkniadfaa", sum := "12e03f0b3d3293a175b39d1303015d4fe5bd2b4ee60ccb9542786154c8a0393b", func := "waystone/waystonelaw04.TreeAsks", spec := "treeAsks", recurses := true, apart := false }
def TreeAsksSaid : Prop := treeAsksRow.holds Try.pinned (OpenSpec.ofChange treeAsksSpec)

/-- ITS FALSE NEIGHBOUR: 'it returns false'. Refute it at one input. -/
def treeAsksWrong : ChangeSpec := { name := "treeAsks", fn := fun _ => fun
  | [d1, d2, d3] => { results := [.lit (.bool false)], args := [d1, d2, d3] }
  | _ => none }
def TreeAsksWrongFalsely : Prop := treeAsksRow.holds Try.pinned (OpenSpec.ofChange treeAsksWrong)

/-- 'waystonelaw04.TreePlays': WHATEVER THE INPUT: true; the input reads as it did. -/
def treePlaysSpec : ChangeSpec := { name := "treePlays", fn := fun _ => fun
  | [d] => { results := [.lit (.bool true)], args := [d] }
  | _ => none }
def treePlaysRow : OpenClaim := { program := "ytbiccahkniadfaa", sum := "12e03f0b3d3293a175b39d1303015d4fe5bd2b4ee60ccb9542786154c8a0393b", func := "waystone/waystonelaw04.TreePlays", spec := "treePlays", unfollowed := true, recurses := true, apart := false }
def TreePlaysSaid : Prop := treePlaysRow.holds Try.pinned (OpenSpec.ofChange treePlaysSpec)

/-- ITS FALSE NEIGHBOUR: 'it returns false'. Refute it at one input. -/
def treePlaysWrong : ChangeSpec := { name := "treePlays", fn := fun _ => fun
  | [d] => { results := [.lit (.bool false)], args := [d] }
  | _ => none }
def TreePlaysWrongFalsely : Prop := treePlaysRow.holds Try.pinned (OpenSpec.ofChange treePlaysWrong)

/-- 'waystonelaw04.TreeLasts': WHATEVER THE INPUT: true; the input reads as it did. -/
def treeLastsSpec : ChangeSpec := { name := "treeLasts", fn := fun _ => fun
  | [d] => { results := [.lit (.bool true)], args := [d] }
  | _ => none }
def treeLastsRow : OpenClaim := { program := "ytbiccahkniadfaa", sum := "12e03f0b3d3293a175b39d1303015d4fe5bd2b4ee60ccb9542786154c8a0393b", func := "waystone/waystonelaw04.TreeLasts", spec := "treeLasts", unfollowed := true, recurses := true, apart := false }
def TreeLastsSaid : Prop := treeLastsRow.holds Try.pinned (OpenSpec.ofChange treeLastsSpec)

/-- ITS FALSE NEIGHBOUR: 'it returns false'. Refute it at one input. -/
def treeLastsWrong : ChangeSpec := { name := "treeLasts", fn := fun _ => fun
  | [d] => { results := [.lit (.bool false)], args := [d] }
  | _ => none }
def TreeLastsWrongFalsely : Prop := treeLastsRow.holds Try.pinned (OpenSpec.ofChange treeLastsWrong)

/-- 'waystonelaw04.TreeSplit': WHATEVER THE INPUT: true; the input reads as it did. -/
def treeSplitSpec : ChangeSpec := { name := "treeSplit", fn := fun _ => fun
  | [d1, d2] => { results := [.lit (.bool true)], args := [d1, d2] }
  | _ => none }
def treeSplitRow : OpenClaim := { program := "ytbiccahkniadfaa", sum := "12e03f0b3d3293a175b39d1303015d4fe5bd2b4ee60ccb9542786154c8a0393b", func := "waystone/waystonelaw04.TreeSplit", spec := "treeSplit", unfollowed := true, recurses := true, apart := false }
def TreeSplitSaid : Prop := treeSplitRow.holds Try.pinned (OpenSpec.ofChange treeSplitSpec)

/-- ITS FALSE NEIGHBOUR: 'it returns false'. Refute it at one input. -/
def treeSplitWrong : ChangeSpec := { name := "treeSplit", fn := fun _ => fun
  | [d1, d2] => { results := [.lit (.bool false)], args := [d1, d2] }
  | _ => none }
def TreeSplitWrongFalsely : Prop := treeSplitRow.holds Try.pinned (OpenSpec.ofChange treeSplitWrong)

/-- 'waystonelaw04.TreeNil': WHATEVER THE INPUT: true; the input reads as it did. -/
def treeNilSpec : ChangeSpec := { name := "treeNil", fn := fun _ => fun
  | [d] => { results := [.lit (.bool true)], args := [d] }
  | _ => none }
def treeNilRow : OpenClaim := { program := "ytbiccahkniadfaa", sum := "12e03f0b3d3293a175b39d1303015d4fe5bd2b4ee60ccb9542786154c8a0393b", func := "waystone/waystonelaw04.TreeNil", spec := "treeNil", unfollowed := true, recurses := true, apart := false }
def TreeNilSaid : Prop := treeNilRow.holds Try.pinned (OpenSpec.ofChange treeNilSpec)

/-- ITS FALSE NEIGHBOUR: 'it returns false'. Refute it at one input. -/
def treeNilWrong : ChangeSpec := { name := "treeNil", fn := fun _ => fun
  | [d] => { results := [.lit (.bool false)], args := [d] }
  | _ => none }
def TreeNilWrongFalsely : Prop := treeNilRow.holds Try.pinned (OpenSpec.ofChange treeNilWrong)

/- THE SECOND FORM. 'bulk': how many values and letters a reading holds, each counted each time it is reached (what is shared counts as often as it is met; a slice's spare places count too). A statement '..UptoSaid' is the law's where the arguments, and the package variables that the reading takes, are together of bulk at most 1048576: NARROWER than '..Said'. Prove '..Said' where nothing that the law and all that it calls make is longer than what came in: it says more and counts as full. Else prove '..UptoSaid'. A law counts once. -/
mutual
def uptoBulk {H : Type} : DataW H → Nat
  | .lit (.string bytes) => bytes.length + 1
  | .lit _ => 1
  | .nil => 1
  | .ptr d => uptoBulk d + 1
  | .slice elems spare => uptoBulkAll elems + uptoBulkAll spare + 1
  | .agg parts => uptoBulkAll parts + 1
  | .iface _ d => uptoBulk d + 1
  | .map entries => uptoBulkEntries entries + 1
  | .held _ => 1
def uptoBulkAll {H : Type} : List (DataW H) → Nat
  | [] => 0
  | d :: r => uptoBulk d + uptoBulkAll r
def uptoBulkEntries {H : Type} : List (Lit × DataW H) → Nat
  | [] => 0
  | x :: r => uptoBulkEntry x + uptoBulkEntries r
def uptoBulkEntry {H : Type} : Lit × DataW H → Nat
  | (.string bytes, d) => bytes.length + uptoBulk d + 1
  | (_, d) => uptoBulk d + 1
 end
def uptoSmall : (H : Type) → List (DataW H) → Bool := fun _ ds => decide (uptoBulkAll ds ≤ 1048576)
def OpenSpec.upto (s : _root_.Go.ChangeSpec) : _root_.Go.OpenSpec := { _root_.Go.OpenSpec.ofChange s with cond := some uptoSmall }

/-- 'waystonelaw04.TreeFull', WHERE WHAT IT READS IS OF BULK AT MOST 1048576: true; the input reads as it did. -/
def treeFullUptoRow : OpenClaim := { program := "ytbiccahkniadfaa", sum := "12e03f0b3d3293a175b39d1303015d4fe5bd2b4ee60ccb9542786154c8a0393b", func := "waystone/waystonelaw04.TreeFull", spec := "treeFull", recurses := true, apart := false, narrowed := true }
def TreeFullUptoSaid : Prop := treeFullUptoRow.holds Try.pinned (OpenSpec.upto treeFullSpec)

/-- 'waystonelaw04.TreeAsks', WHERE WHAT IT READS IS OF BULK AT MOST 1048576: true; the input reads as it did. -/
def treeAsksUptoRow : OpenClaim := { program := "ytbiccahkniadfaa", sum := "12e03f0b3d3293a175b39d1303015d4fe5bd2b4ee60ccb9542786154c8a0393b", func := "waystone/waystonelaw04.TreeAsks", spec := "treeAsks", recurses := true, apart := false, narrowed := true }
def TreeAsksUptoSaid : Prop := treeAsksUptoRow.holds Try.pinned (OpenSpec.upto treeAsksSpec)

/-- 'waystonelaw04.TreePlays', WHERE WHAT IT READS IS OF BULK AT MOST 1048576: true; the input reads as it did. -/
def treePlaysUptoRow : OpenClaim := { program := "ytbiccahkniadfaa", sum := "12e03f0b3d3293a175b39d1303015d4fe5bd2b4ee60ccb9542786154c8a0393b", func := "waystone/waystonelaw04.TreePlays", spec := "treePlays", unfollowed := true, recurses := true, apart := false, narrowed := true }
def TreePlaysUptoSaid : Prop := treePlaysUptoRow.holds Try.pinned (OpenSpec.upto treePlaysSpec)

/-- 'waystonelaw04.TreeLasts', WHERE WHAT IT READS IS OF BULK AT MOST 1048576: true; the input reads as it did. -/
def treeLastsUptoRow : OpenClaim := { program := "ytbiccahkniadfaa", sum := "12e03f0b3d3293a175b39d1303015d4fe5bd2b4ee60ccb9542786154c8a0393b", func := "waystone/waystonelaw04.TreeLasts", spec := "treeLasts", unfollowed := true, recurses := true, apart := false, narrowed := true }
def TreeLastsUptoSaid : Prop := treeLastsUptoRow.holds Try.pinned (OpenSpec.upto treeLastsSpec)

/-- 'waystonelaw04.TreeSplit', WHERE WHAT IT READS IS OF BULK AT MOST 1048576: true; the input reads as it did. -/
def treeSplitUptoRow : OpenClaim := { program := "ytbiccahkniadfaa", sum := "12e03f0b3d3293a175b39d1303015d4fe5bd2b4ee60ccb9542786154c8a0393b", func := "waystone/waystonelaw04.TreeSplit", spec := "treeSplit", unfollowed := true, recurses := true, apart := false, narrowed := true }
def TreeSplitUptoSaid : Prop := treeSplitUptoRow.holds Try.pinned (OpenSpec.upto treeSplitSpec)

/-- 'waystonelaw04.TreeNil', WHERE WHAT IT READS IS OF BULK AT MOST 1048576: true; the input reads as it did. -/
def treeNilUptoRow : OpenClaim := { program := "ytbiccahkniadfaa", sum := "12e03f0b3d3293a175b39d1303015d4fe5bd2b4ee60ccb9542786154c8a0393b", func := "waystone/waystonelaw04.TreeNil", spec := "treeNil", unfollowed := true, recurses := true, apart := false, narrowed := true }
def TreeNilUptoSaid : Prop := treeNilUptoRow.holds Try.pinned (OpenSpec.upto treeNilSpec)

end Rows
end Go.Proofs.Ytbiccahkniadfaa
