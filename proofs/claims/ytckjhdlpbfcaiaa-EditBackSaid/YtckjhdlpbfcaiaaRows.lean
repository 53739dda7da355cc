/-
  No cell of these rows narrows 'for every input' (looked for: loops, veiled, ifaces, maps, wideKeys, modest, calm, conditions, laid).
  DERIVED. THE GIVEN ROWS OF THIS SEAT. 5 by the template 'for every input the law returns true; each argument reads behind the call as it read before'; 0 by the template 'total and deterministic' (their statements: YtckjhdlpbfcaiaaTotals.lean).
  GIVEN WITH THE SEED: the statements are not yours to turn. If you find one false, say at which input.
  Laid BY PROGRAM, IN A SANDBOX (cutbox-rows.mjs): the forced cells as the released guide's own fill.sh prints them over the translation f6912f2a4db0b4cd… (all of the seat's roots in one cut). By AI agents, Wed Nov 11 2026. No macro, syntax, notation, axiom, sorry.
-/
import Derived.Test.YtckjhdlpbfcaiaaChecked
import GoSem.Claim
import GoSem.ClaimJoined
import GoSem.ClaimMapViews
import Derived.JoinedTies
import Derived.KernelRfl
namespace Go.Proofs.Ytckjhdlpbfcaiaa
/- THE CELL 'sum', in the pinned program and in every row, IS THE sha256 OF THE DUMP (.gsa) THAT YtckjhdlpbfcaiaaProg.lean LOADS. Nothing in Lean hashes anything: it is a label: what it is worth is what the hold of that sum in a sandbox is worth. -/
noncomputable def Try.pinned : Pinned := { name := "ytckjhdlpbfcaiaa", sum := "f6912f2a4db0b4cd2755014b09cddf8a135b01acb820317ba8f98ea1a25564cb", checked := Try.checked }
namespace Rows
def none {H : Type} : Left H := { results := [], args := [] }

/-- 'waystonelaw14.EditDiffs': WHATEVER THE INPUT: true; the input reads as it did. -/
def editDiffsSpec : ChangeSpec := { name := "editDiffs", fn := fun _ => fun
  | [d1, d2] => { results := [.lit (.bool true)], args := [d1, d2] }
  | _ => none }
def editDiffsRow : OpenClaim := { program := "ytckjhdlpbfcaiaa", sum := "f6912f2a4db0b4cd2755014b09cddf8a135b01acb820317ba8f98ea1a25564cb", func := "waystone/waystonelaw14.EditDiffs", spec := "editDiffs", inPlace := ["slices.overlaps[waystone/api.Rule]"], unfollowed := true, recurses := true, apart := false }
def EditDiffsSaid : Prop := editDiffsRow.holds Try.pinned (OpenSpec.ofChange editDiffsSpec)

/-- ITS FALSE NEIGHBOUR: 'it returns false'. Refute it at one input. -/
def editDiffsWrong : ChangeSpec := { name := "editDiffs", fn := fun _ => fun
  | [d1, d2] => { results := [.lit (.bool false)], args := [d1, d2] }
  | _ => none }
def EditDiffsWrongFalsely : Prop := editDiffsRow.holds Try.pinned (OpenSpec.ofChange editDiffsWrong)

/-- 'waystonelaw14.EditApart': WHATEVER THE INPUT: true; the input reads as it did. -/
def editApartSpec : ChangeSpec := { name := "editApart", fn := fun _ => fun
  | [d1, d2, d3] => { results := [.lit (.bool true)], args := [d1, d2, d3] }
  | _ => none }
def editApartRow : OpenClaim := { program := "ytckjhdlpbfcaiaa", sum := "f6912f2a4db0b4cd2755014b09cddf8a135b01acb820317ba8f98ea1a25564cb", func := "waystone/waystonelaw14.EditApart", spec := "editApart", inPlace := ["slices.overlaps[waystone/api.Rule]"], unfollowed := true, recurses := true, apart := false }
def EditApartSaid : Prop := editApartRow.holds Try.pinned (OpenSpec.ofChange editApartSpec)

/-- ITS FALSE NEIGHBOUR: 'it returns false'. Refute it at one input. -/
def editApartWrong : ChangeSpec := { name := "editApart", fn := fun _ => fun
  | [d1, d2, d3] => { results := [.lit (.bool false)], args := [d1, d2, d3] }
  | _ => none }
def EditApartWrongFalsely : Prop := editApartRow.holds Try.pinned (OpenSpec.ofChange editApartWrong)

/-- 'waystonelaw14.EditDiff': WHATEVER THE INPUT: true; the input reads as it did. -/
def editDiffSpec : ChangeSpec := { name := "editDiff", fn := fun _ => fun
  | [d1, d2] => { results := [.lit (.bool true)], args := [d1, d2] }
  | _ => none }
def editDiffRow : OpenClaim := { program := "ytckjhdlpbfcaiaa", sum := "f6912f2a4db0b4cd2755014b09cddf8a135b01acb820317ba8f98ea1a25564cb", func := "waystone/waystonelaw14.EditDiff", spec := "editDiff", inPlace := ["slices.overlaps[waystone/api.Rule]"], unfollowed := true, recurses := true, apart := false }
def EditDiffSaid : Prop := editDiffRow.holds Try.pinned (OpenSpec.ofChange editDiffSpec)

/-- ITS FALSE NEIGHBOUR: 'it returns false'. Refute it at one input. -/
def editDiffWrong : ChangeSpec := { name := "editDiff", fn := fun _ => fun
  | [d1, d2] => { results := [.lit (.bool false)], args := [d1, d2] }
  | _ => none }
def EditDiffWrongFalsely : Prop := editDiffRow.holds Try.pinned (OpenSpec.ofChange editDiffWrong)

/-- 'waystonelaw14.EditBack': WHATEVER THE INPUT: true; the input reads as it did. -/
def editBackSpec : ChangeSpec := { name := "editBack", fn := fun _ => fun
  | [d1, d2] => { results := [.lit (.bool true)], args := [d1, d2] }
  | _ => none }
def editBackRow : OpenClaim := { program := "ytckjhdlpbfcaiaa", sum := "f6912f2a4db0b4cd2755014b09cddf8a135b01acb820317ba8f98ea1a25564cb", func := "waystone/waystonelaw14.EditBack", spec := "editBack", inPlace := ["slices.overlaps[waystone/api.Rule]"], unfollowed := true, recurses := true, apart := false }
def EditBackSaid : Prop := editBackRow.holds Try.pinned (OpenSpec.ofChange editBackSpec)

/-- ITS FALSE NEIGHBOUR: 'it returns false'. Refute it at one input. -/
def editBackWrong : ChangeSpec := { name := "editBack", fn := fun _ => fun
  | [d1, d2] => { results := [.lit (.bool false)], args := [d1, d2] }
  | _ => none }
def EditBackWrongFalsely : Prop := editBackRow.holds Try.pinned (OpenSpec.ofChange editBackWrong)

/-- 'waystonelaw14.EditTells': WHATEVER THE INPUT: true; the input reads as it did. -/
def editTellsSpec : ChangeSpec := { name := "editTells", fn := fun _ => fun
  | [d1, d2] => { results := [.lit (.bool true)], args := [d1, d2] }
  | _ => none }
def editTellsRow : OpenClaim := { program := "ytckjhdlpbfcaiaa", sum := "f6912f2a4db0b4cd2755014b09cddf8a135b01acb820317ba8f98ea1a25564cb", func := "waystone/waystonelaw14.EditTells", spec := "editTells", inPlace := ["slices.overlaps[waystone/api.Rule]"], unfollowed := true, recurses := true, apart := false }
def EditTellsSaid : Prop := editTellsRow.holds Try.pinned (OpenSpec.ofChange editTellsSpec)

/-- ITS FALSE NEIGHBOUR: 'it returns false'. Refute it at one input. -/
def editTellsWrong : ChangeSpec := { name := "editTells", fn := fun _ => fun
  | [d1, d2] => { results := [.lit (.bool false)], args := [d1, d2] }
  | _ => none }
def EditTellsWrongFalsely : Prop := editTellsRow.holds Try.pinned (OpenSpec.ofChange editTellsWrong)

/- THE SECOND FORM. 'bulk': how many values and letters a reading holds, each counted each time it is reached (what is shared counts as often as it is met; a slice's spare places count too). A statement '..UptoSaid' is the law's where the arguments, and the package variables that the reading takes, are together of bulk at most 1048576: NARROWER than '..Said'. Prove '..Said' where nothing that the law and all that it calls make is longer than what came in: it says more and counts as full. Else prove '..UptoSaid'. A law counts once. -/
mutual
def uptoBulk {H : Type} : DataW H → Nat
  | .lit (.string bytes) => bytes.length + 1
  | .lit _ => 1
  | .nil => 1
  | .ptr d => uptoBulk d + 1
  | .slice elems spare => uptoBulkAll elems + uptoBulkAll spare + 1
  | .agg parts => uptoBulkAll parts + 1
  | .iface _ d => uptoBulk d + 1
  | .map entries => uptoBulkEntries entries + 1
  | .held _ => 1
def uptoBulkAll {H : Type} : List (DataW H) → Nat
  | [] => 0
  | d :: r => uptoBulk d + uptoBulkAll r
def uptoBulkEntries {H : Type} : List (Lit × DataW H) → Nat
  | [] => 0
  | x :: r => uptoBulkEntry x + uptoBulkEntries r
def uptoBulkEntry {H : Type} : Lit × DataW H → Nat
  | (.string bytes, d) => bytes.length + uptoBulk d + 1
  | (_, d) => uptoBulk d + 1
 end
def uptoSmall : (H : Type) → List (DataW H) → Bool := fun _ ds => decide (uptoBulkAll ds ≤ 1048576)
def OpenSpec.upto (s : _root_.Go.ChangeSpec) : _root_.Go.OpenSpec := { _root_.Go.OpenSpec.ofChange s with cond := some uptoSmall }

/-- 'waystonelaw14.EditDiffs', WHERE WHAT IT READS IS OF BULK AT MOST 1048576: true; the input reads as it did. -/
def editDiffsUptoRow : OpenClaim := { program := "ytckjhdlpbfcaiaa", sum := "f6912f2a4db0b4cd2755014b09cddf8a135b01acb820317ba8f98ea1a25564cb", func := "waystone/waystonelaw14.EditDiffs", spec := "editDiffs", inPlace := ["slices.overlaps[waystone/api.Rule]"], unfollowed := true, recurses := true, apart := false, narrowed := true }
def EditDiffsUptoSaid : Prop := editDiffsUptoRow.holds Try.pinned (OpenSpec.upto editDiffsSpec)

/-- 'waystonelaw14.EditApart', WHERE WHAT IT READS IS OF BULK AT MOST 1048576: true; the input reads as it did. -/
def editApartUptoRow : OpenClaim := { program := "ytckjhdlpbfcaiaa", sum := "f6912f2a4db0b4cd2755014b09cddf8a135b01acb820317ba8f98ea1a25564cb", func := "waystone/waystonelaw14.EditApart", spec := "editApart", inPlace := ["slices.overlaps[waystone/api.Rule]"], unfollowed := true, recurses := true, apart := false, narrowed := true }
def EditApartUptoSaid : Prop := editApartUptoRow.holds Try.pinned (OpenSpec.upto editApartSpec)

/-- 'waystonelaw14.EditDiff', WHERE WHAT IT READS IS OF BULK AT MOST 1048576: true; the input reads as it did. -/
def editDiffUptoRow : OpenClaim := { program := "ytckjhdlpbfcaiaa", sum := "f6912f2a4db0b4cd2755014b09cddf8a135b01acb820317ba8f98ea1a25564cb", func := "waystone/waystonelaw14.EditDiff", spec := "editDiff", inPlace := ["slices.overlaps[waystone/api.Rule]"], unfollowed := true, recurses := true, apart := false, narrowed := true }
def EditDiffUptoSaid : Prop := editDiffUptoRow.holds Try.pinned (OpenSpec.upto editDiffSpec)

/-- 'waystonelaw14.EditBack', WHERE WHAT IT READS IS OF BULK AT MOST 1048576: true; the input reads as it did. -/
def editBackUptoRow : OpenClaim := { program := "ytckjhdlpbfcaiaa", sum := "f6912f2a4db0b4cd2755014b09cddf8a135b01acb820317ba8f98ea1a25564cb", func := "waystone/waystonelaw14.EditBack", spec := "editBack", inPlace := ["slices.overlaps[waystone/api.Rule]"], unfollowed := true, recurses := true, apart := false, narrowed := true }
def EditBackUptoSaid : Prop := editBackUptoRow.holds Try.pinned (OpenSpec.upto editBackSpec)

/-- 'waystonelaw14.EditTells', WHERE WHAT IT READS IS OF BULK AT MOST 1048576: true; the input reads as it did. -/
def editTellsUptoRow : OpenClaim := { program := "ytckjhdlpbfcaiaa", sum := "f6912f2a4db0b4cd2755014b09cddf8a135b01acb820317ba8f98ea1a25564cb", func := "waystone/waystonelaw14.EditTells", spec := "editTells", inPlace := ["slices.overlaps[waystone/api.Rule]"], unfollowed := true, recurses := true, apart := false, narrowed := true }
def EditTellsUptoSaid : Prop := editTellsUptoRow.holds Try.pinned (OpenSpec.upto editTellsSpec)

end Rows
end Go.Proofs.Ytckjhdlpbfcaiaa
