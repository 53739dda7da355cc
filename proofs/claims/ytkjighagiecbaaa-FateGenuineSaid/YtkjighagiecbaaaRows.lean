/-
  No cell of these rows narrows 'for every input' (looked for: loops, veiled, ifaces, maps, wideKeys, modest, calm, conditions, laid).
  DERIVED. THE GIVEN ROWS OF THIS SEAT. 4 by the template 'for every input the law returns true; each argument reads behind the call as it read before'; 0 by the template 'total and deterministic' (their statements: YtkjighagiecbaaaTotals.lean).
  GIVEN WITH THE SEED: the statements are not yours to turn. If you find one false, say at which input.
  Laid BY PROGRAM, IN A SANDBOX (cutbox-rows.mjs): the forced cells as the released guide's own fill.sh prints them over the translation 1f2fa65dc2d65797… (all of the seat's roots in one cut). By AI agents, Wed Nov 11 2026. No macro, syntax, notation, axiom, sorry.
-/
import Derived.Test.YtkjighagiecbaaaChecked
import GoSem.Claim
import GoSem.ClaimJoined
import GoSem.ClaimMapViews
import Derived.JoinedTies
import Derived.KernelRfl
namespace Go.Proofs.Ytkjighagiecbaaa
/- THE CELL 'sum', in the pinned program and in every row, IS THE sha256 OF THE DUMP (.gsa) THAT YtkjighagiecbaaaProg.lean LOADS. Nothing in Lean hashes anything: it is a label: what it is worth is what the hold of that sum in a sandbox is worth. -/
noncomputable def Try.pinned : Pinned := { name := "ytkjighagiecbaaa", sum := "1f2fa65dc2d657974e235f66127f03959b66ad8b8c0b1f1567baa908ce133168", checked := Try.checked }
namespace Rows
def none {H : Type} : Left H := { results := [], args := [] }

/-- 'waystonelaw09.FateEnds': WHATEVER THE INPUT: true; the input reads as it did. -/
def fateEndsSpec : ChangeSpec := { name := "fateEnds", fn := fun _ => fun
  | [d1, d2, d3] => { results := [.lit (.bool true)], args := [d1, d2, d3] }
  | _ => none }
def fateEndsRow : OpenClaim := { program := "ytkjighagiecbaaa", sum := "1f2fa65dc2d657974e235f66127f03959b66ad8b8c0b1f1567baa908ce133168", func := "waystone/waystonelaw09.FateEnds", spec := "fateEnds", unfollowed := true, recurses := true, plainKeys := false, apart := false }
def FateEndsSaid : Prop := fateEndsRow.holds Try.pinned (OpenSpec.ofChange fateEndsSpec)

/-- ITS FALSE NEIGHBOUR: 'it returns false'. Refute it at one input. -/
def fateEndsWrong : ChangeSpec := { name := "fateEnds", fn := fun _ => fun
  | [d1, d2, d3] => { results := [.lit (.bool false)], args := [d1, d2, d3] }
  | _ => none }
def FateEndsWrongFalsely : Prop := fateEndsRow.holds Try.pinned (OpenSpec.ofChange fateEndsWrong)

/-- 'waystonelaw09.FateRest': WHATEVER THE INPUT: true; the input reads as it did. -/
def fateRestSpec : ChangeSpec := { name := "fateRest", fn := fun _ => fun
  | [d1, d2, d3] => { results := [.lit (.bool true)], args := [d1, d2, d3] }
  | _ => none }
def fateRestRow : OpenClaim := { program := "ytkjighagiecbaaa", sum := "1f2fa65dc2d657974e235f66127f03959b66ad8b8c0b1f1567baa908ce133168", func := "waystone/waystonelaw09.FateRest", spec := "fateRest", unfollowed := true, recurses := true, plainKeys := false, apart := false }
def FateRestSaid : Prop := fateRestRow.holds Try.pinned (OpenSpec.ofChange fateRestSpec)

/-- ITS FALSE NEIGHBOUR: 'it returns false'. Refute it at one input. -/
def fateRestWrong : ChangeSpec := { name := "fateRest", fn := fun _ => fun
  | [d1, d2, d3] => { results := [.lit (.bool false)], args := [d1, d2, d3] }
  | _ => none }
def FateRestWrongFalsely : Prop := fateRestRow.holds Try.pinned (OpenSpec.ofChange fateRestWrong)

/-- 'waystonelaw09.FateTells': WHATEVER THE INPUT: true; the input reads as it did. -/
def fateTellsSpec : ChangeSpec := { name := "fateTells", fn := fun _ => fun
  | [d1, d2, d3] => { results := [.lit (.bool true)], args := [d1, d2, d3] }
  | _ => none }
def fateTellsRow : OpenClaim := { program := "ytkjighagiecbaaa", sum := "1f2fa65dc2d657974e235f66127f03959b66ad8b8c0b1f1567baa908ce133168", func := "waystone/waystonelaw09.FateTells", spec := "fateTells", unfollowed := true, recurses := true, plainKeys := false, apart := false }
def FateTellsSaid : Prop := fateTellsRow.holds Try.pinned (OpenSpec.ofChange fateTellsSpec)

/-- ITS FALSE NEIGHBOUR: 'it returns false'. Refute it at one input. -/
def fateTellsWrong : ChangeSpec := { name := "fateTells", fn := fun _ => fun
  | [d1, d2, d3] => { results := [.lit (.bool false)], args := [d1, d2, d3] }
  | _ => none }
def FateTellsWrongFalsely : Prop := fateTellsRow.holds Try.pinned (OpenSpec.ofChange fateTellsWrong)

/-- 'waystonelaw09.FateGenuine': WHATEVER THE INPUT: true; the input reads as it did. -/
def fateGenuineSpec : ChangeSpec := { name := "fateGenuine", fn := fun _ => fun
  | [d1, d2, d3] => { results := [.lit (.bool true)], args := [d1, d2, d3] }
  | _ => none }
def fateGenuineRow : OpenClaim := { program := "ytkjighagiecbaaa", sum := "1f2fa65dc2d657974e235f66127f03959b66ad8b8c0b1f1567baa908ce133168", func := "waystone/waystonelaw09.FateGenuine", spec := "fateGenuine", unfollowed := true, recurses := true, plainKeys := false, apart := false }
def FateGenuineSaid : Prop := fateGenuineRow.holds Try.pinned (OpenSpec.ofChange fateGenuineSpec)

/-- ITS FALSE NEIGHBOUR: 'it returns false'. Refute it at one input. -/
def fateGenuineWrong : ChangeSpec := { name := "fateGenuine", fn := fun _ => fun
  | [d1, d2, d3] => { results := [.lit (.bool false)], args := [d1, d2, d3] }
  | _ => none }
def FateGenuineWrongFalsely : Prop := fateGenuineRow.holds Try.pinned (OpenSpec.ofChange fateGenuineWrong)

/- THE SECOND FORM. 'bulk': how many values and letters a reading holds, each counted each time it is reached (what is shared counts as often as it is met; a slice's spare places count too). A statement '..UptoSaid' is the law's where the arguments, and the package variables that the reading takes, are together of bulk at most 1048576: NARROWER than '..Said'. Prove '..Said' where nothing that the law and all that it calls make is longer than what came in: it says more and counts as full. Else prove '..UptoSaid'. A law counts once. -/
mutual
def uptoBulk {H : Type} : DataW H → Nat
  | .lit (.string bytes) => bytes.length + 1
  | .lit _ => 1
  | .nil => 1
  | .ptr d => uptoBulk d + 1
  | .slice elems spare => uptoBulkAll elems + uptoBulkAll spare + 1
  | .agg parts => uptoBulkAll parts + 1
  | .iface _ d => uptoBulk d + 1
  | .map entries => uptoBulkEntries entries + 1
  | .held _ => 1
def uptoBulkAll {H : Type} : List (DataW H) → Nat
  | [] => 0
  | d :: r => uptoBulk d + uptoBulkAll r
def uptoBulkEntries {H : Type} : List (Lit × DataW H) → Nat
  | [] => 0
  | x :: r => uptoBulkEntry x + uptoBulkEntries r
def uptoBulkEntry {H : Type} : Lit × DataW H → Nat
  | (.string bytes, d) => bytes.length + uptoBulk d + 1
  | (_, d) => uptoBulk d + 1
 end
def uptoSmall : (H : Type) → List (DataW H) → Bool := fun _ ds => decide (uptoBulkAll ds ≤ 1048576)
def OpenSpec.upto (s : _root_.Go.ChangeSpec) : _root_.Go.OpenSpec := { _root_.Go.OpenSpec.ofChange s with cond := some uptoSmall }

/-- 'waystonelaw09.FateEnds', WHERE WHAT IT READS IS OF BULK AT MOST 1048576: true; the input reads as it did. -/
def fateEndsUptoRow : OpenClaim := { program := "ytkjighagiecbaaa", sum := "1f2fa65dc2d657974e235f66127f03959b66ad8b8c0b1f1567baa908ce133168", func := "waystone/waystonelaw09.FateEnds", spec := "fateEnds", unfollowed := true, recurses := true, plainKeys := false, apart := false, narrowed := true }
def FateEndsUptoSaid : Prop := fateEndsUptoRow.holds Try.pinned (OpenSpec.upto fateEndsSpec)

/-- 'waystonelaw09.FateRest', WHERE WHAT IT READS IS OF BULK AT MOST 1048576: true; the input reads as it did. -/
def fateRestUptoRow : OpenClaim := { program := "ytkjighagiecbaaa", sum := "1f2fa65dc2d657974e235f66127f03959b66ad8b8c0b1f1567baa908ce133168", func := "waystone/waystonelaw09.FateRest", spec := "fateRest", unfollowed := true, recurses := true, plainKeys := false, apart := false, narrowed := true }
def FateRestUptoSaid : Prop := fateRestUptoRow.holds Try.pinned (OpenSpec.upto fateRestSpec)

/-- 'waystonelaw09.FateTells', WHERE WHAT IT READS IS OF BULK AT MOST 1048576: true; the input reads as it did. -/
def fateTellsUptoRow : OpenClaim := { program := "ytkjighagiecbaaa", sum := "1f2fa65dc2d657974e235f66127f03959b66ad8b8c0b1f1567baa908ce133168", func := "waystone/waystonelaw09.FateTells", spec := "fateTells", unfollowed := true, recurses := true, plainKeys := false, apart := false, narrowed := true }
def FateTellsUptoSaid : Prop := fateTellsUptoRow.holds Try.pinned (OpenSpec.upto fateTellsSpec)

/-- 'waystonelaw09.FateGenuine', WHERE WHAT IT READS IS OF BULK AT MOST 1048576: true; the input reads as it did. -/
def fateGenuineUptoRow : OpenClaim := { program := "ytkjighagiecbaaa", sum := "1f2fa65dc2d657974e235f66127f03959b66ad8b8c0b1f1567baa908ce133168", func := "waystone/waystonelaw09.FateGenuine", spec := "fateGenuine", unfollowed := true, recurses := true, plainKeys := false, apart := false, narrowed := true }
def FateGenuineUptoSaid : Prop := fateGenuineUptoRow.holds Try.pinned (OpenSpec.upto fateGenuineSpec)

end Rows
end Go.Proofs.Ytkjighagiecbaaa
