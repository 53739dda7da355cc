/-
  No cell of these rows narrows 'for every input' (looked for: loops, veiled, ifaces, maps, wideKeys, modest, calm, conditions, laid).
  DERIVED. THE GIVEN ROWS OF THIS SEAT. 4 by the template 'for every input the law returns true; each argument reads behind the call as it read before'; 0 by the template 'total and deterministic' (their statements: YtglfpobapkkgdaaTotals.lean).
  GIVEN WITH THE SEED: the statements are not yours to turn. If you find one false, say at which input.
  Laid BY PROGRAM, IN A SANDBOX (cutbox-rows.mjs): the forced cells as the released guide's own fill.sh prints them over the translation f4c8748286ff3d0d… (all of the seat's roots in one cut). By AI agents, Wed Nov 11 2026. No macro, syntax, notation, axiom, sorry.
-/
import Derived.Test.YtglfpobapkkgdaaChecked
import GoSem.Claim
import GoSem.ClaimJoined
import GoSem.ClaimMapViews
import Derived.JoinedTies
import Derived.KernelRfl
namespace Go.Proofs.Ytglfpobapkkgdaa
/- THE CELL 'sum', in the pinned program and in every row, IS THE sha256 OF THE DUMP (.gsa) THAT YtglfpobapkkgdaaProg.lean LOADS. Nothing in Lean hashes anything: it is a label: what it is worth is what the hold of that sum in a sandbox is worth. -/
noncomputable def Try.pinned : Pinned := { name := "ytglfpobapkkgdaa", sum := "f4c8748286ff3d0d4865ec149730bcc0a6bbcf6d1296a81cabb085560439e719", checked := Try.checked }
namespace Rows
def none {H : Type} : Left H := { results := [], args := [] }

/-- 'waystonelaw08.TopoBoth': WHATEVER THE INPUT: true; the input reads as it did. -/
def topoBothSpec : ChangeSpec := { name := "topoBoth", fn := fun _ => fun
  | [d1, d2] => { results := [.lit (.bool true)], args := [d1, d2] }
  | _ => none }
def topoBothRow : OpenClaim := { program := "ytglfpobapkkgdaa", sum := "f4c8748286ff3d0d4865ec149730bcc0a6bbcf6d1296a81cabb085560439e719", func := "waystone/waystonelaw08.TopoBoth", spec := "topoBoth", unfollowed := true, recurses := true, plainKeys := false, apart := false }
def TopoBothSaid : Prop := topoBothRow.holds Try.pinned (OpenSpec.ofChange topoBothSpec)

/-- ITS FALSE NEIGHBOUR: 'it returns false'. Refute it at one input. -/
def topoBothWrong : ChangeSpec := { name := "topoBoth", fn := fun _ => fun
  | [d1, d2] => { results := [.lit (.bool false)], args := [d1, d2] }
  | _ => none }
def TopoBothWrongFalsely : Prop := topoBothRow.holds Try.pinned (OpenSpec.ofChange topoBothWrong)

/-- 'waystonelaw08.TopoOn': WHATEVER THE INPUT: true; the input reads as it did. -/
def topoOnSpec : ChangeSpec := { name := "topoOn", fn := fun _ => fun
  | [d1, d2] => { results := [.lit (.bool true)], args := [d1, d2] }
  | _ => none }
def topoOnRow : OpenClaim := { program := "ytglfpobapkkgdaa", sum := "f4c8748286ff3d0d4865ec149730bcc0a6bbcf6d1296a81cabb085560439e719", func := "waystone/waystonelaw08.TopoOn", spec := "topoOn", unfollowed := true, recurses := true, plainKeys := false, apart := false }
def TopoOnSaid : Prop := topoOnRow.holds Try.pinned (OpenSpec.ofChange topoOnSpec)

/-- ITS FALSE NEIGHBOUR: 'it returns false'. Refute it at one input. -/
def topoOnWrong : ChangeSpec := { name := "topoOn", fn := fun _ => fun
  | [d1, d2] => { results := [.lit (.bool false)], args := [d1, d2] }
  | _ => none }
def TopoOnWrongFalsely : Prop := topoOnRow.holds Try.pinned (OpenSpec.ofChange topoOnWrong)

/-- 'waystonelaw08.TopoReaches': WHATEVER THE INPUT: true; the input reads as it did. -/
def topoReachesSpec : ChangeSpec := { name := "topoReaches", fn := fun _ => fun
  | [d1, d2, d3] => { results := [.lit (.bool true)], args := [d1, d2, d3] }
  | _ => none }
def topoReachesRow : OpenClaim := { program := "ytglfpobapkkgdaa", sum := "f4c8748286ff3d0d4865ec149730bcc0a6bbcf6d1296a81cabb085560439e719", func := "waystone/waystonelaw08.TopoReaches", spec := "topoReaches", unfollowed := true, recurses := true, plainKeys := false, apart := false }
def TopoReachesSaid : Prop := topoReachesRow.holds Try.pinned (OpenSpec.ofChange topoReachesSpec)

/-- ITS FALSE NEIGHBOUR: 'it returns false'. Refute it at one input. -/
def topoReachesWrong : ChangeSpec := { name := "topoReaches", fn := fun _ => fun
  | [d1, d2, d3] => { results := [.lit (.bool false)], args := [d1, d2, d3] }
  | _ => none }
def TopoReachesWrongFalsely : Prop := topoReachesRow.holds Try.pinned (OpenSpec.ofChange topoReachesWrong)

/-- 'waystonelaw08.TopoTells': WHATEVER THE INPUT: true; the input reads as it did. -/
def topoTellsSpec : ChangeSpec := { name := "topoTells", fn := fun _ => fun
  | [d1, d2, d3] => { results := [.lit (.bool true)], args := [d1, d2, d3] }
  | _ => none }
def topoTellsRow : OpenClaim := { program := "ytglfpobapkkgdaa", sum := "f4c8748286ff3d0d4865ec149730bcc0a6bbcf6d1296a81cabb085560439e719", func := "waystone/waystonelaw08.TopoTells", spec := "topoTells", unfollowed := true, recurses := true, plainKeys := false, apart := false }
def TopoTellsSaid : Prop := topoTellsRow.holds Try.pinned (OpenSpec.ofChange topoTellsSpec)

/-- ITS FALSE NEIGHBOUR: 'it returns false'. Refute it at one input. -/
def topoTellsWrong : ChangeSpec := { name := "topoTells", fn := fun _ => fun
  | [d1, d2, d3] => { results := [.lit (.bool false)], args := [d1, d2, d3] }
  | _ => none }
def TopoTellsWrongFalsely : Prop := topoTellsRow.holds Try.pinned (OpenSpec.ofChange topoTellsWrong)

/- THE SECOND FORM. 'bulk': how many values and letters a reading holds, each counted each time it is reached (what is shared counts as often as it is met; a slice's spare places count too). A statement '..UptoSaid' is the law's where the arguments, and the package variables that the reading takes, are together of bulk at most 1048576: NARROWER than '..Said'. Prove '..Said' where nothing that the law and all that it calls make is longer than what came in: it says more and counts as full. Else prove '..UptoSaid'. A law counts once. -/
mutual
def uptoBulk {H : Type} : DataW H → Nat
  | .lit (.string bytes) => bytes.length + 1
  | .lit _ => 1
  | .nil => 1
  | .ptr d => uptoBulk d + 1
  | .slice elems spare => uptoBulkAll elems + uptoBulkAll spare + 1
  | .agg parts => uptoBulkAll parts + 1
  | .iface _ d => uptoBulk d + 1
  | .map entries => uptoBulkEntries entries + 1
  | .held _ => 1
def uptoBulkAll {H : Type} : List (DataW H) → Nat
  | [] => 0
  | d :: r => uptoBulk d + uptoBulkAll r
def uptoBulkEntries {H : Type} : List (Lit × DataW H) → Nat
  | [] => 0
  | x :: r => uptoBulkEntry x + uptoBulkEntries r
def uptoBulkEntry {H : Type} : Lit × DataW H → Nat
  | (.string bytes, d) => bytes.length + uptoBulk d + 1
  | (_, d) => uptoBulk d + 1
 end
def uptoSmall : (H : Type) → List (DataW H) → Bool := fun _ ds => decide (uptoBulkAll ds ≤ 1048576)
def OpenSpec.upto (s : _root_.Go.ChangeSpec) : _root_.Go.OpenSpec := { _root_.Go.OpenSpec.ofChange s with cond := some uptoSmall }

/-- 'waystonelaw08.TopoBoth', WHERE WHAT IT READS IS OF BULK AT MOST 1048576: true; the input reads as it did. -/
def topoBothUptoRow : OpenClaim := { program := "ytglfpobapkkgdaa", sum := "f4c8748286ff3d0d4865ec149730bcc0a6bbcf6d1296a81cabb085560439e719", func := "waystone/waystonelaw08.TopoBoth", spec := "topoBoth", unfollowed := true, recurses := true, plainKeys := false, apart := false, narrowed := true }
def TopoBothUptoSaid : Prop := topoBothUptoRow.holds Try.pinned (OpenSpec.upto topoBothSpec)

/-- 'waystonelaw08.TopoOn', WHERE WHAT IT READS IS OF BULK AT MOST 1048576: true; the input reads as it did. -/
def topoOnUptoRow : OpenClaim := { program := "ytglfpobapkkgdaa", sum := "f4c8748286ff3d0d4865ec149730bcc0a6bbcf6d1296a81cabb085560439e719", func := "waystone/waystonelaw08.TopoOn", spec := "topoOn", unfollowed := true, recurses := true, plainKeys := false, apart := false, narrowed := true }
def TopoOnUptoSaid : Prop := topoOnUptoRow.holds Try.pinned (OpenSpec.upto topoOnSpec)

/-- 'waystonelaw08.TopoReaches', WHERE WHAT IT READS IS OF BULK AT MOST 1048576: true; the input reads as it did. -/
def topoReachesUptoRow : OpenClaim := { program := "ytglfpobapkkgdaa", sum := "f4c8748286ff3d0d4865ec149730bcc0a6bbcf6d1296a81cabb085560439e719", func := "waystone/waystonelaw08.TopoReaches", spec := "topoReaches", unfollowed := true, recurses := true, plainKeys := false, apart := false, narrowed := true }
def TopoReachesUptoSaid : Prop := topoReachesUptoRow.holds Try.pinned (OpenSpec.upto topoReachesSpec)

/-- 'waystonelaw08.TopoTells', WHERE WHAT IT READS IS OF BULK AT MOST 1048576: true; the input reads as it did. -/
def topoTellsUptoRow : OpenClaim := { program := "ytglfpobapkkgdaa", sum := "f4c8748286ff3d0d4865ec149730bcc0a6bbcf6d1296a81cabb085560439e719", func := "waystone/waystonelaw08.TopoTells", spec := "topoTells", unfollowed := true, recurses := true, plainKeys := false, apart := false, narrowed := true }
def TopoTellsUptoSaid : Prop := topoTellsUptoRow.holds Try.pinned (OpenSpec.upto topoTellsSpec)

end Rows
end Go.Proofs.Ytglfpobapkkgdaa
