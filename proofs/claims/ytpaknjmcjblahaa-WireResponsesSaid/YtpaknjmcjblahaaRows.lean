/-
  No cell of these rows narrows 'for every input' (looked for: loops, veiled, ifaces, maps, wideKeys, modest, calm, conditions, laid).
  DERIVED. THE GIVEN ROWS OF THIS SEAT. 5 by the template 'for every input the law returns true; each argument reads behind the call as it read before'; 0 by the template 'total and deterministic' (their statements: YtpaknjmcjblahaaTotals.lean).
  GIVEN WITH THE SEED: the statements are not yours to turn. If you find one false, say at which input.
  Laid BY PROGRAM, IN A SANDBOX (cutbox-rows.mjs): the forced cells as the released guide's own fill.sh prints them over the translation 26fc156b6314312d… (all of the seat's roots in one cut). By AI agents, Wed Nov 11 2026. No macro, syntax, notation, axiom, sorry.
-/
import Derived.Test.YtpaknjmcjblahaaChecked
import GoSem.Claim
import GoSem.ClaimJoined
import GoSem.ClaimMapViews
import Derived.JoinedTies
import Derived.KernelRfl
namespace Go.Proofs.Ytpaknjmcjblahaa
/- THE CELL 'sum', in the pinned program and in every row, IS THE sha256 OF THE DUMP (.gsa) THAT YtpaknjmcjblahaaProg.lean LOADS. Nothing in Lean hashes anything: it is a label: what it is worth is what the hold of that sum in a sandbox is worth. -/
noncomputable def Try.pinned : Pinned := { name := "ytpaknjmcjblahaa", sum := "26fc156b6314312dccbe7e4e54d5d80787c67b63fd43f53807204bbc3746a74e", checked := Try.checked }
namespace Rows
def none {H : Type} : Left H := { results := [], args := [] }

/-- 'waystonelaw17.WireRequests': WHATEVER THE INPUT: true; the input reads as it did. -/
def wireRequestsSpec : ChangeSpec := { name := "wireRequests", fn := fun _ => fun
  | [d1, d2] => { results := [.lit (.bool true)], args := [d1, d2] }
  | _ => none }
def wireRequestsRow : OpenClaim := { program := "ytpaknjmcjblahaa", sum := "26fc156b6314312dccbe7e4e54d5d80787c67b63fd43f53807204bbc3746a74e", func := "waystone/waystonelaw17.WireRequests", spec := "wireRequests", unfollowed := true, recurses := true, apart := false }
def WireRequestsSaid : Prop := wireRequestsRow.holds Try.pinned (OpenSpec.ofChange wireRequestsSpec)

/-- ITS FALSE NEIGHBOUR: 'it returns false'. Refute it at one input. -/
def wireRequestsWrong : ChangeSpec := { name := "wireRequests", fn := fun _ => fun
  | [d1, d2] => { results := [.lit (.bool false)], args := [d1, d2] }
  | _ => none }
def WireRequestsWrongFalsely : Prop := wireRequestsRow.holds Try.pinned (OpenSpec.ofChange wireRequestsWrong)

/-- 'waystonelaw17.WireBack': WHATEVER THE INPUT: true; the input reads as it did. -/
def wireBackSpec : ChangeSpec := { name := "wireBack", fn := fun _ => fun
  | [d1, d2] => { results := [.lit (.bool true)], args := [d1, d2] }
  | _ => none }
def wireBackRow : OpenClaim := { program := "ytpaknjmcjblahaa", sum := "26fc156b6314312dccbe7e4e54d5d80787c67b63fd43f53807204bbc3746a74e", func := "waystone/waystonelaw17.WireBack", spec := "wireBack", unfollowed := true, recurses := true, apart := false }
def WireBackSaid : Prop := wireBackRow.holds Try.pinned (OpenSpec.ofChange wireBackSpec)

/-- ITS FALSE NEIGHBOUR: 'it returns false'. Refute it at one input. -/
def wireBackWrong : ChangeSpec := { name := "wireBack", fn := fun _ => fun
  | [d1, d2] => { results := [.lit (.bool false)], args := [d1, d2] }
  | _ => none }
def WireBackWrongFalsely : Prop := wireBackRow.holds Try.pinned (OpenSpec.ofChange wireBackWrong)

/-- 'waystonelaw17.WireOne': WHATEVER THE INPUT: true; the input reads as it did. -/
def wireOneSpec : ChangeSpec := { name := "wireOne", fn := fun _ => fun
  | [d] => { results := [.lit (.bool true)], args := [d] }
  | _ => none }
def wireOneRow : OpenClaim := { program := "ytpaknjmcjblahaa", sum := "26fc156b6314312dccbe7e4e54d5d80787c67b63fd43f53807204bbc3746a74e", func := "waystone/waystonelaw17.WireOne", spec := "wireOne", unfollowed := true, recurses := true, apart := false }
def WireOneSaid : Prop := wireOneRow.holds Try.pinned (OpenSpec.ofChange wireOneSpec)

/-- ITS FALSE NEIGHBOUR: 'it returns false'. Refute it at one input. -/
def wireOneWrong : ChangeSpec := { name := "wireOne", fn := fun _ => fun
  | [d] => { results := [.lit (.bool false)], args := [d] }
  | _ => none }
def WireOneWrongFalsely : Prop := wireOneRow.holds Try.pinned (OpenSpec.ofChange wireOneWrong)

/-- 'waystonelaw17.WireResponses': WHATEVER THE INPUT: true; the input reads as it did. -/
def wireResponsesSpec : ChangeSpec := { name := "wireResponses", fn := fun _ => fun
  | [d1, d2, d3] => { results := [.lit (.bool true)], args := [d1, d2, d3] }
  | _ => none }
def wireResponsesRow : OpenClaim := { program := "ytpaknjmcjblahaa", sum := "26fc156b6314312dccbe7e4e54d5d80787c67b63fd43f53807204bbc3746a74e", func := "waystone/waystonelaw17.WireResponses", spec := "wireResponses", unfollowed := true, recurses := true, apart := false }
def WireResponsesSaid : Prop := wireResponsesRow.holds Try.pinned (OpenSpec.ofChange wireResponsesSpec)

/-- ITS FALSE NEIGHBOUR: 'it returns false'. Refute it at one input. -/
def wireResponsesWrong : ChangeSpec := { name := "wireResponses", fn := fun _ => fun
  | [d1, d2, d3] => { results := [.lit (.bool false)], args := [d1, d2, d3] }
  | _ => none }
def WireResponsesWrongFalsely : Prop := wireResponsesRow.holds Try.pinned (OpenSpec.ofChange wireResponsesWrong)

/-- 'waystonelaw17.WireAnswers': WHATEVER THE INPUT: true; the input reads as it did. -/
def wireAnswersSpec : ChangeSpec := { name := "wireAnswers", fn := fun _ => fun
  | [d1, d2] => { results := [.lit (.bool true)], args := [d1, d2] }
  | _ => none }
def wireAnswersRow : OpenClaim := { program := "ytpaknjmcjblahaa", sum := "26fc156b6314312dccbe7e4e54d5d80787c67b63fd43f53807204bbc3746a74e", func := "waystone/waystonelaw17.WireAnswers", spec := "wireAnswers", unfollowed := true, recurses := true, apart := false }
def WireAnswersSaid : Prop := wireAnswersRow.holds Try.pinned (OpenSpec.ofChange wireAnswersSpec)

/-- ITS FALSE NEIGHBOUR: 'it returns false'. Refute it at one input. -/
def wireAnswersWrong : ChangeSpec := { name := "wireAnswers", fn := fun _ => fun
  | [d1, d2] => { results := [.lit (.bool false)], args := [d1, d2] }
  | _ => none }
def WireAnswersWrongFalsely : Prop := wireAnswersRow.holds Try.pinned (OpenSpec.ofChange wireAnswersWrong)

/- THE SECOND FORM. 'bulk': how many values and letters a reading holds, each counted each time it is reached (what is shared counts as often as it is met; a slice's spare places count too). A statement '..UptoSaid' is the law's where the arguments, and the package variables that the reading takes, are together of bulk at most 1048576: NARROWER than '..Said'. Prove '..Said' where nothing that the law and all that it calls make is longer than what came in: it says more and counts as full. Else prove '..UptoSaid'. A law counts once. -/
mutual
def uptoBulk {H : Type} : DataW H → Nat
  | .lit (.string bytes) => bytes.length + 1
  | .lit _ => 1
  | .nil => 1
  | .ptr d => uptoBulk d + 1
  | .slice elems spare => uptoBulkAll elems + uptoBulkAll spare + 1
  | .agg parts => uptoBulkAll parts + 1
  | .iface _ d => uptoBulk d + 1
  | .map entries => uptoBulkEntries entries + 1
  | .held _ => 1
def uptoBulkAll {H : Type} : List (DataW H) → Nat
  | [] => 0
  | d :: r => uptoBulk d + uptoBulkAll r
def uptoBulkEntries {H : Type} : List (Lit × DataW H) → Nat
  | [] => 0
  | x :: r => uptoBulkEntry x + uptoBulkEntries r
def uptoBulkEntry {H : Type} : Lit × DataW H → Nat
  | (.string bytes, d) => bytes.length + uptoBulk d + 1
  | (_, d) => uptoBulk d + 1
 end
def uptoSmall : (H : Type) → List (DataW H) → Bool := fun _ ds => decide (uptoBulkAll ds ≤ 1048576)
def OpenSpec.upto (s : _root_.Go.ChangeSpec) : _root_.Go.OpenSpec := { _root_.Go.OpenSpec.ofChange s with cond := some uptoSmall }

/-- 'waystonelaw17.WireRequests', WHERE WHAT IT READS IS OF BULK AT MOST 1048576: true; the input reads as it did. -/
def wireRequestsUptoRow : OpenClaim := { program := "ytpaknjmcjblahaa", sum := "26fc156b6314312dccbe7e4e54d5d80787c67b63fd43f53807204bbc3746a74e", func := "waystone/waystonelaw17.WireRequests", spec := "wireRequests", unfollowed := true, recurses := true, apart := false, narrowed := true }
def WireRequestsUptoSaid : Prop := wireRequestsUptoRow.holds Try.pinned (OpenSpec.upto wireRequestsSpec)

/-- 'waystonelaw17.WireBack', WHERE WHAT IT READS IS OF BULK AT MOST 1048576: true; the input reads as it did. -/
def wireBackUptoRow : OpenClaim := { program := "ytpaknjmcjblahaa", sum := "26fc156b6314312dccbe7e4e54d5d80787c67b63fd43f53807204bbc3746a74e", func := "waystone/waystonelaw17.WireBack", spec := "wireBack", unfollowed := true, recurses := true, apart := false, narrowed := true }
def WireBackUptoSaid : Prop := wireBackUptoRow.holds Try.pinned (OpenSpec.upto wireBackSpec)

/-- 'waystonelaw17.WireOne', WHERE WHAT IT READS IS OF BULK AT MOST 1048576: true; the input reads as it did. -/
def wireOneUptoRow : OpenClaim := { program := "ytpaknjmcjblahaa", sum := "26fc156b6314312dccbe7e4e54d5d80787c67b63fd43f53807204bbc3746a74e", func := "waystone/waystonelaw17.WireOne", spec := "wireOne", unfollowed := true, recurses := true, apart := false, narrowed := true }
def WireOneUptoSaid : Prop := wireOneUptoRow.holds Try.pinned (OpenSpec.upto wireOneSpec)

/-- 'waystonelaw17.WireResponses', WHERE WHAT IT READS IS OF BULK AT MOST 1048576: true; the input reads as it did. -/
def wireResponsesUptoRow : OpenClaim := { program := "ytpaknjmcjblahaa", sum := "26fc156b6314312dccbe7e4e54d5d80787c67b63fd43f53807204bbc3746a74e", func := "waystone/waystonelaw17.WireResponses", spec := "wireResponses", unfollowed := true, recurses := true, apart := false, narrowed := true }
def WireResponsesUptoSaid : Prop := wireResponsesUptoRow.holds Try.pinned (OpenSpec.upto wireResponsesSpec)

/-- 'waystonelaw17.WireAnswers', WHERE WHAT IT READS IS OF BULK AT MOST 1048576: true; the input reads as it did. -/
def wireAnswersUptoRow : OpenClaim := { program := "ytpaknjmcjblahaa", sum := "26fc156b6314312dccbe7e4e54d5d80787c67b63fd43f53807204bbc3746a74e", func := "waystone/waystonelaw17.WireAnswers", spec := "wireAnswers", unfollowed := true, recurses := true, apart := false, narrowed := true }
def WireAnswersUptoSaid : Prop := wireAnswersUptoRow.holds Try.pinned (OpenSpec.upto wireAnswersSpec)

end Rows
end Go.Proofs.Ytpaknjmcjblahaa
