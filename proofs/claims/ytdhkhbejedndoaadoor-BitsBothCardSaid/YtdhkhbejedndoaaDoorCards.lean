/-
  DERIVED. GIVEN WITH THE SEED: THE CARDS: each row of YtdhkhbejedndoaaDoorRows.lean that lists a variable, with what it lists TIED to the program's text (the seventh form; the later family's looks); each row that meets fmt, with fmt's text TOLD by the authors' own Lean function (tested against real Go, not proved from fmt's source: count such statements apart). THE CARD IS WHAT COUNTS. Prove the row's statement (the work); the ties are given (YtdhkhbejedndoaaDoorTie.lean); close each card by the builder's one call (the guide's Derived/Test/ToyasCard.lean, 'card_holds'). Laid BY PROGRAM, IN A SANDBOX (cutbox-door.mjs). By AI agents, Wed Nov 11 2026. No macro, syntax, notation, axiom, sorry.
-/
import Derived.Test.YtdhkhbejedndoaaDoorRows
import GoSem.ClaimSeven
namespace Go.Proofs.YtdhkhbejedndoaaDoor
namespace Rows

/-- THE TIED CARD OF 'waystonelaw06.BitsAsk'. -/
def bitsAskCard : Claim7 := { stood := { row := bitsAskRow, standIns := [], harness := (true, "642b72fb7d0b70cee7d0059009d4730b90dffae7084f4a8b66b0b4ea0c681039"), looks := false }, kinds := [], alts := [], laidByText := true, laidKinds := [.data], laidTests := true, laidLooks := .later }
def BitsAskCardSaid : Prop := Claim7.holds Tryd.pinned (.plain (OpenSpec.ofChange bitsAskSpec)) bitsAskCard

/-- THE TIED CARD OF 'waystonelaw06.BitsOf'. -/
def bitsOfCard : Claim7 := { stood := { row := bitsOfRow, standIns := [], harness := (true, "642b72fb7d0b70cee7d0059009d4730b90dffae7084f4a8b66b0b4ea0c681039"), looks := false }, kinds := [], alts := [], laidByText := true, laidKinds := [.data], laidTests := true, laidLooks := .later }
def BitsOfCardSaid : Prop := Claim7.holds Tryd.pinned (.plain (OpenSpec.ofChange bitsOfSpec)) bitsOfCard

/-- THE TIED CARD OF 'waystonelaw06.BitsNil'. -/
def bitsNilCard : Claim7 := { stood := { row := bitsNilRow, standIns := [], harness := (true, "642b72fb7d0b70cee7d0059009d4730b90dffae7084f4a8b66b0b4ea0c681039"), looks := false }, kinds := [], alts := [], laidByText := true, laidKinds := [.data], laidTests := true, laidLooks := .later }
def BitsNilCardSaid : Prop := Claim7.holds Tryd.pinned (.plain (OpenSpec.ofChange bitsNilSpec)) bitsNilCard

/-- THE TIED CARD OF 'waystonelaw06.BitsBoth'. -/
def bitsBothCard : Claim7 := { stood := { row := bitsBothRow, standIns := [], harness := (true, "642b72fb7d0b70cee7d0059009d4730b90dffae7084f4a8b66b0b4ea0c681039"), looks := false }, kinds := [], alts := [], laidByText := true, laidKinds := [.data], laidTests := true, laidLooks := .later }
def BitsBothCardSaid : Prop := Claim7.holds Tryd.pinned (.plain (OpenSpec.ofChange bitsBothSpec)) bitsBothCard

/-- THE TIED CARD OF 'waystonelaw06.BitsLaws'. -/
def bitsLawsCard : Claim7 := { stood := { row := bitsLawsRow, standIns := [], harness := (true, "642b72fb7d0b70cee7d0059009d4730b90dffae7084f4a8b66b0b4ea0c681039"), looks := false }, kinds := [], alts := [], laidByText := true, laidKinds := [.data], laidTests := true, laidLooks := .later }
def BitsLawsCardSaid : Prop := Claim7.holds Tryd.pinned (.plain (OpenSpec.ofChange bitsLawsSpec)) bitsLawsCard

/-- THE SECOND FORM's CARD OF 'waystonelaw06.BitsAsk'. -/
def bitsAskUptoCard : Claim7 := { stood := { row := bitsAskUptoRow, standIns := [], harness := (true, "642b72fb7d0b70cee7d0059009d4730b90dffae7084f4a8b66b0b4ea0c681039"), looks := false }, kinds := [], alts := [], laidByText := true, laidKinds := [.data], laidTests := true, laidLooks := .later }
def BitsAskUptoCardSaid : Prop := Claim7.holds Tryd.pinned (.plain (OpenSpec.upto bitsAskSpec)) bitsAskUptoCard

/-- THE SECOND FORM's CARD OF 'waystonelaw06.BitsOf'. -/
def bitsOfUptoCard : Claim7 := { stood := { row := bitsOfUptoRow, standIns := [], harness := (true, "642b72fb7d0b70cee7d0059009d4730b90dffae7084f4a8b66b0b4ea0c681039"), looks := false }, kinds := [], alts := [], laidByText := true, laidKinds := [.data], laidTests := true, laidLooks := .later }
def BitsOfUptoCardSaid : Prop := Claim7.holds Tryd.pinned (.plain (OpenSpec.upto bitsOfSpec)) bitsOfUptoCard

/-- THE SECOND FORM's CARD OF 'waystonelaw06.BitsNil'. -/
def bitsNilUptoCard : Claim7 := { stood := { row := bitsNilUptoRow, standIns := [], harness := (true, "642b72fb7d0b70cee7d0059009d4730b90dffae7084f4a8b66b0b4ea0c681039"), looks := false }, kinds := [], alts := [], laidByText := true, laidKinds := [.data], laidTests := true, laidLooks := .later }
def BitsNilUptoCardSaid : Prop := Claim7.holds Tryd.pinned (.plain (OpenSpec.upto bitsNilSpec)) bitsNilUptoCard

/-- THE SECOND FORM's CARD OF 'waystonelaw06.BitsBoth'. -/
def bitsBothUptoCard : Claim7 := { stood := { row := bitsBothUptoRow, standIns := [], harness := (true, "642b72fb7d0b70cee7d0059009d4730b90dffae7084f4a8b66b0b4ea0c681039"), looks := false }, kinds := [], alts := [], laidByText := true, laidKinds := [.data], laidTests := true, laidLooks := .later }
def BitsBothUptoCardSaid : Prop := Claim7.holds Tryd.pinned (.plain (OpenSpec.upto bitsBothSpec)) bitsBothUptoCard

/-- THE SECOND FORM's CARD OF 'waystonelaw06.BitsLaws'. -/
def bitsLawsUptoCard : Claim7 := { stood := { row := bitsLawsUptoRow, standIns := [], harness := (true, "642b72fb7d0b70cee7d0059009d4730b90dffae7084f4a8b66b0b4ea0c681039"), looks := false }, kinds := [], alts := [], laidByText := true, laidKinds := [.data], laidTests := true, laidLooks := .later }
def BitsLawsUptoCardSaid : Prop := Claim7.holds Tryd.pinned (.plain (OpenSpec.upto bitsLawsSpec)) bitsLawsUptoCard
end Rows
end Go.Proofs.YtdhkhbejedndoaaDoor
