/-
  DERIVED. GIVEN WITH THE SEED: THE CARDS: each row of YtgjphfmpodkgeaaGreatDoorRows.lean that lists a variable, with what it lists TIED to the program's text (the seventh form; the later family's looks); each row that meets fmt, with fmt's text TOLD by the authors' own Lean function (tested against real Go, not proved from fmt's source: count such statements apart). THE CARD IS WHAT COUNTS. Prove the row's statement (the work); the ties are given (YtgjphfmpodkgeaaGreatDoorTie.lean); close each card by the builder's one call (the guide's Derived/Test/ToyasCard.lean, 'card_holds'). Laid BY PROGRAM, IN A SANDBOX (cutbox-door.mjs). By AI agents, Wed Nov 11 2026. No macro, syntax, notation, axiom, sorry.
-/
import Derived.Test.YtgjphfmpodkgeaaGreatDoorRows
import GoSem.ClaimSeven
namespace Go.Proofs.YtgjphfmpodkgeaaGreatDoor
namespace Rows

/-- THE TIED CARD OF 'quiltlaw15.PushoutSymmetric'. -/
def pushoutSymmetricCard : Claim7 := { stood := { row := pushoutSymmetricRow, standIns := [], harness := (true, "d7b458a97354630cc867b8bef412e05639ef7c204a42954d425e0a6fb87df860"), looks := false }, kinds := [], alts := [], laidByText := true, laidKinds := [.data, .pinned], laidTests := true, laidLooks := .later }
def PushoutSymmetricCardSaid : Prop := Claim7.holds Tryz.pinned (.plain (OpenSpec.ofChange pushoutSymmetricSpec)) pushoutSymmetricCard

/-- THE TIED CARD OF 'quiltlaw15.PushoutParts'. -/
def pushoutPartsCard : Claim7 := { stood := { row := pushoutPartsRow, standIns := [], harness := (true, "d7b458a97354630cc867b8bef412e05639ef7c204a42954d425e0a6fb87df860"), looks := false }, kinds := [], alts := [], laidByText := true, laidKinds := [.data, .pinned], laidTests := true, laidLooks := .later }
def PushoutPartsCardSaid : Prop := Claim7.holds Tryz.pinned (.plain (OpenSpec.ofChange pushoutPartsSpec)) pushoutPartsCard

/-- THE TIED CARD OF 'quiltlaw15.PushoutConflict'. -/
def pushoutConflictCard : Claim7 := { stood := { row := pushoutConflictRow, standIns := [], harness := (true, "d7b458a97354630cc867b8bef412e05639ef7c204a42954d425e0a6fb87df860"), looks := false }, kinds := [], alts := [], laidByText := true, laidKinds := [.data, .pinned], laidTests := true, laidLooks := .later }
def PushoutConflictCardSaid : Prop := Claim7.holds Tryz.pinned (.plain (OpenSpec.ofChange pushoutConflictSpec)) pushoutConflictCard

/-- THE TIED CARD OF 'quiltlaw14.SequenceSwapped'. -/
def sequenceSwappedCard : Claim7 := { stood := { row := sequenceSwappedRow, standIns := [], harness := (true, "d7b458a97354630cc867b8bef412e05639ef7c204a42954d425e0a6fb87df860"), looks := false }, kinds := [], alts := [], laidByText := true, laidKinds := [.data, .pinned], laidTests := true, laidLooks := .later }
def SequenceSwappedCardSaid : Prop := Claim7.holds Tryz.pinned (.plain (OpenSpec.ofChange sequenceSwappedSpec)) sequenceSwappedCard

/-- THE TIED CARD OF 'quiltlaw14.SequencePass'. -/
def sequencePassCard : Claim7 := { stood := { row := sequencePassRow, standIns := [], harness := (true, "d7b458a97354630cc867b8bef412e05639ef7c204a42954d425e0a6fb87df860"), looks := false }, kinds := [], alts := [], laidByText := true, laidKinds := [.data, .pinned], laidTests := true, laidLooks := .later }
def SequencePassCardSaid : Prop := Claim7.holds Tryz.pinned (.plain (OpenSpec.ofChange sequencePassSpec)) sequencePassCard

/-- THE TIED CARD OF 'quiltlaw14.SequenceNothing'. -/
def sequenceNothingCard : Claim7 := { stood := { row := sequenceNothingRow, standIns := [], harness := (true, "d7b458a97354630cc867b8bef412e05639ef7c204a42954d425e0a6fb87df860"), looks := false }, kinds := [], alts := [], laidByText := true, laidKinds := [.data, .pinned], laidTests := true, laidLooks := .later }
def SequenceNothingCardSaid : Prop := Claim7.holds Tryz.pinned (.plain (OpenSpec.ofChange sequenceNothingSpec)) sequenceNothingCard

/-- THE TIED CARD OF 'quiltlaw15.PushoutSquare'. -/
def pushoutSquareCard : Claim7 := { stood := { row := pushoutSquareRow, standIns := [], harness := (true, "d7b458a97354630cc867b8bef412e05639ef7c204a42954d425e0a6fb87df860"), looks := false }, kinds := [], alts := [], laidByText := true, laidKinds := [.data, .pinned], laidTests := true, laidLooks := .later }
def PushoutSquareCardSaid : Prop := Claim7.holds Tryz.pinned (.plain (OpenSpec.ofChange pushoutSquareSpec)) pushoutSquareCard

/-- THE TIED CARD OF 'quiltlaw15.PushoutUniversal'. -/
def pushoutUniversalCard : Claim7 := { stood := { row := pushoutUniversalRow, standIns := [], harness := (true, "d7b458a97354630cc867b8bef412e05639ef7c204a42954d425e0a6fb87df860"), looks := false }, kinds := [], alts := [], laidByText := true, laidKinds := [.data, .pinned], laidTests := true, laidLooks := .later }
def PushoutUniversalCardSaid : Prop := Claim7.holds Tryz.pinned (.plain (OpenSpec.ofChange pushoutUniversalSpec)) pushoutUniversalCard

/-- THE TIED CARD OF 'quiltlaw15.PushoutFactors'. -/
def pushoutFactorsCard : Claim7 := { stood := { row := pushoutFactorsRow, standIns := [], harness := (true, "d7b458a97354630cc867b8bef412e05639ef7c204a42954d425e0a6fb87df860"), looks := false }, kinds := [], alts := [], laidByText := true, laidKinds := [.data, .pinned], laidTests := true, laidLooks := .later }
def PushoutFactorsCardSaid : Prop := Claim7.holds Tryz.pinned (.plain (OpenSpec.ofChange pushoutFactorsSpec)) pushoutFactorsCard

/-- THE SECOND FORM's CARD OF 'quiltlaw15.PushoutSymmetric'. -/
def pushoutSymmetricUptoCard : Claim7 := { stood := { row := pushoutSymmetricUptoRow, standIns := [], harness := (true, "d7b458a97354630cc867b8bef412e05639ef7c204a42954d425e0a6fb87df860"), looks := false }, kinds := [], alts := [], laidByText := true, laidKinds := [.data, .pinned], laidTests := true, laidLooks := .later }
def PushoutSymmetricUptoCardSaid : Prop := Claim7.holds Tryz.pinned (.plain (OpenSpec.upto pushoutSymmetricSpec)) pushoutSymmetricUptoCard

/-- THE SECOND FORM's CARD OF 'quiltlaw15.PushoutParts'. -/
def pushoutPartsUptoCard : Claim7 := { stood := { row := pushoutPartsUptoRow, standIns := [], harness := (true, "d7b458a97354630cc867b8bef412e05639ef7c204a42954d425e0a6fb87df860"), looks := false }, kinds := [], alts := [], laidByText := true, laidKinds := [.data, .pinned], laidTests := true, laidLooks := .later }
def PushoutPartsUptoCardSaid : Prop := Claim7.holds Tryz.pinned (.plain (OpenSpec.upto pushoutPartsSpec)) pushoutPartsUptoCard

/-- THE SECOND FORM's CARD OF 'quiltlaw15.PushoutConflict'. -/
def pushoutConflictUptoCard : Claim7 := { stood := { row := pushoutConflictUptoRow, standIns := [], harness := (true, "d7b458a97354630cc867b8bef412e05639ef7c204a42954d425e0a6fb87df860"), looks := false }, kinds := [], alts := [], laidByText := true, laidKinds := [.data, .pinned], laidTests := true, laidLooks := .later }
def PushoutConflictUptoCardSaid : Prop := Claim7.holds Tryz.pinned (.plain (OpenSpec.upto pushoutConflictSpec)) pushoutConflictUptoCard

/-- THE SECOND FORM's CARD OF 'quiltlaw14.SequenceSwapped'. -/
def sequenceSwappedUptoCard : Claim7 := { stood := { row := sequenceSwappedUptoRow, standIns := [], harness := (true, "d7b458a97354630cc867b8bef412e05639ef7c204a42954d425e0a6fb87df860"), looks := false }, kinds := [], alts := [], laidByText := true, laidKinds := [.data, .pinned], laidTests := true, laidLooks := .later }
def SequenceSwappedUptoCardSaid : Prop := Claim7.holds Tryz.pinned (.plain (OpenSpec.upto sequenceSwappedSpec)) sequenceSwappedUptoCard

/-- THE SECOND FORM's CARD OF 'quiltlaw14.SequencePass'. -/
def sequencePassUptoCard : Claim7 := { stood := { row := sequencePassUptoRow, standIns := [], harness := (true, "d7b458a97354630cc867b8bef412e05639ef7c204a42954d425e0a6fb87df860"), looks := false }, kinds := [], alts := [], laidByText := true, laidKinds := [.data, .pinned], laidTests := true, laidLooks := .later }
def SequencePassUptoCardSaid : Prop := Claim7.holds Tryz.pinned (.plain (OpenSpec.upto sequencePassSpec)) sequencePassUptoCard

/-- THE SECOND FORM's CARD OF 'quiltlaw14.SequenceNothing'. -/
def sequenceNothingUptoCard : Claim7 := { stood := { row := sequenceNothingUptoRow, standIns := [], harness := (true, "d7b458a97354630cc867b8bef412e05639ef7c204a42954d425e0a6fb87df860"), looks := false }, kinds := [], alts := [], laidByText := true, laidKinds := [.data, .pinned], laidTests := true, laidLooks := .later }
def SequenceNothingUptoCardSaid : Prop := Claim7.holds Tryz.pinned (.plain (OpenSpec.upto sequenceNothingSpec)) sequenceNothingUptoCard

/-- THE SECOND FORM's CARD OF 'quiltlaw15.PushoutSquare'. -/
def pushoutSquareUptoCard : Claim7 := { stood := { row := pushoutSquareUptoRow, standIns := [], harness := (true, "d7b458a97354630cc867b8bef412e05639ef7c204a42954d425e0a6fb87df860"), looks := false }, kinds := [], alts := [], laidByText := true, laidKinds := [.data, .pinned], laidTests := true, laidLooks := .later }
def PushoutSquareUptoCardSaid : Prop := Claim7.holds Tryz.pinned (.plain (OpenSpec.upto pushoutSquareSpec)) pushoutSquareUptoCard

/-- THE SECOND FORM's CARD OF 'quiltlaw15.PushoutUniversal'. -/
def pushoutUniversalUptoCard : Claim7 := { stood := { row := pushoutUniversalUptoRow, standIns := [], harness := (true, "d7b458a97354630cc867b8bef412e05639ef7c204a42954d425e0a6fb87df860"), looks := false }, kinds := [], alts := [], laidByText := true, laidKinds := [.data, .pinned], laidTests := true, laidLooks := .later }
def PushoutUniversalUptoCardSaid : Prop := Claim7.holds Tryz.pinned (.plain (OpenSpec.upto pushoutUniversalSpec)) pushoutUniversalUptoCard

/-- THE SECOND FORM's CARD OF 'quiltlaw15.PushoutFactors'. -/
def pushoutFactorsUptoCard : Claim7 := { stood := { row := pushoutFactorsUptoRow, standIns := [], harness := (true, "d7b458a97354630cc867b8bef412e05639ef7c204a42954d425e0a6fb87df860"), looks := false }, kinds := [], alts := [], laidByText := true, laidKinds := [.data, .pinned], laidTests := true, laidLooks := .later }
def PushoutFactorsUptoCardSaid : Prop := Claim7.holds Tryz.pinned (.plain (OpenSpec.upto pushoutFactorsSpec)) pushoutFactorsUptoCard
end Rows
end Go.Proofs.YtgjphfmpodkgeaaGreatDoor
