/-
  DERIVED. GIVEN WITH THE SEED: THE CARDS: each row of YtgfiddlmeopebaaGreatDoorRows.lean that lists a variable, with what it lists TIED to the program's text (the seventh form; the later family's looks); each row that meets fmt, with fmt's text TOLD by the authors' own Lean function (tested against real Go, not proved from fmt's source: count such statements apart). THE CARD IS WHAT COUNTS. Prove the row's statement (the work); the ties are given (YtgfiddlmeopebaaGreatDoorTie.lean); close each card by the builder's one call (the guide's Derived/Test/ToyasCard.lean, 'card_holds'). Laid BY PROGRAM, IN A SANDBOX (cutbox-door.mjs). By AI agents, Wed Nov 11 2026. No macro, syntax, notation, axiom, sorry.
-/
import Derived.Test.YtgfiddlmeopebaaGreatDoorRows
import GoSem.ClaimSeven
namespace Go.Proofs.YtgfiddlmeopebaaGreatDoor
namespace Rows

/-- THE TIED CARD OF 'quiltlaw15.PushoutSymmetric'. -/
def pushoutSymmetricCard : Claim7 := { stood := { row := pushoutSymmetricRow, standIns := [], harness := (true, "b8167485ed08b01b2e371e69b9f855efafd2855203669ccaf11a78ea6b3abbb2"), looks := false }, kinds := [], alts := [], laidByText := true, laidKinds := [.data, .pinned], laidTests := true, laidLooks := .later }
def PushoutSymmetricCardSaid : Prop := Claim7.holds Tryz.pinned (.plain (OpenSpec.ofChange pushoutSymmetricSpec)) pushoutSymmetricCard

/-- THE TIED CARD OF 'quiltlaw14.SequenceCancels'. -/
def sequenceCancelsCard : Claim7 := { stood := { row := sequenceCancelsRow, standIns := [], harness := (true, "b8167485ed08b01b2e371e69b9f855efafd2855203669ccaf11a78ea6b3abbb2"), looks := false }, kinds := [], alts := [], laidByText := true, laidKinds := [.data, .pinned], laidTests := true, laidLooks := .later }
def SequenceCancelsCardSaid : Prop := Claim7.holds Tryz.pinned (.plain (OpenSpec.ofChange sequenceCancelsSpec)) sequenceCancelsCard

/-- THE TIED CARD OF 'quiltlaw14.SequenceSwapped'. -/
def sequenceSwappedCard : Claim7 := { stood := { row := sequenceSwappedRow, standIns := [], harness := (true, "b8167485ed08b01b2e371e69b9f855efafd2855203669ccaf11a78ea6b3abbb2"), looks := false }, kinds := [], alts := [], laidByText := true, laidKinds := [.data, .pinned], laidTests := true, laidLooks := .later }
def SequenceSwappedCardSaid : Prop := Claim7.holds Tryz.pinned (.plain (OpenSpec.ofChange sequenceSwappedSpec)) sequenceSwappedCard

/-- THE TIED CARD OF 'quiltlaw14.SequencePass'. -/
def sequencePassCard : Claim7 := { stood := { row := sequencePassRow, standIns := [], harness := (true, "b8167485ed08b01b2e371e69b9f855efafd2855203669ccaf11a78ea6b3abbb2"), looks := false }, kinds := [], alts := [], laidByText := true, laidKinds := [.data, .pinned], laidTests := true, laidLooks := .later }
def SequencePassCardSaid : Prop := Claim7.holds Tryz.pinned (.plain (OpenSpec.ofChange sequencePassSpec)) sequencePassCard

/-- THE TIED CARD OF 'quiltlaw14.SequenceNothing'. -/
def sequenceNothingCard : Claim7 := { stood := { row := sequenceNothingRow, standIns := [], harness := (true, "b8167485ed08b01b2e371e69b9f855efafd2855203669ccaf11a78ea6b3abbb2"), looks := false }, kinds := [], alts := [], laidByText := true, laidKinds := [.data, .pinned], laidTests := true, laidLooks := .later }
def SequenceNothingCardSaid : Prop := Claim7.holds Tryz.pinned (.plain (OpenSpec.ofChange sequenceNothingSpec)) sequenceNothingCard

/-- THE TIED CARD OF 'quiltlaw15.PushoutSquare'. -/
def pushoutSquareCard : Claim7 := { stood := { row := pushoutSquareRow, standIns := [], harness := (true, "b8167485ed08b01b2e371e69b9f855efafd2855203669ccaf11a78ea6b3abbb2"), looks := false }, kinds := [], alts := [], laidByText := true, laidKinds := [.data, .pinned], laidTests := true, laidLooks := .later }
def PushoutSquareCardSaid : Prop := Claim7.holds Tryz.pinned (.plain (OpenSpec.ofChange pushoutSquareSpec)) pushoutSquareCard

/-- THE TIED CARD OF 'quiltlaw15.PushoutFactors'. -/
def pushoutFactorsCard : Claim7 := { stood := { row := pushoutFactorsRow, standIns := [], harness := (true, "b8167485ed08b01b2e371e69b9f855efafd2855203669ccaf11a78ea6b3abbb2"), looks := false }, kinds := [], alts := [], laidByText := true, laidKinds := [.data, .pinned], laidTests := true, laidLooks := .later }
def PushoutFactorsCardSaid : Prop := Claim7.holds Tryz.pinned (.plain (OpenSpec.ofChange pushoutFactorsSpec)) pushoutFactorsCard

/-- THE TIED CARD OF 'quiltlaw15.PushoutMediate'. -/
def pushoutMediateCard : Claim7 := { stood := { row := pushoutMediateRow, standIns := [], harness := (true, "b8167485ed08b01b2e371e69b9f855efafd2855203669ccaf11a78ea6b3abbb2"), looks := false }, kinds := [], alts := [], laidByText := true, laidKinds := [.data, .pinned], laidTests := true, laidLooks := .later }
def PushoutMediateCardSaid : Prop := Claim7.holds Tryz.pinned (.plain (OpenSpec.ofChange pushoutMediateSpec)) pushoutMediateCard

/-- THE SECOND FORM's CARD OF 'quiltlaw15.PushoutSymmetric'. -/
def pushoutSymmetricUptoCard : Claim7 := { stood := { row := pushoutSymmetricUptoRow, standIns := [], harness := (true, "b8167485ed08b01b2e371e69b9f855efafd2855203669ccaf11a78ea6b3abbb2"), looks := false }, kinds := [], alts := [], laidByText := true, laidKinds := [.data, .pinned], laidTests := true, laidLooks := .later }
def PushoutSymmetricUptoCardSaid : Prop := Claim7.holds Tryz.pinned (.plain (OpenSpec.upto pushoutSymmetricSpec)) pushoutSymmetricUptoCard

/-- THE SECOND FORM's CARD OF 'quiltlaw14.SequenceCancels'. -/
def sequenceCancelsUptoCard : Claim7 := { stood := { row := sequenceCancelsUptoRow, standIns := [], harness := (true, "b8167485ed08b01b2e371e69b9f855efafd2855203669ccaf11a78ea6b3abbb2"), looks := false }, kinds := [], alts := [], laidByText := true, laidKinds := [.data, .pinned], laidTests := true, laidLooks := .later }
def SequenceCancelsUptoCardSaid : Prop := Claim7.holds Tryz.pinned (.plain (OpenSpec.upto sequenceCancelsSpec)) sequenceCancelsUptoCard

/-- THE SECOND FORM's CARD OF 'quiltlaw14.SequenceSwapped'. -/
def sequenceSwappedUptoCard : Claim7 := { stood := { row := sequenceSwappedUptoRow, standIns := [], harness := (true, "b8167485ed08b01b2e371e69b9f855efafd2855203669ccaf11a78ea6b3abbb2"), looks := false }, kinds := [], alts := [], laidByText := true, laidKinds := [.data, .pinned], laidTests := true, laidLooks := .later }
def SequenceSwappedUptoCardSaid : Prop := Claim7.holds Tryz.pinned (.plain (OpenSpec.upto sequenceSwappedSpec)) sequenceSwappedUptoCard

/-- THE SECOND FORM's CARD OF 'quiltlaw14.SequencePass'. -/
def sequencePassUptoCard : Claim7 := { stood := { row := sequencePassUptoRow, standIns := [], harness := (true, "b8167485ed08b01b2e371e69b9f855efafd2855203669ccaf11a78ea6b3abbb2"), looks := false }, kinds := [], alts := [], laidByText := true, laidKinds := [.data, .pinned], laidTests := true, laidLooks := .later }
def SequencePassUptoCardSaid : Prop := Claim7.holds Tryz.pinned (.plain (OpenSpec.upto sequencePassSpec)) sequencePassUptoCard

/-- THE SECOND FORM's CARD OF 'quiltlaw14.SequenceNothing'. -/
def sequenceNothingUptoCard : Claim7 := { stood := { row := sequenceNothingUptoRow, standIns := [], harness := (true, "b8167485ed08b01b2e371e69b9f855efafd2855203669ccaf11a78ea6b3abbb2"), looks := false }, kinds := [], alts := [], laidByText := true, laidKinds := [.data, .pinned], laidTests := true, laidLooks := .later }
def SequenceNothingUptoCardSaid : Prop := Claim7.holds Tryz.pinned (.plain (OpenSpec.upto sequenceNothingSpec)) sequenceNothingUptoCard

/-- THE SECOND FORM's CARD OF 'quiltlaw15.PushoutSquare'. -/
def pushoutSquareUptoCard : Claim7 := { stood := { row := pushoutSquareUptoRow, standIns := [], harness := (true, "b8167485ed08b01b2e371e69b9f855efafd2855203669ccaf11a78ea6b3abbb2"), looks := false }, kinds := [], alts := [], laidByText := true, laidKinds := [.data, .pinned], laidTests := true, laidLooks := .later }
def PushoutSquareUptoCardSaid : Prop := Claim7.holds Tryz.pinned (.plain (OpenSpec.upto pushoutSquareSpec)) pushoutSquareUptoCard

/-- THE SECOND FORM's CARD OF 'quiltlaw15.PushoutFactors'. -/
def pushoutFactorsUptoCard : Claim7 := { stood := { row := pushoutFactorsUptoRow, standIns := [], harness := (true, "b8167485ed08b01b2e371e69b9f855efafd2855203669ccaf11a78ea6b3abbb2"), looks := false }, kinds := [], alts := [], laidByText := true, laidKinds := [.data, .pinned], laidTests := true, laidLooks := .later }
def PushoutFactorsUptoCardSaid : Prop := Claim7.holds Tryz.pinned (.plain (OpenSpec.upto pushoutFactorsSpec)) pushoutFactorsUptoCard

/-- THE SECOND FORM's CARD OF 'quiltlaw15.PushoutMediate'. -/
def pushoutMediateUptoCard : Claim7 := { stood := { row := pushoutMediateUptoRow, standIns := [], harness := (true, "b8167485ed08b01b2e371e69b9f855efafd2855203669ccaf11a78ea6b3abbb2"), looks := false }, kinds := [], alts := [], laidByText := true, laidKinds := [.data, .pinned], laidTests := true, laidLooks := .later }
def PushoutMediateUptoCardSaid : Prop := Claim7.holds Tryz.pinned (.plain (OpenSpec.upto pushoutMediateSpec)) pushoutMediateUptoCard
end Rows
end Go.Proofs.YtgfiddlmeopebaaGreatDoor
