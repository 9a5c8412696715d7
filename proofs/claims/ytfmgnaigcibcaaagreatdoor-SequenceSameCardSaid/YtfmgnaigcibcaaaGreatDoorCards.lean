/-
  DERIVED. GIVEN WITH THE SEED: THE CARDS: each row of YtfmgnaigcibcaaaGreatDoorRows.lean that lists a variable, with what it lists TIED to the program's text (the seventh form; the later family's looks); each row that meets fmt, with fmt's text TOLD by the authors' own Lean function (tested against real Go, not proved from fmt's source: count such statements apart). THE CARD IS WHAT COUNTS. Prove the row's statement (the work); the ties are given (YtfmgnaigcibcaaaGreatDoorTie.lean); close each card by the builder's one call (the guide's Derived/Test/ToyasCard.lean, 'card_holds'). Laid BY PROGRAM, IN A SANDBOX (cutbox-door.mjs). By AI agents, Wed Nov 11 2026. No macro, syntax, notation, axiom, sorry.
-/
import Derived.Test.YtfmgnaigcibcaaaGreatDoorRows
import GoSem.ClaimSeven
namespace Go.Proofs.YtfmgnaigcibcaaaGreatDoor
namespace Rows

/-- THE TIED CARD OF 'quiltlaw12.PrimpatchApply'. -/
def primpatchApplyCard : Claim7 := { stood := { row := primpatchApplyRow, standIns := [], harness := (true, "46ff513940c559acc1aeebd7f20c4f2bca6d15ca4c844de9ba066a079b9aa59b"), looks := false }, kinds := [], alts := [], laidByText := true, laidKinds := [.data, .pinned], laidTests := true, laidLooks := .later }
def PrimpatchApplyCardSaid : Prop := Claim7.holds Tryz.pinned (.plain (OpenSpec.ofChange primpatchApplySpec)) primpatchApplyCard

/-- THE TIED CARD OF 'quiltlaw14.SequenceApply'. -/
def sequenceApplyCard : Claim7 := { stood := { row := sequenceApplyRow, standIns := [], harness := (true, "46ff513940c559acc1aeebd7f20c4f2bca6d15ca4c844de9ba066a079b9aa59b"), looks := false }, kinds := [], alts := [], laidByText := true, laidKinds := [.data, .pinned], laidTests := true, laidLooks := .later }
def SequenceApplyCardSaid : Prop := Claim7.holds Tryz.pinned (.plain (OpenSpec.ofChange sequenceApplySpec)) sequenceApplyCard

/-- THE TIED CARD OF 'quiltlaw14.SequenceInverse'. -/
def sequenceInverseCard : Claim7 := { stood := { row := sequenceInverseRow, standIns := [], harness := (true, "46ff513940c559acc1aeebd7f20c4f2bca6d15ca4c844de9ba066a079b9aa59b"), looks := false }, kinds := [], alts := [], laidByText := true, laidKinds := [.data, .pinned], laidTests := true, laidLooks := .later }
def SequenceInverseCardSaid : Prop := Claim7.holds Tryz.pinned (.plain (OpenSpec.ofChange sequenceInverseSpec)) sequenceInverseCard

/-- THE TIED CARD OF 'quiltlaw14.SequenceMoved'. -/
def sequenceMovedCard : Claim7 := { stood := { row := sequenceMovedRow, standIns := [], harness := (true, "46ff513940c559acc1aeebd7f20c4f2bca6d15ca4c844de9ba066a079b9aa59b"), looks := false }, kinds := [], alts := [], laidByText := true, laidKinds := [.data, .pinned], laidTests := true, laidLooks := .later }
def SequenceMovedCardSaid : Prop := Claim7.holds Tryz.pinned (.plain (OpenSpec.ofChange sequenceMovedSpec)) sequenceMovedCard

/-- THE TIED CARD OF 'quiltlaw14.SequenceCanceled'. -/
def sequenceCanceledCard : Claim7 := { stood := { row := sequenceCanceledRow, standIns := [], harness := (true, "46ff513940c559acc1aeebd7f20c4f2bca6d15ca4c844de9ba066a079b9aa59b"), looks := false }, kinds := [], alts := [], laidByText := true, laidKinds := [.data, .pinned], laidTests := true, laidLooks := .later }
def SequenceCanceledCardSaid : Prop := Claim7.holds Tryz.pinned (.plain (OpenSpec.ofChange sequenceCanceledSpec)) sequenceCanceledCard

/-- THE TIED CARD OF 'quiltlaw14.SequenceSame'. -/
def sequenceSameCard : Claim7 := { stood := { row := sequenceSameRow, standIns := [], harness := (true, "46ff513940c559acc1aeebd7f20c4f2bca6d15ca4c844de9ba066a079b9aa59b"), looks := false }, kinds := [], alts := [], laidByText := true, laidKinds := [.data, .pinned], laidTests := true, laidLooks := .later }
def SequenceSameCardSaid : Prop := Claim7.holds Tryz.pinned (.plain (OpenSpec.ofChange sequenceSameSpec)) sequenceSameCard

/-- THE TIED CARD OF 'quiltlaw13.PrimcommuteEffect'. -/
def primcommuteEffectCard : Claim7 := { stood := { row := primcommuteEffectRow, standIns := [], harness := (true, "46ff513940c559acc1aeebd7f20c4f2bca6d15ca4c844de9ba066a079b9aa59b"), looks := false }, kinds := [], alts := [], laidByText := true, laidKinds := [.data, .pinned], laidTests := true, laidLooks := .later }
def PrimcommuteEffectCardSaid : Prop := Claim7.holds Tryz.pinned (.plain (OpenSpec.ofChange primcommuteEffectSpec)) primcommuteEffectCard

/-- THE TIED CARD OF 'quiltlaw15.PushoutEffect'. -/
def pushoutEffectCard : Claim7 := { stood := { row := pushoutEffectRow, standIns := [], harness := (true, "46ff513940c559acc1aeebd7f20c4f2bca6d15ca4c844de9ba066a079b9aa59b"), looks := false }, kinds := [], alts := [], laidByText := true, laidKinds := [.data, .pinned], laidTests := true, laidLooks := .later }
def PushoutEffectCardSaid : Prop := Claim7.holds Tryz.pinned (.plain (OpenSpec.ofChange pushoutEffectSpec)) pushoutEffectCard

/-- THE SECOND FORM's CARD OF 'quiltlaw12.PrimpatchApply'. -/
def primpatchApplyUptoCard : Claim7 := { stood := { row := primpatchApplyUptoRow, standIns := [], harness := (true, "46ff513940c559acc1aeebd7f20c4f2bca6d15ca4c844de9ba066a079b9aa59b"), looks := false }, kinds := [], alts := [], laidByText := true, laidKinds := [.data, .pinned], laidTests := true, laidLooks := .later }
def PrimpatchApplyUptoCardSaid : Prop := Claim7.holds Tryz.pinned (.plain (OpenSpec.upto primpatchApplySpec)) primpatchApplyUptoCard

/-- THE SECOND FORM's CARD OF 'quiltlaw14.SequenceApply'. -/
def sequenceApplyUptoCard : Claim7 := { stood := { row := sequenceApplyUptoRow, standIns := [], harness := (true, "46ff513940c559acc1aeebd7f20c4f2bca6d15ca4c844de9ba066a079b9aa59b"), looks := false }, kinds := [], alts := [], laidByText := true, laidKinds := [.data, .pinned], laidTests := true, laidLooks := .later }
def SequenceApplyUptoCardSaid : Prop := Claim7.holds Tryz.pinned (.plain (OpenSpec.upto sequenceApplySpec)) sequenceApplyUptoCard

/-- THE SECOND FORM's CARD OF 'quiltlaw14.SequenceInverse'. -/
def sequenceInverseUptoCard : Claim7 := { stood := { row := sequenceInverseUptoRow, standIns := [], harness := (true, "46ff513940c559acc1aeebd7f20c4f2bca6d15ca4c844de9ba066a079b9aa59b"), looks := false }, kinds := [], alts := [], laidByText := true, laidKinds := [.data, .pinned], laidTests := true, laidLooks := .later }
def SequenceInverseUptoCardSaid : Prop := Claim7.holds Tryz.pinned (.plain (OpenSpec.upto sequenceInverseSpec)) sequenceInverseUptoCard

/-- THE SECOND FORM's CARD OF 'quiltlaw14.SequenceMoved'. -/
def sequenceMovedUptoCard : Claim7 := { stood := { row := sequenceMovedUptoRow, standIns := [], harness := (true, "46ff513940c559acc1aeebd7f20c4f2bca6d15ca4c844de9ba066a079b9aa59b"), looks := false }, kinds := [], alts := [], laidByText := true, laidKinds := [.data, .pinned], laidTests := true, laidLooks := .later }
def SequenceMovedUptoCardSaid : Prop := Claim7.holds Tryz.pinned (.plain (OpenSpec.upto sequenceMovedSpec)) sequenceMovedUptoCard

/-- THE SECOND FORM's CARD OF 'quiltlaw14.SequenceCanceled'. -/
def sequenceCanceledUptoCard : Claim7 := { stood := { row := sequenceCanceledUptoRow, standIns := [], harness := (true, "46ff513940c559acc1aeebd7f20c4f2bca6d15ca4c844de9ba066a079b9aa59b"), looks := false }, kinds := [], alts := [], laidByText := true, laidKinds := [.data, .pinned], laidTests := true, laidLooks := .later }
def SequenceCanceledUptoCardSaid : Prop := Claim7.holds Tryz.pinned (.plain (OpenSpec.upto sequenceCanceledSpec)) sequenceCanceledUptoCard

/-- THE SECOND FORM's CARD OF 'quiltlaw14.SequenceSame'. -/
def sequenceSameUptoCard : Claim7 := { stood := { row := sequenceSameUptoRow, standIns := [], harness := (true, "46ff513940c559acc1aeebd7f20c4f2bca6d15ca4c844de9ba066a079b9aa59b"), looks := false }, kinds := [], alts := [], laidByText := true, laidKinds := [.data, .pinned], laidTests := true, laidLooks := .later }
def SequenceSameUptoCardSaid : Prop := Claim7.holds Tryz.pinned (.plain (OpenSpec.upto sequenceSameSpec)) sequenceSameUptoCard

/-- THE SECOND FORM's CARD OF 'quiltlaw13.PrimcommuteEffect'. -/
def primcommuteEffectUptoCard : Claim7 := { stood := { row := primcommuteEffectUptoRow, standIns := [], harness := (true, "46ff513940c559acc1aeebd7f20c4f2bca6d15ca4c844de9ba066a079b9aa59b"), looks := false }, kinds := [], alts := [], laidByText := true, laidKinds := [.data, .pinned], laidTests := true, laidLooks := .later }
def PrimcommuteEffectUptoCardSaid : Prop := Claim7.holds Tryz.pinned (.plain (OpenSpec.upto primcommuteEffectSpec)) primcommuteEffectUptoCard

/-- THE SECOND FORM's CARD OF 'quiltlaw15.PushoutEffect'. -/
def pushoutEffectUptoCard : Claim7 := { stood := { row := pushoutEffectUptoRow, standIns := [], harness := (true, "46ff513940c559acc1aeebd7f20c4f2bca6d15ca4c844de9ba066a079b9aa59b"), looks := false }, kinds := [], alts := [], laidByText := true, laidKinds := [.data, .pinned], laidTests := true, laidLooks := .later }
def PushoutEffectUptoCardSaid : Prop := Claim7.holds Tryz.pinned (.plain (OpenSpec.upto pushoutEffectSpec)) pushoutEffectUptoCard
end Rows
end Go.Proofs.YtfmgnaigcibcaaaGreatDoor
