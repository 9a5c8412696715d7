/-
  DERIVED. GIVEN WITH THE SEED: THE CARDS: each row of YtojfgidoobgcaaaGreatDoorRows.lean that lists a variable, with what it lists TIED to the program's text (the seventh form; the later family's looks); each row that meets fmt, with fmt's text TOLD by the authors' own Lean function (tested against real Go, not proved from fmt's source: count such statements apart). THE CARD IS WHAT COUNTS. Prove the row's statement (the work); the ties are given (YtojfgidoobgcaaaGreatDoorTie.lean); close each card by the builder's one call (the guide's Derived/Test/ToyasCard.lean, 'card_holds'). Laid BY PROGRAM, IN A SANDBOX (cutbox-door.mjs). By AI agents, Wed Nov 11 2026. No macro, syntax, notation, axiom, sorry.
-/
import Derived.Test.YtojfgidoobgcaaaGreatDoorRows
import GoSem.ClaimSeven
namespace Go.Proofs.YtojfgidoobgcaaaGreatDoor
namespace Rows

/-- THE TIED CARD OF 'quiltlaw55.ReviewCheck'. -/
def reviewCheckCard : Claim7 := { stood := { row := reviewCheckRow, standIns := [], harness := (true, "e169bc98405eb5c01279bb8c8ad1396efd4a0c4a98d9a1639d63083783ed2ba0"), looks := false }, kinds := [], alts := [], laidByText := true, laidKinds := [.data, .pinned], laidTests := true, laidLooks := .later }
def ReviewCheckCardSaid : Prop := Claim7.holds Tryz.pinned (.plain (OpenSpec.ofChange reviewCheckSpec)) reviewCheckCard

/-- THE TIED CARD OF 'quiltlaw55.ReviewLast'. -/
def reviewLastCard : Claim7 := { stood := { row := reviewLastRow, standIns := [], harness := (true, "e169bc98405eb5c01279bb8c8ad1396efd4a0c4a98d9a1639d63083783ed2ba0"), looks := false }, kinds := [], alts := [], laidByText := true, laidKinds := [.data, .pinned], laidTests := true, laidLooks := .later }
def ReviewLastCardSaid : Prop := Claim7.holds Tryz.pinned (.plain (OpenSpec.ofChange reviewLastSpec)) reviewLastCard

/-- THE TIED CARD OF 'quiltlaw55.ReviewActs'. -/
def reviewActsCard : Claim7 := { stood := { row := reviewActsRow, standIns := [], harness := (true, "e169bc98405eb5c01279bb8c8ad1396efd4a0c4a98d9a1639d63083783ed2ba0"), looks := false }, kinds := [], alts := [], laidByText := true, laidKinds := [.data, .pinned], laidTests := true, laidLooks := .later }
def ReviewActsCardSaid : Prop := Claim7.holds Tryz.pinned (.plain (OpenSpec.ofChange reviewActsSpec)) reviewActsCard

/-- THE TIED CARD OF 'quiltlaw55.ReviewStory'. -/
def reviewStoryCard : Claim7 := { stood := { row := reviewStoryRow, standIns := [], harness := (true, "e169bc98405eb5c01279bb8c8ad1396efd4a0c4a98d9a1639d63083783ed2ba0"), looks := false }, kinds := [], alts := [], laidByText := true, laidKinds := [.data, .pinned], laidTests := true, laidLooks := .later }
def ReviewStoryCardSaid : Prop := Claim7.holds Tryz.pinned (.plain (OpenSpec.ofChange reviewStorySpec)) reviewStoryCard

/-- THE TIED CARD OF 'quiltlaw55.ReviewUpdates'. -/
def reviewUpdatesCard : Claim7 := { stood := { row := reviewUpdatesRow, standIns := [], harness := (true, "e169bc98405eb5c01279bb8c8ad1396efd4a0c4a98d9a1639d63083783ed2ba0"), looks := false }, kinds := [], alts := [], laidByText := true, laidKinds := [.data, .pinned], laidTests := true, laidLooks := .later }
def ReviewUpdatesCardSaid : Prop := Claim7.holds Tryz.pinned (.plain (OpenSpec.ofChange reviewUpdatesSpec)) reviewUpdatesCard

/-- THE TIED CARD OF 'quiltlaw55.ReviewApproval'. -/
def reviewApprovalCard : Claim7 := { stood := { row := reviewApprovalRow, standIns := [], harness := (true, "e169bc98405eb5c01279bb8c8ad1396efd4a0c4a98d9a1639d63083783ed2ba0"), looks := false }, kinds := [], alts := [], laidByText := true, laidKinds := [.data, .pinned], laidTests := true, laidLooks := .later }
def ReviewApprovalCardSaid : Prop := Claim7.holds Tryz.pinned (.plain (OpenSpec.ofChange reviewApprovalSpec)) reviewApprovalCard

/-- THE SECOND FORM's CARD OF 'quiltlaw55.ReviewCheck'. -/
def reviewCheckUptoCard : Claim7 := { stood := { row := reviewCheckUptoRow, standIns := [], harness := (true, "e169bc98405eb5c01279bb8c8ad1396efd4a0c4a98d9a1639d63083783ed2ba0"), looks := false }, kinds := [], alts := [], laidByText := true, laidKinds := [.data, .pinned], laidTests := true, laidLooks := .later }
def ReviewCheckUptoCardSaid : Prop := Claim7.holds Tryz.pinned (.plain (OpenSpec.upto reviewCheckSpec)) reviewCheckUptoCard

/-- THE SECOND FORM's CARD OF 'quiltlaw55.ReviewLast'. -/
def reviewLastUptoCard : Claim7 := { stood := { row := reviewLastUptoRow, standIns := [], harness := (true, "e169bc98405eb5c01279bb8c8ad1396efd4a0c4a98d9a1639d63083783ed2ba0"), looks := false }, kinds := [], alts := [], laidByText := true, laidKinds := [.data, .pinned], laidTests := true, laidLooks := .later }
def ReviewLastUptoCardSaid : Prop := Claim7.holds Tryz.pinned (.plain (OpenSpec.upto reviewLastSpec)) reviewLastUptoCard

/-- THE SECOND FORM's CARD OF 'quiltlaw55.ReviewActs'. -/
def reviewActsUptoCard : Claim7 := { stood := { row := reviewActsUptoRow, standIns := [], harness := (true, "e169bc98405eb5c01279bb8c8ad1396efd4a0c4a98d9a1639d63083783ed2ba0"), looks := false }, kinds := [], alts := [], laidByText := true, laidKinds := [.data, .pinned], laidTests := true, laidLooks := .later }
def ReviewActsUptoCardSaid : Prop := Claim7.holds Tryz.pinned (.plain (OpenSpec.upto reviewActsSpec)) reviewActsUptoCard

/-- THE SECOND FORM's CARD OF 'quiltlaw55.ReviewStory'. -/
def reviewStoryUptoCard : Claim7 := { stood := { row := reviewStoryUptoRow, standIns := [], harness := (true, "e169bc98405eb5c01279bb8c8ad1396efd4a0c4a98d9a1639d63083783ed2ba0"), looks := false }, kinds := [], alts := [], laidByText := true, laidKinds := [.data, .pinned], laidTests := true, laidLooks := .later }
def ReviewStoryUptoCardSaid : Prop := Claim7.holds Tryz.pinned (.plain (OpenSpec.upto reviewStorySpec)) reviewStoryUptoCard

/-- THE SECOND FORM's CARD OF 'quiltlaw55.ReviewUpdates'. -/
def reviewUpdatesUptoCard : Claim7 := { stood := { row := reviewUpdatesUptoRow, standIns := [], harness := (true, "e169bc98405eb5c01279bb8c8ad1396efd4a0c4a98d9a1639d63083783ed2ba0"), looks := false }, kinds := [], alts := [], laidByText := true, laidKinds := [.data, .pinned], laidTests := true, laidLooks := .later }
def ReviewUpdatesUptoCardSaid : Prop := Claim7.holds Tryz.pinned (.plain (OpenSpec.upto reviewUpdatesSpec)) reviewUpdatesUptoCard

/-- THE SECOND FORM's CARD OF 'quiltlaw55.ReviewApproval'. -/
def reviewApprovalUptoCard : Claim7 := { stood := { row := reviewApprovalUptoRow, standIns := [], harness := (true, "e169bc98405eb5c01279bb8c8ad1396efd4a0c4a98d9a1639d63083783ed2ba0"), looks := false }, kinds := [], alts := [], laidByText := true, laidKinds := [.data, .pinned], laidTests := true, laidLooks := .later }
def ReviewApprovalUptoCardSaid : Prop := Claim7.holds Tryz.pinned (.plain (OpenSpec.upto reviewApprovalSpec)) reviewApprovalUptoCard
end Rows
end Go.Proofs.YtojfgidoobgcaaaGreatDoor
