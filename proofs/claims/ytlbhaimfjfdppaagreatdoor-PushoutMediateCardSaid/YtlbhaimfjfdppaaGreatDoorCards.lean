/-
  DERIVED. GIVEN WITH THE SEED: THE CARDS: each row of YtlbhaimfjfdppaaGreatDoorRows.lean that lists a variable, with what it lists TIED to the program's text (the seventh form; the later family's looks); each row that meets fmt, with fmt's text TOLD by the authors' own Lean function (tested against real Go, not proved from fmt's source: count such statements apart). THE CARD IS WHAT COUNTS. Prove the row's statement (the work); the ties are given (YtlbhaimfjfdppaaGreatDoorTie.lean); close each card by the builder's one call (the guide's Derived/Test/ToyasCard.lean, 'card_holds'). Laid BY PROGRAM, IN A SANDBOX (cutbox-door.mjs). By AI agents, Wed Nov 11 2026. No macro, syntax, notation, axiom, sorry.
-/
import Derived.Test.YtlbhaimfjfdppaaGreatDoorRows
import GoSem.ClaimSeven
namespace Go.Proofs.YtlbhaimfjfdppaaGreatDoor
namespace Rows

/-- THE TIED CARD OF 'quiltlaw14.SequenceCancels'. -/
def sequenceCancelsCard : Claim7 := { stood := { row := sequenceCancelsRow, standIns := [], harness := (true, "5f4a7f1c91612a6c66962ea6368eba8fa47465aae9bce51e9822133ffd016c7c"), looks := false }, kinds := [], alts := [], laidByText := true, laidKinds := [.data, .pinned], laidTests := true, laidLooks := .later }
def SequenceCancelsCardSaid : Prop := Claim7.holds Tryz.pinned (.plain (OpenSpec.ofChange sequenceCancelsSpec)) sequenceCancelsCard

/-- THE TIED CARD OF 'quiltlaw15.PushoutMediate'. -/
def pushoutMediateCard : Claim7 := { stood := { row := pushoutMediateRow, standIns := [], harness := (true, "5f4a7f1c91612a6c66962ea6368eba8fa47465aae9bce51e9822133ffd016c7c"), looks := false }, kinds := [], alts := [], laidByText := true, laidKinds := [.data, .pinned], laidTests := true, laidLooks := .later }
def PushoutMediateCardSaid : Prop := Claim7.holds Tryz.pinned (.plain (OpenSpec.ofChange pushoutMediateSpec)) pushoutMediateCard

/-- THE SECOND FORM's CARD OF 'quiltlaw14.SequenceCancels'. -/
def sequenceCancelsUptoCard : Claim7 := { stood := { row := sequenceCancelsUptoRow, standIns := [], harness := (true, "5f4a7f1c91612a6c66962ea6368eba8fa47465aae9bce51e9822133ffd016c7c"), looks := false }, kinds := [], alts := [], laidByText := true, laidKinds := [.data, .pinned], laidTests := true, laidLooks := .later }
def SequenceCancelsUptoCardSaid : Prop := Claim7.holds Tryz.pinned (.plain (OpenSpec.upto sequenceCancelsSpec)) sequenceCancelsUptoCard

/-- THE SECOND FORM's CARD OF 'quiltlaw15.PushoutMediate'. -/
def pushoutMediateUptoCard : Claim7 := { stood := { row := pushoutMediateUptoRow, standIns := [], harness := (true, "5f4a7f1c91612a6c66962ea6368eba8fa47465aae9bce51e9822133ffd016c7c"), looks := false }, kinds := [], alts := [], laidByText := true, laidKinds := [.data, .pinned], laidTests := true, laidLooks := .later }
def PushoutMediateUptoCardSaid : Prop := Claim7.holds Tryz.pinned (.plain (OpenSpec.upto pushoutMediateSpec)) pushoutMediateUptoCard
end Rows
end Go.Proofs.YtlbhaimfjfdppaaGreatDoor
