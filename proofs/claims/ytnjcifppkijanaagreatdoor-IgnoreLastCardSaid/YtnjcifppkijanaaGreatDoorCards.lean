/-
  DERIVED. GIVEN WITH THE SEED: THE CARDS: each row of YtnjcifppkijanaaGreatDoorRows.lean that lists a variable, with what it lists TIED to the program's text (the seventh form; the later family's looks); each row that meets fmt, with fmt's text TOLD by the authors' own Lean function (tested against real Go, not proved from fmt's source: count such statements apart). THE CARD IS WHAT COUNTS. Prove the row's statement (the work); the ties are given (YtnjcifppkijanaaGreatDoorTie.lean); close each card by the builder's one call (the guide's Derived/Test/ToyasCard.lean, 'card_holds'). Laid BY PROGRAM, IN A SANDBOX (cutbox-door.mjs). By AI agents, Wed Nov 11 2026. No macro, syntax, notation, axiom, sorry.
-/
import Derived.Test.YtnjcifppkijanaaGreatDoorRows
import GoSem.ClaimSeven
namespace Go.Proofs.YtnjcifppkijanaaGreatDoor
namespace Rows

/-- THE TIED CARD OF 'quiltlaw39.IgnoreParse'. -/
def ignoreParseCard : Claim7 := { stood := { row := ignoreParseRow, standIns := [], harness := (true, "3c0642d1008d2d0112c9b3c989cbad88806a47890e8c6de6a61ccff689c20a46"), looks := false }, kinds := [], alts := [], laidByText := true, laidKinds := [.data, .pinned], laidTests := true, laidLooks := .later }
def IgnoreParseCardSaid : Prop := Claim7.holds Tryz.pinned (.plain (OpenSpec.ofChange ignoreParseSpec)) ignoreParseCard

/-- THE TIED CARD OF 'quiltlaw39.IgnoreFiles'. -/
def ignoreFilesCard : Claim7 := { stood := { row := ignoreFilesRow, standIns := [], harness := (true, "3c0642d1008d2d0112c9b3c989cbad88806a47890e8c6de6a61ccff689c20a46"), looks := false }, kinds := [], alts := [], laidByText := true, laidKinds := [.data, .pinned], laidTests := true, laidLooks := .later }
def IgnoreFilesCardSaid : Prop := Claim7.holds Tryz.pinned (.plain (OpenSpec.ofChange ignoreFilesSpec)) ignoreFilesCard

/-- THE TIED CARD OF 'quiltlaw39.IgnoreTexts'. -/
def ignoreTextsCard : Claim7 := { stood := { row := ignoreTextsRow, standIns := [], harness := (true, "3c0642d1008d2d0112c9b3c989cbad88806a47890e8c6de6a61ccff689c20a46"), looks := false }, kinds := [], alts := [], laidByText := true, laidKinds := [.data, .pinned], laidTests := true, laidLooks := .later }
def IgnoreTextsCardSaid : Prop := Claim7.holds Tryz.pinned (.plain (OpenSpec.ofChange ignoreTextsSpec)) ignoreTextsCard

/-- THE TIED CARD OF 'quiltlaw39.IgnoreBelow'. -/
def ignoreBelowCard : Claim7 := { stood := { row := ignoreBelowRow, standIns := [], harness := (true, "3c0642d1008d2d0112c9b3c989cbad88806a47890e8c6de6a61ccff689c20a46"), looks := false }, kinds := [], alts := [], laidByText := true, laidKinds := [.data, .pinned], laidTests := true, laidLooks := .later }
def IgnoreBelowCardSaid : Prop := Claim7.holds Tryz.pinned (.plain (OpenSpec.ofChange ignoreBelowSpec)) ignoreBelowCard

/-- THE TIED CARD OF 'quiltlaw39.IgnoreElsewhere'. -/
def ignoreElsewhereCard : Claim7 := { stood := { row := ignoreElsewhereRow, standIns := [], harness := (true, "3c0642d1008d2d0112c9b3c989cbad88806a47890e8c6de6a61ccff689c20a46"), looks := false }, kinds := [], alts := [], laidByText := true, laidKinds := [.data, .pinned], laidTests := true, laidLooks := .later }
def IgnoreElsewhereCardSaid : Prop := Claim7.holds Tryz.pinned (.plain (OpenSpec.ofChange ignoreElsewhereSpec)) ignoreElsewhereCard

/-- THE TIED CARD OF 'quiltlaw39.IgnorePaths'. -/
def ignorePathsCard : Claim7 := { stood := { row := ignorePathsRow, standIns := [], harness := (true, "3c0642d1008d2d0112c9b3c989cbad88806a47890e8c6de6a61ccff689c20a46"), looks := false }, kinds := [], alts := [], laidByText := true, laidKinds := [.data, .pinned], laidTests := true, laidLooks := .later }
def IgnorePathsCardSaid : Prop := Claim7.holds Tryz.pinned (.plain (OpenSpec.ofChange ignorePathsSpec)) ignorePathsCard

/-- THE TIED CARD OF 'quiltlaw39.IgnoreTrees'. -/
def ignoreTreesCard : Claim7 := { stood := { row := ignoreTreesRow, standIns := [], harness := (true, "3c0642d1008d2d0112c9b3c989cbad88806a47890e8c6de6a61ccff689c20a46"), looks := false }, kinds := [], alts := [], laidByText := true, laidKinds := [.data, .pinned], laidTests := true, laidLooks := .later }
def IgnoreTreesCardSaid : Prop := Claim7.holds Tryz.pinned (.plain (OpenSpec.ofChange ignoreTreesSpec)) ignoreTreesCard

/-- THE TIED CARD OF 'quiltlaw39.IgnoreLast'. -/
def ignoreLastCard : Claim7 := { stood := { row := ignoreLastRow, standIns := [], harness := (true, "3c0642d1008d2d0112c9b3c989cbad88806a47890e8c6de6a61ccff689c20a46"), looks := false }, kinds := [], alts := [], laidByText := true, laidKinds := [.data, .pinned], laidTests := true, laidLooks := .later }
def IgnoreLastCardSaid : Prop := Claim7.holds Tryz.pinned (.plain (OpenSpec.ofChange ignoreLastSpec)) ignoreLastCard

/-- THE SECOND FORM's CARD OF 'quiltlaw39.IgnoreParse'. -/
def ignoreParseUptoCard : Claim7 := { stood := { row := ignoreParseUptoRow, standIns := [], harness := (true, "3c0642d1008d2d0112c9b3c989cbad88806a47890e8c6de6a61ccff689c20a46"), looks := false }, kinds := [], alts := [], laidByText := true, laidKinds := [.data, .pinned], laidTests := true, laidLooks := .later }
def IgnoreParseUptoCardSaid : Prop := Claim7.holds Tryz.pinned (.plain (OpenSpec.upto ignoreParseSpec)) ignoreParseUptoCard

/-- THE SECOND FORM's CARD OF 'quiltlaw39.IgnoreFiles'. -/
def ignoreFilesUptoCard : Claim7 := { stood := { row := ignoreFilesUptoRow, standIns := [], harness := (true, "3c0642d1008d2d0112c9b3c989cbad88806a47890e8c6de6a61ccff689c20a46"), looks := false }, kinds := [], alts := [], laidByText := true, laidKinds := [.data, .pinned], laidTests := true, laidLooks := .later }
def IgnoreFilesUptoCardSaid : Prop := Claim7.holds Tryz.pinned (.plain (OpenSpec.upto ignoreFilesSpec)) ignoreFilesUptoCard

/-- THE SECOND FORM's CARD OF 'quiltlaw39.IgnoreTexts'. -/
def ignoreTextsUptoCard : Claim7 := { stood := { row := ignoreTextsUptoRow, standIns := [], harness := (true, "3c0642d1008d2d0112c9b3c989cbad88806a47890e8c6de6a61ccff689c20a46"), looks := false }, kinds := [], alts := [], laidByText := true, laidKinds := [.data, .pinned], laidTests := true, laidLooks := .later }
def IgnoreTextsUptoCardSaid : Prop := Claim7.holds Tryz.pinned (.plain (OpenSpec.upto ignoreTextsSpec)) ignoreTextsUptoCard

/-- THE SECOND FORM's CARD OF 'quiltlaw39.IgnoreBelow'. -/
def ignoreBelowUptoCard : Claim7 := { stood := { row := ignoreBelowUptoRow, standIns := [], harness := (true, "3c0642d1008d2d0112c9b3c989cbad88806a47890e8c6de6a61ccff689c20a46"), looks := false }, kinds := [], alts := [], laidByText := true, laidKinds := [.data, .pinned], laidTests := true, laidLooks := .later }
def IgnoreBelowUptoCardSaid : Prop := Claim7.holds Tryz.pinned (.plain (OpenSpec.upto ignoreBelowSpec)) ignoreBelowUptoCard

/-- THE SECOND FORM's CARD OF 'quiltlaw39.IgnoreElsewhere'. -/
def ignoreElsewhereUptoCard : Claim7 := { stood := { row := ignoreElsewhereUptoRow, standIns := [], harness := (true, "3c0642d1008d2d0112c9b3c989cbad88806a47890e8c6de6a61ccff689c20a46"), looks := false }, kinds := [], alts := [], laidByText := true, laidKinds := [.data, .pinned], laidTests := true, laidLooks := .later }
def IgnoreElsewhereUptoCardSaid : Prop := Claim7.holds Tryz.pinned (.plain (OpenSpec.upto ignoreElsewhereSpec)) ignoreElsewhereUptoCard

/-- THE SECOND FORM's CARD OF 'quiltlaw39.IgnorePaths'. -/
def ignorePathsUptoCard : Claim7 := { stood := { row := ignorePathsUptoRow, standIns := [], harness := (true, "3c0642d1008d2d0112c9b3c989cbad88806a47890e8c6de6a61ccff689c20a46"), looks := false }, kinds := [], alts := [], laidByText := true, laidKinds := [.data, .pinned], laidTests := true, laidLooks := .later }
def IgnorePathsUptoCardSaid : Prop := Claim7.holds Tryz.pinned (.plain (OpenSpec.upto ignorePathsSpec)) ignorePathsUptoCard

/-- THE SECOND FORM's CARD OF 'quiltlaw39.IgnoreTrees'. -/
def ignoreTreesUptoCard : Claim7 := { stood := { row := ignoreTreesUptoRow, standIns := [], harness := (true, "3c0642d1008d2d0112c9b3c989cbad88806a47890e8c6de6a61ccff689c20a46"), looks := false }, kinds := [], alts := [], laidByText := true, laidKinds := [.data, .pinned], laidTests := true, laidLooks := .later }
def IgnoreTreesUptoCardSaid : Prop := Claim7.holds Tryz.pinned (.plain (OpenSpec.upto ignoreTreesSpec)) ignoreTreesUptoCard

/-- THE SECOND FORM's CARD OF 'quiltlaw39.IgnoreLast'. -/
def ignoreLastUptoCard : Claim7 := { stood := { row := ignoreLastUptoRow, standIns := [], harness := (true, "3c0642d1008d2d0112c9b3c989cbad88806a47890e8c6de6a61ccff689c20a46"), looks := false }, kinds := [], alts := [], laidByText := true, laidKinds := [.data, .pinned], laidTests := true, laidLooks := .later }
def IgnoreLastUptoCardSaid : Prop := Claim7.holds Tryz.pinned (.plain (OpenSpec.upto ignoreLastSpec)) ignoreLastUptoCard
end Rows
end Go.Proofs.YtnjcifppkijanaaGreatDoor
