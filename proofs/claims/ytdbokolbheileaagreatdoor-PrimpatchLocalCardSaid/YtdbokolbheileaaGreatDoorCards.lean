/-
  DERIVED. GIVEN WITH THE SEED: THE CARDS: each row of YtdbokolbheileaaGreatDoorRows.lean that lists a variable, with what it lists TIED to the program's text (the seventh form; the later family's looks); each row that meets fmt, with fmt's text TOLD by the authors' own Lean function (tested against real Go, not proved from fmt's source: count such statements apart). THE CARD IS WHAT COUNTS. Prove the row's statement (the work); the ties are given (YtdbokolbheileaaGreatDoorTie.lean); close each card by the builder's one call (the guide's Derived/Test/ToyasCard.lean, 'card_holds'). Laid BY PROGRAM, IN A SANDBOX (cutbox-door.mjs). By AI agents, Wed Nov 11 2026. No macro, syntax, notation, axiom, sorry.
-/
import Derived.Test.YtdbokolbheileaaGreatDoorRows
import GoSem.ClaimSeven
namespace Go.Proofs.YtdbokolbheileaaGreatDoor
namespace Rows

/-- THE TIED CARD OF 'quiltlaw12.PrimpatchTree'. -/
def primpatchTreeCard : Claim7 := { stood := { row := primpatchTreeRow, standIns := [], harness := (true, "19524fb9f91ba227273e1d3974b6a5474d731221421f9caf96894f2cf824673a"), looks := false }, kinds := [], alts := [], laidByText := true, laidKinds := [.data, .pinned], laidTests := true, laidLooks := .later }
def PrimpatchTreeCardSaid : Prop := Claim7.holds Tryz.pinned (.plain (OpenSpec.ofChange primpatchTreeSpec)) primpatchTreeCard

/-- THE TIED CARD OF 'quiltlaw12.PrimpatchApply'. -/
def primpatchApplyCard : Claim7 := { stood := { row := primpatchApplyRow, standIns := [], harness := (true, "19524fb9f91ba227273e1d3974b6a5474d731221421f9caf96894f2cf824673a"), looks := false }, kinds := [], alts := [], laidByText := true, laidKinds := [.data, .pinned], laidTests := true, laidLooks := .later }
def PrimpatchApplyCardSaid : Prop := Claim7.holds Tryz.pinned (.plain (OpenSpec.ofChange primpatchApplySpec)) primpatchApplyCard

/-- THE TIED CARD OF 'quiltlaw12.PrimpatchValid'. -/
def primpatchValidCard : Claim7 := { stood := { row := primpatchValidRow, standIns := [], harness := (true, "19524fb9f91ba227273e1d3974b6a5474d731221421f9caf96894f2cf824673a"), looks := false }, kinds := [], alts := [], laidByText := true, laidKinds := [.data, .pinned], laidTests := true, laidLooks := .later }
def PrimpatchValidCardSaid : Prop := Claim7.holds Tryz.pinned (.plain (OpenSpec.ofChange primpatchValidSpec)) primpatchValidCard

/-- THE TIED CARD OF 'quiltlaw12.PrimpatchMoves'. -/
def primpatchMovesCard : Claim7 := { stood := { row := primpatchMovesRow, standIns := [], harness := (true, "19524fb9f91ba227273e1d3974b6a5474d731221421f9caf96894f2cf824673a"), looks := false }, kinds := [], alts := [], laidByText := true, laidKinds := [.data, .pinned], laidTests := true, laidLooks := .later }
def PrimpatchMovesCardSaid : Prop := Claim7.holds Tryz.pinned (.plain (OpenSpec.ofChange primpatchMovesSpec)) primpatchMovesCard

/-- THE TIED CARD OF 'quiltlaw12.PrimpatchLocal'. -/
def primpatchLocalCard : Claim7 := { stood := { row := primpatchLocalRow, standIns := [], harness := (true, "19524fb9f91ba227273e1d3974b6a5474d731221421f9caf96894f2cf824673a"), looks := false }, kinds := [], alts := [], laidByText := true, laidKinds := [.data, .pinned], laidTests := true, laidLooks := .later }
def PrimpatchLocalCardSaid : Prop := Claim7.holds Tryz.pinned (.plain (OpenSpec.ofChange primpatchLocalSpec)) primpatchLocalCard

/-- THE TIED CARD OF 'quiltlaw12.PrimpatchInverse'. -/
def primpatchInverseCard : Claim7 := { stood := { row := primpatchInverseRow, standIns := [], harness := (true, "19524fb9f91ba227273e1d3974b6a5474d731221421f9caf96894f2cf824673a"), looks := false }, kinds := [], alts := [], laidByText := true, laidKinds := [.data, .pinned], laidTests := true, laidLooks := .later }
def PrimpatchInverseCardSaid : Prop := Claim7.holds Tryz.pinned (.plain (OpenSpec.ofChange primpatchInverseSpec)) primpatchInverseCard

/-- THE TIED CARD OF 'quiltlaw12.PrimpatchCheck'. -/
def primpatchCheckCard : Claim7 := { stood := { row := primpatchCheckRow, standIns := [], harness := (true, "19524fb9f91ba227273e1d3974b6a5474d731221421f9caf96894f2cf824673a"), looks := false }, kinds := [], alts := [], laidByText := true, laidKinds := [.data, .pinned], laidTests := true, laidLooks := .later }
def PrimpatchCheckCardSaid : Prop := Claim7.holds Tryz.pinned (.plain (OpenSpec.ofChange primpatchCheckSpec)) primpatchCheckCard

/-- THE SECOND FORM's CARD OF 'quiltlaw12.PrimpatchTree'. -/
def primpatchTreeUptoCard : Claim7 := { stood := { row := primpatchTreeUptoRow, standIns := [], harness := (true, "19524fb9f91ba227273e1d3974b6a5474d731221421f9caf96894f2cf824673a"), looks := false }, kinds := [], alts := [], laidByText := true, laidKinds := [.data, .pinned], laidTests := true, laidLooks := .later }
def PrimpatchTreeUptoCardSaid : Prop := Claim7.holds Tryz.pinned (.plain (OpenSpec.upto primpatchTreeSpec)) primpatchTreeUptoCard

/-- THE SECOND FORM's CARD OF 'quiltlaw12.PrimpatchApply'. -/
def primpatchApplyUptoCard : Claim7 := { stood := { row := primpatchApplyUptoRow, standIns := [], harness := (true, "19524fb9f91ba227273e1d3974b6a5474d731221421f9caf96894f2cf824673a"), looks := false }, kinds := [], alts := [], laidByText := true, laidKinds := [.data, .pinned], laidTests := true, laidLooks := .later }
def PrimpatchApplyUptoCardSaid : Prop := Claim7.holds Tryz.pinned (.plain (OpenSpec.upto primpatchApplySpec)) primpatchApplyUptoCard

/-- THE SECOND FORM's CARD OF 'quiltlaw12.PrimpatchValid'. -/
def primpatchValidUptoCard : Claim7 := { stood := { row := primpatchValidUptoRow, standIns := [], harness := (true, "19524fb9f91ba227273e1d3974b6a5474d731221421f9caf96894f2cf824673a"), looks := false }, kinds := [], alts := [], laidByText := true, laidKinds := [.data, .pinned], laidTests := true, laidLooks := .later }
def PrimpatchValidUptoCardSaid : Prop := Claim7.holds Tryz.pinned (.plain (OpenSpec.upto primpatchValidSpec)) primpatchValidUptoCard

/-- THE SECOND FORM's CARD OF 'quiltlaw12.PrimpatchMoves'. -/
def primpatchMovesUptoCard : Claim7 := { stood := { row := primpatchMovesUptoRow, standIns := [], harness := (true, "19524fb9f91ba227273e1d3974b6a5474d731221421f9caf96894f2cf824673a"), looks := false }, kinds := [], alts := [], laidByText := true, laidKinds := [.data, .pinned], laidTests := true, laidLooks := .later }
def PrimpatchMovesUptoCardSaid : Prop := Claim7.holds Tryz.pinned (.plain (OpenSpec.upto primpatchMovesSpec)) primpatchMovesUptoCard

/-- THE SECOND FORM's CARD OF 'quiltlaw12.PrimpatchLocal'. -/
def primpatchLocalUptoCard : Claim7 := { stood := { row := primpatchLocalUptoRow, standIns := [], harness := (true, "19524fb9f91ba227273e1d3974b6a5474d731221421f9caf96894f2cf824673a"), looks := false }, kinds := [], alts := [], laidByText := true, laidKinds := [.data, .pinned], laidTests := true, laidLooks := .later }
def PrimpatchLocalUptoCardSaid : Prop := Claim7.holds Tryz.pinned (.plain (OpenSpec.upto primpatchLocalSpec)) primpatchLocalUptoCard

/-- THE SECOND FORM's CARD OF 'quiltlaw12.PrimpatchInverse'. -/
def primpatchInverseUptoCard : Claim7 := { stood := { row := primpatchInverseUptoRow, standIns := [], harness := (true, "19524fb9f91ba227273e1d3974b6a5474d731221421f9caf96894f2cf824673a"), looks := false }, kinds := [], alts := [], laidByText := true, laidKinds := [.data, .pinned], laidTests := true, laidLooks := .later }
def PrimpatchInverseUptoCardSaid : Prop := Claim7.holds Tryz.pinned (.plain (OpenSpec.upto primpatchInverseSpec)) primpatchInverseUptoCard

/-- THE SECOND FORM's CARD OF 'quiltlaw12.PrimpatchCheck'. -/
def primpatchCheckUptoCard : Claim7 := { stood := { row := primpatchCheckUptoRow, standIns := [], harness := (true, "19524fb9f91ba227273e1d3974b6a5474d731221421f9caf96894f2cf824673a"), looks := false }, kinds := [], alts := [], laidByText := true, laidKinds := [.data, .pinned], laidTests := true, laidLooks := .later }
def PrimpatchCheckUptoCardSaid : Prop := Claim7.holds Tryz.pinned (.plain (OpenSpec.upto primpatchCheckSpec)) primpatchCheckUptoCard
end Rows
end Go.Proofs.YtdbokolbheileaaGreatDoor
