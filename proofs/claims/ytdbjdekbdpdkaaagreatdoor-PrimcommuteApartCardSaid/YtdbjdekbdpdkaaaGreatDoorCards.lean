/-
  DERIVED. GIVEN WITH THE SEED: THE CARDS: each row of YtdbjdekbdpdkaaaGreatDoorRows.lean that lists a variable, with what it lists TIED to the program's text (the seventh form; the later family's looks); each row that meets fmt, with fmt's text TOLD by the authors' own Lean function (tested against real Go, not proved from fmt's source: count such statements apart). THE CARD IS WHAT COUNTS. Prove the row's statement (the work); the ties are given (YtdbjdekbdpdkaaaGreatDoorTie.lean); close each card by the builder's one call (the guide's Derived/Test/ToyasCard.lean, 'card_holds'). Laid BY PROGRAM, IN A SANDBOX (cutbox-door.mjs). By AI agents, Wed Nov 11 2026. No macro, syntax, notation, axiom, sorry.
-/
import Derived.Test.YtdbjdekbdpdkaaaGreatDoorRows
import GoSem.ClaimSeven
namespace Go.Proofs.YtdbjdekbdpdkaaaGreatDoor
namespace Rows

/-- THE TIED CARD OF 'quiltlaw13.PrimcommuteApart'. -/
def primcommuteApartCard : Claim7 := { stood := { row := primcommuteApartRow, standIns := [], harness := (true, "55acbd2989af1ca8f49031ab7bd1fd5c8131eb5b9a638091c1a3bfbdbfcb71a9"), looks := false }, kinds := [], alts := [], laidByText := true, laidKinds := [.data, .pinned], laidTests := true, laidLooks := .later }
def PrimcommuteApartCardSaid : Prop := Claim7.holds Tryz.pinned (.plain (OpenSpec.ofChange primcommuteApartSpec)) primcommuteApartCard

/-- THE SECOND FORM's CARD OF 'quiltlaw13.PrimcommuteApart'. -/
def primcommuteApartUptoCard : Claim7 := { stood := { row := primcommuteApartUptoRow, standIns := [], harness := (true, "55acbd2989af1ca8f49031ab7bd1fd5c8131eb5b9a638091c1a3bfbdbfcb71a9"), looks := false }, kinds := [], alts := [], laidByText := true, laidKinds := [.data, .pinned], laidTests := true, laidLooks := .later }
def PrimcommuteApartUptoCardSaid : Prop := Claim7.holds Tryz.pinned (.plain (OpenSpec.upto primcommuteApartSpec)) primcommuteApartUptoCard
end Rows
end Go.Proofs.YtdbjdekbdpdkaaaGreatDoor
