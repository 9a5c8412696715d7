/-
  DERIVED. GIVEN WITH THE SEED: THE CARDS: each row of YtncndhkccjmanaaDoorRows.lean that lists a variable, with what it lists TIED to the program's text (the seventh form; the later family's looks); each row that meets fmt, with fmt's text TOLD by the authors' own Lean function (tested against real Go, not proved from fmt's source: count such statements apart). THE CARD IS WHAT COUNTS. Prove the row's statement (the work); the ties are given (YtncndhkccjmanaaDoorTie.lean); close each card by the builder's one call (the guide's Derived/Test/ToyasCard.lean, 'card_holds'). Laid BY PROGRAM, IN A SANDBOX (cutbox-door.mjs). By AI agents, Wed Nov 11 2026. No macro, syntax, notation, axiom, sorry.
-/
import Derived.Test.YtncndhkccjmanaaDoorRows
import GoSem.ClaimSeven
namespace Go.Proofs.YtncndhkccjmanaaDoor
namespace Rows

/-- THE TIED CARD OF 'quiltlaw13.PrimcommuteInvolution'. -/
def primcommuteInvolutionCard : Claim7 := { stood := { row := primcommuteInvolutionRow, standIns := [], harness := (true, "29383af5e556c1c565dd470d2109b9119c74f0720ded2a970d90c653ce07c2a5"), looks := false }, kinds := [], alts := [], laidByText := true, laidKinds := [.data, .pinned], laidTests := true, laidLooks := .later }
def PrimcommuteInvolutionCardSaid : Prop := Claim7.holds Tryd.pinned (.plain (OpenSpec.ofChange primcommuteInvolutionSpec)) primcommuteInvolutionCard

/-- THE TIED CARD OF 'quiltlaw13.PrimcommutePermute'. -/
def primcommutePermuteCard : Claim7 := { stood := { row := primcommutePermuteRow, standIns := [], harness := (true, "29383af5e556c1c565dd470d2109b9119c74f0720ded2a970d90c653ce07c2a5"), looks := false }, kinds := [], alts := [], laidByText := true, laidKinds := [.data, .pinned], laidTests := true, laidLooks := .later }
def PrimcommutePermuteCardSaid : Prop := Claim7.holds Tryd.pinned (.plain (OpenSpec.ofChange primcommutePermuteSpec)) primcommutePermuteCard

/-- THE SECOND FORM's CARD OF 'quiltlaw13.PrimcommuteInvolution'. -/
def primcommuteInvolutionUptoCard : Claim7 := { stood := { row := primcommuteInvolutionUptoRow, standIns := [], harness := (true, "29383af5e556c1c565dd470d2109b9119c74f0720ded2a970d90c653ce07c2a5"), looks := false }, kinds := [], alts := [], laidByText := true, laidKinds := [.data, .pinned], laidTests := true, laidLooks := .later }
def PrimcommuteInvolutionUptoCardSaid : Prop := Claim7.holds Tryd.pinned (.plain (OpenSpec.upto primcommuteInvolutionSpec)) primcommuteInvolutionUptoCard

/-- THE SECOND FORM's CARD OF 'quiltlaw13.PrimcommutePermute'. -/
def primcommutePermuteUptoCard : Claim7 := { stood := { row := primcommutePermuteUptoRow, standIns := [], harness := (true, "29383af5e556c1c565dd470d2109b9119c74f0720ded2a970d90c653ce07c2a5"), looks := false }, kinds := [], alts := [], laidByText := true, laidKinds := [.data, .pinned], laidTests := true, laidLooks := .later }
def PrimcommutePermuteUptoCardSaid : Prop := Claim7.holds Tryd.pinned (.plain (OpenSpec.upto primcommutePermuteSpec)) primcommutePermuteUptoCard
end Rows
end Go.Proofs.YtncndhkccjmanaaDoor
