/-
  NARROWER THAN 'FOR EVERY INPUT', by the rows' own cells (each row's printed sentence says how): PrimpatchTree: laid · PrimpatchApply: laid · PrimpatchValid: laid · PrimpatchMoves: laid · PrimpatchLocal: laid · PrimpatchInverse: laid · PrimpatchCheck: laid.
  DERIVED. THE GIVEN ROWS OF THIS SEAT. 7 by the template 'for every input the law returns true; each argument reads behind the call as it read before'; 0 by the template 'total and deterministic' (their statements: YtdbokolbheileaaGreatDoorTotals.lean).
  GIVEN WITH THE SEED: the statements are not yours to turn. If you find one false, say at which input.
  Laid BY PROGRAM, IN A SANDBOX (cutbox-rows.mjs): the forced cells as the released guide's own fill.sh prints them over the translation 5f3a6f38f69c08ed… (all of the seat's roots in one cut). By AI agents, Wed Nov 11 2026. No macro, syntax, notation, axiom, sorry.
-/
import Derived.Test.YtdbokolbheileaaGreatDoorChecked
import GoSem.PinnedTables
import GoSem.Claim
import GoSem.ClaimJoined
import GoSem.ClaimMapViews
import Derived.JoinedTies
import Derived.KernelRfl
namespace Go.Proofs.YtdbokolbheileaaGreatDoor
/- THE CELL 'sum', in the pinned program and in every row, IS THE sha256 OF THE DUMP (.gsa) THAT YtdbokolbheileaaGreatDoorProg.lean LOADS. Nothing in Lean hashes anything: it is a label: what it is worth is what the hold of that sum in a sandbox is worth. -/
noncomputable def Tryz.pinned : Pinned := { name := "ytdbokolbheileaagreatdoor", sum := "5f3a6f38f69c08ed7e5576a1342f2a1774fdc1be84c20a4aba28e2a41a262ea3", checked := Tryz.checked }
namespace Rows
def none {H : Type} : Left H := { results := [], args := [] }

/- WHAT THE LISTED PACKAGE-LEVEL VARIABLES READ AS WHEN THE CALL BEGINS. Each datum BY PROGRAM (the guide's laid-datum.mjs) off the statement by which the dump's own 'gosem.cut.vars' lays the variable. In a bare row this is a premise. The card (YtdbokolbheileaaGreatDoorCards.lean) ties it to the program's text. -/
def laid_unicode_utf8_acceptRanges {H : Type} : DataW H := .agg [.agg [.lit (.int .u8 128), .lit (.int .u8 191)], .agg [.lit (.int .u8 160), .lit (.int .u8 191)], .agg [.lit (.int .u8 128), .lit (.int .u8 159)], .agg [.lit (.int .u8 144), .lit (.int .u8 191)], .agg [.lit (.int .u8 128), .lit (.int .u8 143)], .agg [.lit (.int .u8 0), .lit (.int .u8 0)], .agg [.lit (.int .u8 0), .lit (.int .u8 0)], .agg [.lit (.int .u8 0), .lit (.int .u8 0)], .agg [.lit (.int .u8 0), .lit (.int .u8 0)], .agg [.lit (.int .u8 0), .lit (.int .u8 0)], .agg [.lit (.int .u8 0), .lit (.int .u8 0)], .agg [.lit (.int .u8 0), .lit (.int .u8 0)], .agg [.lit (.int .u8 0), .lit (.int .u8 0)], .agg [.lit (.int .u8 0), .lit (.int .u8 0)], .agg [.lit (.int .u8 0), .lit (.int .u8 0)], .agg [.lit (.int .u8 0), .lit (.int .u8 0)]]
/-- One of Go's own tables, pinned by name: the form's constant. -/
def laid_unicode_utf8_first : DataW Unit := Go.Pinned.utf8First

/-- 'quiltlaw12.PrimpatchTree': WHATEVER THE INPUT: true; the input reads as it did. -/
def primpatchTreeSpec : ChangeSpec := { name := "primpatchTree", fn := fun _ => fun
  | [d1, d2] => { results := [.lit (.bool true)], args := [d1, d2] }
  | _ => none }
def primpatchTreeRow : OpenClaim := { program := "ytdbokolbheileaagreatdoor", sum := "5f3a6f38f69c08ed7e5576a1342f2a1774fdc1be84c20a4aba28e2a41a262ea3", func := "quilt/quiltlaw12.PrimpatchTree", spec := "primpatchTree", inPlace := ["internal/bytealg.CountString", "internal/bytealg.IndexByteString", "internal/bytealg.IndexString"], unfollowed := true, recurses := true, named := ["unicode/utf8.first", "unicode/utf8.acceptRanges", "internal/bytealg.MaxLen"], apart := false, laid := [("unicode/utf8.acceptRanges", laid_unicode_utf8_acceptRanges), ("unicode/utf8.first", laid_unicode_utf8_first)] }
def PrimpatchTreeSaid : Prop := primpatchTreeRow.holds Tryz.pinned (OpenSpec.ofChange primpatchTreeSpec)

/-- ITS FALSE NEIGHBOUR: 'it returns false'. Refute it at one input. -/
def primpatchTreeWrong : ChangeSpec := { name := "primpatchTree", fn := fun _ => fun
  | [d1, d2] => { results := [.lit (.bool false)], args := [d1, d2] }
  | _ => none }
def PrimpatchTreeWrongFalsely : Prop := primpatchTreeRow.holds Tryz.pinned (OpenSpec.ofChange primpatchTreeWrong)

/-- 'quiltlaw12.PrimpatchApply': WHATEVER THE INPUT: true; the input reads as it did. -/
def primpatchApplySpec : ChangeSpec := { name := "primpatchApply", fn := fun _ => fun
  | [d1, d2] => { results := [.lit (.bool true)], args := [d1, d2] }
  | _ => none }
def primpatchApplyRow : OpenClaim := { program := "ytdbokolbheileaagreatdoor", sum := "5f3a6f38f69c08ed7e5576a1342f2a1774fdc1be84c20a4aba28e2a41a262ea3", func := "quilt/quiltlaw12.PrimpatchApply", spec := "primpatchApply", inPlace := ["internal/bytealg.CountString", "internal/bytealg.IndexByteString", "internal/bytealg.IndexString"], unfollowed := true, recurses := true, named := ["unicode/utf8.first", "unicode/utf8.acceptRanges", "internal/bytealg.MaxLen"], apart := false, laid := [("unicode/utf8.acceptRanges", laid_unicode_utf8_acceptRanges), ("unicode/utf8.first", laid_unicode_utf8_first)] }
def PrimpatchApplySaid : Prop := primpatchApplyRow.holds Tryz.pinned (OpenSpec.ofChange primpatchApplySpec)

/-- ITS FALSE NEIGHBOUR: 'it returns false'. Refute it at one input. -/
def primpatchApplyWrong : ChangeSpec := { name := "primpatchApply", fn := fun _ => fun
  | [d1, d2] => { results := [.lit (.bool false)], args := [d1, d2] }
  | _ => none }
def PrimpatchApplyWrongFalsely : Prop := primpatchApplyRow.holds Tryz.pinned (OpenSpec.ofChange primpatchApplyWrong)

/-- 'quiltlaw12.PrimpatchValid': WHATEVER THE INPUT: true; the input reads as it did. -/
def primpatchValidSpec : ChangeSpec := { name := "primpatchValid", fn := fun _ => fun
  | [d1, d2] => { results := [.lit (.bool true)], args := [d1, d2] }
  | _ => none }
def primpatchValidRow : OpenClaim := { program := "ytdbokolbheileaagreatdoor", sum := "5f3a6f38f69c08ed7e5576a1342f2a1774fdc1be84c20a4aba28e2a41a262ea3", func := "quilt/quiltlaw12.PrimpatchValid", spec := "primpatchValid", inPlace := ["internal/bytealg.CountString", "internal/bytealg.IndexByteString", "internal/bytealg.IndexString"], unfollowed := true, recurses := true, named := ["unicode/utf8.first", "unicode/utf8.acceptRanges", "internal/bytealg.MaxLen"], apart := false, laid := [("unicode/utf8.acceptRanges", laid_unicode_utf8_acceptRanges), ("unicode/utf8.first", laid_unicode_utf8_first)] }
def PrimpatchValidSaid : Prop := primpatchValidRow.holds Tryz.pinned (OpenSpec.ofChange primpatchValidSpec)

/-- ITS FALSE NEIGHBOUR: 'it returns false'. Refute it at one input. -/
def primpatchValidWrong : ChangeSpec := { name := "primpatchValid", fn := fun _ => fun
  | [d1, d2] => { results := [.lit (.bool false)], args := [d1, d2] }
  | _ => none }
def PrimpatchValidWrongFalsely : Prop := primpatchValidRow.holds Tryz.pinned (OpenSpec.ofChange primpatchValidWrong)

/-- 'quiltlaw12.PrimpatchMoves': WHATEVER THE INPUT: true; the input reads as it did. -/
def primpatchMovesSpec : ChangeSpec := { name := "primpatchMoves", fn := fun _ => fun
  | [d1, d2, d3] => { results := [.lit (.bool true)], args := [d1, d2, d3] }
  | _ => none }
def primpatchMovesRow : OpenClaim := { program := "ytdbokolbheileaagreatdoor", sum := "5f3a6f38f69c08ed7e5576a1342f2a1774fdc1be84c20a4aba28e2a41a262ea3", func := "quilt/quiltlaw12.PrimpatchMoves", spec := "primpatchMoves", inPlace := ["internal/bytealg.CountString", "internal/bytealg.IndexByteString", "internal/bytealg.IndexString"], unfollowed := true, recurses := true, named := ["unicode/utf8.first", "unicode/utf8.acceptRanges", "internal/bytealg.MaxLen"], apart := false, laid := [("unicode/utf8.acceptRanges", laid_unicode_utf8_acceptRanges), ("unicode/utf8.first", laid_unicode_utf8_first)] }
def PrimpatchMovesSaid : Prop := primpatchMovesRow.holds Tryz.pinned (OpenSpec.ofChange primpatchMovesSpec)

/-- ITS FALSE NEIGHBOUR: 'it returns false'. Refute it at one input. -/
def primpatchMovesWrong : ChangeSpec := { name := "primpatchMoves", fn := fun _ => fun
  | [d1, d2, d3] => { results := [.lit (.bool false)], args := [d1, d2, d3] }
  | _ => none }
def PrimpatchMovesWrongFalsely : Prop := primpatchMovesRow.holds Tryz.pinned (OpenSpec.ofChange primpatchMovesWrong)

/-- 'quiltlaw12.PrimpatchLocal': WHATEVER THE INPUT: true; the input reads as it did. -/
def primpatchLocalSpec : ChangeSpec := { name := "primpatchLocal", fn := fun _ => fun
  | [d1, d2] => { results := [.lit (.bool true)], args := [d1, d2] }
  | _ => none }
def primpatchLocalRow : OpenClaim := { program := "ytdbokolbheileaagreatdoor", sum := "5f3a6f38f69c08ed7e5576a1342f2a1774fdc1be84c20a4aba28e2a41a262ea3", func := "quilt/quiltlaw12.PrimpatchLocal", spec := "primpatchLocal", inPlace := ["internal/bytealg.CountString", "internal/bytealg.IndexByteString", "internal/bytealg.IndexString"], unfollowed := true, recurses := true, named := ["unicode/utf8.first", "unicode/utf8.acceptRanges", "internal/bytealg.MaxLen"], apart := false, laid := [("unicode/utf8.acceptRanges", laid_unicode_utf8_acceptRanges), ("unicode/utf8.first", laid_unicode_utf8_first)] }
def PrimpatchLocalSaid : Prop := primpatchLocalRow.holds Tryz.pinned (OpenSpec.ofChange primpatchLocalSpec)

/-- ITS FALSE NEIGHBOUR: 'it returns false'. Refute it at one input. -/
def primpatchLocalWrong : ChangeSpec := { name := "primpatchLocal", fn := fun _ => fun
  | [d1, d2] => { results := [.lit (.bool false)], args := [d1, d2] }
  | _ => none }
def PrimpatchLocalWrongFalsely : Prop := primpatchLocalRow.holds Tryz.pinned (OpenSpec.ofChange primpatchLocalWrong)

/-- 'quiltlaw12.PrimpatchInverse': WHATEVER THE INPUT: true; the input reads as it did. -/
def primpatchInverseSpec : ChangeSpec := { name := "primpatchInverse", fn := fun _ => fun
  | [d1, d2] => { results := [.lit (.bool true)], args := [d1, d2] }
  | _ => none }
def primpatchInverseRow : OpenClaim := { program := "ytdbokolbheileaagreatdoor", sum := "5f3a6f38f69c08ed7e5576a1342f2a1774fdc1be84c20a4aba28e2a41a262ea3", func := "quilt/quiltlaw12.PrimpatchInverse", spec := "primpatchInverse", inPlace := ["internal/bytealg.CountString", "internal/bytealg.IndexByteString", "internal/bytealg.IndexString"], unfollowed := true, recurses := true, named := ["unicode/utf8.first", "unicode/utf8.acceptRanges", "internal/bytealg.MaxLen"], apart := false, laid := [("unicode/utf8.acceptRanges", laid_unicode_utf8_acceptRanges), ("unicode/utf8.first", laid_unicode_utf8_first)] }
def PrimpatchInverseSaid : Prop := primpatchInverseRow.holds Tryz.pinned (OpenSpec.ofChange primpatchInverseSpec)

/-- ITS FALSE NEIGHBOUR: 'it returns false'. Refute it at one input. -/
def primpatchInverseWrong : ChangeSpec := { name := "primpatchInverse", fn := fun _ => fun
  | [d1, d2] => { results := [.lit (.bool false)], args := [d1, d2] }
  | _ => none }
def PrimpatchInverseWrongFalsely : Prop := primpatchInverseRow.holds Tryz.pinned (OpenSpec.ofChange primpatchInverseWrong)

/-- 'quiltlaw12.PrimpatchCheck': WHATEVER THE INPUT: true; the input reads as it did. -/
def primpatchCheckSpec : ChangeSpec := { name := "primpatchCheck", fn := fun _ => fun
  | [d] => { results := [.lit (.bool true)], args := [d] }
  | _ => none }
def primpatchCheckRow : OpenClaim := { program := "ytdbokolbheileaagreatdoor", sum := "5f3a6f38f69c08ed7e5576a1342f2a1774fdc1be84c20a4aba28e2a41a262ea3", func := "quilt/quiltlaw12.PrimpatchCheck", spec := "primpatchCheck", inPlace := ["internal/bytealg.CountString", "internal/bytealg.IndexByteString", "internal/bytealg.IndexString"], unfollowed := true, recurses := true, named := ["unicode/utf8.first", "unicode/utf8.acceptRanges", "internal/bytealg.MaxLen"], apart := false, laid := [("unicode/utf8.acceptRanges", laid_unicode_utf8_acceptRanges), ("unicode/utf8.first", laid_unicode_utf8_first)] }
def PrimpatchCheckSaid : Prop := primpatchCheckRow.holds Tryz.pinned (OpenSpec.ofChange primpatchCheckSpec)

/-- ITS FALSE NEIGHBOUR: 'it returns false'. Refute it at one input. -/
def primpatchCheckWrong : ChangeSpec := { name := "primpatchCheck", fn := fun _ => fun
  | [d] => { results := [.lit (.bool false)], args := [d] }
  | _ => none }
def PrimpatchCheckWrongFalsely : Prop := primpatchCheckRow.holds Tryz.pinned (OpenSpec.ofChange primpatchCheckWrong)

/- THE SECOND FORM. 'bulk': how many values and letters a reading holds, each counted each time it is reached (what is shared counts as often as it is met; a slice's spare places count too). A statement '..UptoSaid' is the law's where the arguments, and the package variables that the reading takes, are together of bulk at most 1048576: NARROWER than '..Said'. Prove '..Said' where nothing that the law and all that it calls make is longer than what came in: it says more and counts as full. Else prove '..UptoSaid'. A law counts once. -/
mutual
def uptoBulk {H : Type} : DataW H → Nat
  | .lit (.string bytes) => bytes.length + 1
  | .lit _ => 1
  | .nil => 1
  | .ptr d => uptoBulk d + 1
  | .slice elems spare => uptoBulkAll elems + uptoBulkAll spare + 1
  | .agg parts => uptoBulkAll parts + 1
  | .iface _ d => uptoBulk d + 1
  | .map entries => uptoBulkEntries entries + 1
  | .held _ => 1
def uptoBulkAll {H : Type} : List (DataW H) → Nat
  | [] => 0
  | d :: r => uptoBulk d + uptoBulkAll r
def uptoBulkEntries {H : Type} : List (Lit × DataW H) → Nat
  | [] => 0
  | x :: r => uptoBulkEntry x + uptoBulkEntries r
def uptoBulkEntry {H : Type} : Lit × DataW H → Nat
  | (.string bytes, d) => bytes.length + uptoBulk d + 1
  | (_, d) => uptoBulk d + 1
 end
def uptoSmall : (H : Type) → List (DataW H) → Bool := fun _ ds => decide (uptoBulkAll ds ≤ 1048576)
def OpenSpec.upto (s : _root_.Go.ChangeSpec) : _root_.Go.OpenSpec := { _root_.Go.OpenSpec.ofChange s with cond := some uptoSmall }

/-- 'quiltlaw12.PrimpatchTree', WHERE WHAT IT READS IS OF BULK AT MOST 1048576: true; the input reads as it did. -/
def primpatchTreeUptoRow : OpenClaim := { program := "ytdbokolbheileaagreatdoor", sum := "5f3a6f38f69c08ed7e5576a1342f2a1774fdc1be84c20a4aba28e2a41a262ea3", func := "quilt/quiltlaw12.PrimpatchTree", spec := "primpatchTree", inPlace := ["internal/bytealg.CountString", "internal/bytealg.IndexByteString", "internal/bytealg.IndexString"], unfollowed := true, recurses := true, named := ["unicode/utf8.first", "unicode/utf8.acceptRanges", "internal/bytealg.MaxLen"], apart := false, laid := [("unicode/utf8.acceptRanges", laid_unicode_utf8_acceptRanges), ("unicode/utf8.first", laid_unicode_utf8_first)], narrowed := true }
def PrimpatchTreeUptoSaid : Prop := primpatchTreeUptoRow.holds Tryz.pinned (OpenSpec.upto primpatchTreeSpec)

/-- 'quiltlaw12.PrimpatchApply', WHERE WHAT IT READS IS OF BULK AT MOST 1048576: true; the input reads as it did. -/
def primpatchApplyUptoRow : OpenClaim := { program := "ytdbokolbheileaagreatdoor", sum := "5f3a6f38f69c08ed7e5576a1342f2a1774fdc1be84c20a4aba28e2a41a262ea3", func := "quilt/quiltlaw12.PrimpatchApply", spec := "primpatchApply", inPlace := ["internal/bytealg.CountString", "internal/bytealg.IndexByteString", "internal/bytealg.IndexString"], unfollowed := true, recurses := true, named := ["unicode/utf8.first", "unicode/utf8.acceptRanges", "internal/bytealg.MaxLen"], apart := false, laid := [("unicode/utf8.acceptRanges", laid_unicode_utf8_acceptRanges), ("unicode/utf8.first", laid_unicode_utf8_first)], narrowed := true }
def PrimpatchApplyUptoSaid : Prop := primpatchApplyUptoRow.holds Tryz.pinned (OpenSpec.upto primpatchApplySpec)

/-- 'quiltlaw12.PrimpatchValid', WHERE WHAT IT READS IS OF BULK AT MOST 1048576: true; the input reads as it did. -/
def primpatchValidUptoRow : OpenClaim := { program := "ytdbokolbheileaagreatdoor", sum := "5f3a6f38f69c08ed7e5576a1342f2a1774fdc1be84c20a4aba28e2a41a262ea3", func := "quilt/quiltlaw12.PrimpatchValid", spec := "primpatchValid", inPlace := ["internal/bytealg.CountString", "internal/bytealg.IndexByteString", "internal/bytealg.IndexString"], unfollowed := true, recurses := true, named := ["unicode/utf8.first", "unicode/utf8.acceptRanges", "internal/bytealg.MaxLen"], apart := false, laid := [("unicode/utf8.acceptRanges", laid_unicode_utf8_acceptRanges), ("unicode/utf8.first", laid_unicode_utf8_first)], narrowed := true }
def PrimpatchValidUptoSaid : Prop := primpatchValidUptoRow.holds Tryz.pinned (OpenSpec.upto primpatchValidSpec)

/-- 'quiltlaw12.PrimpatchMoves', WHERE WHAT IT READS IS OF BULK AT MOST 1048576: true; the input reads as it did. -/
def primpatchMovesUptoRow : OpenClaim := { program := "ytdbokolbheileaagreatdoor", sum := "5f3a6f38f69c08ed7e5576a1342f2a1774fdc1be84c20a4aba28e2a41a262ea3", func := "quilt/quiltlaw12.PrimpatchMoves", spec := "primpatchMoves", inPlace := ["internal/bytealg.CountString", "internal/bytealg.IndexByteString", "internal/bytealg.IndexString"], unfollowed := true, recurses := true, named := ["unicode/utf8.first", "unicode/utf8.acceptRanges", "internal/bytealg.MaxLen"], apart := false, laid := [("unicode/utf8.acceptRanges", laid_unicode_utf8_acceptRanges), ("unicode/utf8.first", laid_unicode_utf8_first)], narrowed := true }
def PrimpatchMovesUptoSaid : Prop := primpatchMovesUptoRow.holds Tryz.pinned (OpenSpec.upto primpatchMovesSpec)

/-- 'quiltlaw12.PrimpatchLocal', WHERE WHAT IT READS IS OF BULK AT MOST 1048576: true; the input reads as it did. -/
def primpatchLocalUptoRow : OpenClaim := { program := "ytdbokolbheileaagreatdoor", sum := "5f3a6f38f69c08ed7e5576a1342f2a1774fdc1be84c20a4aba28e2a41a262ea3", func := "quilt/quiltlaw12.PrimpatchLocal", spec := "primpatchLocal", inPlace := ["internal/bytealg.CountString", "internal/bytealg.IndexByteString", "internal/bytealg.IndexString"], unfollowed := true, recurses := true, named := ["unicode/utf8.first", "unicode/utf8.acceptRanges", "internal/bytealg.MaxLen"], apart := false, laid := [("unicode/utf8.acceptRanges", laid_unicode_utf8_acceptRanges), ("unicode/utf8.first", laid_unicode_utf8_first)], narrowed := true }
def PrimpatchLocalUptoSaid : Prop := primpatchLocalUptoRow.holds Tryz.pinned (OpenSpec.upto primpatchLocalSpec)

/-- 'quiltlaw12.PrimpatchInverse', WHERE WHAT IT READS IS OF BULK AT MOST 1048576: true; the input reads as it did. -/
def primpatchInverseUptoRow : OpenClaim := { program := "ytdbokolbheileaagreatdoor", sum := "5f3a6f38f69c08ed7e5576a1342f2a1774fdc1be84c20a4aba28e2a41a262ea3", func := "quilt/quiltlaw12.PrimpatchInverse", spec := "primpatchInverse", inPlace := ["internal/bytealg.CountString", "internal/bytealg.IndexByteString", "internal/bytealg.IndexString"], unfollowed := true, recurses := true, named := ["unicode/utf8.first", "unicode/utf8.acceptRanges", "internal/bytealg.MaxLen"], apart := false, laid := [("unicode/utf8.acceptRanges", laid_unicode_utf8_acceptRanges), ("unicode/utf8.first", laid_unicode_utf8_first)], narrowed := true }
def PrimpatchInverseUptoSaid : Prop := primpatchInverseUptoRow.holds Tryz.pinned (OpenSpec.upto primpatchInverseSpec)

/-- 'quiltlaw12.PrimpatchCheck', WHERE WHAT IT READS IS OF BULK AT MOST 1048576: true; the input reads as it did. -/
def primpatchCheckUptoRow : OpenClaim := { program := "ytdbokolbheileaagreatdoor", sum := "5f3a6f38f69c08ed7e5576a1342f2a1774fdc1be84c20a4aba28e2a41a262ea3", func := "quilt/quiltlaw12.PrimpatchCheck", spec := "primpatchCheck", inPlace := ["internal/bytealg.CountString", "internal/bytealg.IndexByteString", "internal/bytealg.IndexString"], unfollowed := true, recurses := true, named := ["unicode/utf8.first", "unicode/utf8.acceptRanges", "internal/bytealg.MaxLen"], apart := false, laid := [("unicode/utf8.acceptRanges", laid_unicode_utf8_acceptRanges), ("unicode/utf8.first", laid_unicode_utf8_first)], narrowed := true }
def PrimpatchCheckUptoSaid : Prop := primpatchCheckUptoRow.holds Tryz.pinned (OpenSpec.upto primpatchCheckSpec)

end Rows
end Go.Proofs.YtdbokolbheileaaGreatDoor
