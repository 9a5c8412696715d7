/-
  NARROWER THAN 'FOR EVERY INPUT', by the rows' own cells (each row's printed sentence says how): IgnoreParse: laid · IgnoreFiles: laid · IgnoreTexts: laid · IgnoreBelow: laid · IgnoreElsewhere: laid · IgnorePaths: laid · IgnoreTrees: laid · IgnoreLast: laid.
  DERIVED. THE GIVEN ROWS OF THIS SEAT. 8 by the template 'for every input the law returns true; each argument reads behind the call as it read before'; 0 by the template 'total and deterministic' (their statements: YtnjcifppkijanaaGreatDoorTotals.lean).
  GIVEN WITH THE SEED: the statements are not yours to turn. If you find one false, say at which input.
  Laid BY PROGRAM, IN A SANDBOX (cutbox-rows.mjs): the forced cells as the released guide's own fill.sh prints them over the translation ef95a150ce8e4a10… (all of the seat's roots in one cut). By AI agents, Wed Nov 11 2026. No macro, syntax, notation, axiom, sorry.
-/
import Derived.Test.YtnjcifppkijanaaGreatDoorChecked
import GoSem.PinnedTables
import GoSem.Claim
import GoSem.ClaimJoined
import GoSem.ClaimMapViews
import Derived.JoinedTies
import Derived.KernelRfl
namespace Go.Proofs.YtnjcifppkijanaaGreatDoor
/- THE CELL 'sum', in the pinned program and in every row, IS THE sha256 OF THE DUMP (.gsa) THAT YtnjcifppkijanaaGreatDoorProg.lean LOADS. Nothing in Lean hashes anything: it is a label: what it is worth is what the hold of that sum in a sandbox is worth. -/
noncomputable def Tryz.pinned : Pinned := { name := "ytnjcifppkijanaagreatdoor", sum := "ef95a150ce8e4a105cb23251c77f3ccdb30c6c210a885ea1a813b310fce02f49", checked := Tryz.checked }
namespace Rows
def none {H : Type} : Left H := { results := [], args := [] }

/- WHAT THE LISTED PACKAGE-LEVEL VARIABLES READ AS WHEN THE CALL BEGINS. Each datum BY PROGRAM (the guide's laid-datum.mjs) off the statement by which the dump's own 'gosem.cut.vars' lays the variable. In a bare row this is a premise. The card (YtnjcifppkijanaaGreatDoorCards.lean) ties it to the program's text. -/
def laid_unicode_utf8_acceptRanges {H : Type} : DataW H := .agg [.agg [.lit (.int .u8 128), .lit (.int .u8 191)], .agg [.lit (.int .u8 160), .lit (.int .u8 191)], .agg [.lit (.int .u8 128), .lit (.int .u8 159)], .agg [.lit (.int .u8 144), .lit (.int .u8 191)], .agg [.lit (.int .u8 128), .lit (.int .u8 143)], .agg [.lit (.int .u8 0), .lit (.int .u8 0)], .agg [.lit (.int .u8 0), .lit (.int .u8 0)], .agg [.lit (.int .u8 0), .lit (.int .u8 0)], .agg [.lit (.int .u8 0), .lit (.int .u8 0)], .agg [.lit (.int .u8 0), .lit (.int .u8 0)], .agg [.lit (.int .u8 0), .lit (.int .u8 0)], .agg [.lit (.int .u8 0), .lit (.int .u8 0)], .agg [.lit (.int .u8 0), .lit (.int .u8 0)], .agg [.lit (.int .u8 0), .lit (.int .u8 0)], .agg [.lit (.int .u8 0), .lit (.int .u8 0)], .agg [.lit (.int .u8 0), .lit (.int .u8 0)]]
/-- One of Go's own tables, pinned by name: the form's constant. -/
def laid_unicode_utf8_first : DataW Unit := Go.Pinned.utf8First

/-- 'quiltlaw39.IgnoreParse': WHATEVER THE INPUT: true; the input reads as it did. -/
def ignoreParseSpec : ChangeSpec := { name := "ignoreParse", fn := fun _ => fun
  | [d] => { results := [.lit (.bool true)], args := [d] }
  | _ => none }
def ignoreParseRow : OpenClaim := { program := "ytnjcifppkijanaagreatdoor", sum := "ef95a150ce8e4a105cb23251c77f3ccdb30c6c210a885ea1a813b310fce02f49", func := "quilt/quiltlaw39.IgnoreParse", spec := "ignoreParse", inPlace := ["internal/bytealg.IndexByteString", "internal/bytealg.IndexString", "internal/bytealg.CountString"], unfollowed := true, recurses := true, named := ["unicode/utf8.first", "unicode/utf8.acceptRanges", "internal/bytealg.MaxLen"], apart := false, laid := [("unicode/utf8.acceptRanges", laid_unicode_utf8_acceptRanges), ("unicode/utf8.first", laid_unicode_utf8_first)] }
def IgnoreParseSaid : Prop := ignoreParseRow.holds Tryz.pinned (OpenSpec.ofChange ignoreParseSpec)

/-- ITS FALSE NEIGHBOUR: 'it returns false'. Refute it at one input. -/
def ignoreParseWrong : ChangeSpec := { name := "ignoreParse", fn := fun _ => fun
  | [d] => { results := [.lit (.bool false)], args := [d] }
  | _ => none }
def IgnoreParseWrongFalsely : Prop := ignoreParseRow.holds Tryz.pinned (OpenSpec.ofChange ignoreParseWrong)

/-- 'quiltlaw39.IgnoreFiles': WHATEVER THE INPUT: true; the input reads as it did. -/
def ignoreFilesSpec : ChangeSpec := { name := "ignoreFiles", fn := fun _ => fun
  | [d] => { results := [.lit (.bool true)], args := [d] }
  | _ => none }
def ignoreFilesRow : OpenClaim := { program := "ytnjcifppkijanaagreatdoor", sum := "ef95a150ce8e4a105cb23251c77f3ccdb30c6c210a885ea1a813b310fce02f49", func := "quilt/quiltlaw39.IgnoreFiles", spec := "ignoreFiles", inPlace := ["internal/bytealg.IndexByteString", "internal/bytealg.IndexString", "internal/bytealg.CountString"], unfollowed := true, recurses := true, named := ["unicode/utf8.first", "unicode/utf8.acceptRanges", "internal/bytealg.MaxLen"], apart := false, laid := [("unicode/utf8.acceptRanges", laid_unicode_utf8_acceptRanges), ("unicode/utf8.first", laid_unicode_utf8_first)] }
def IgnoreFilesSaid : Prop := ignoreFilesRow.holds Tryz.pinned (OpenSpec.ofChange ignoreFilesSpec)

/-- ITS FALSE NEIGHBOUR: 'it returns false'. Refute it at one input. -/
def ignoreFilesWrong : ChangeSpec := { name := "ignoreFiles", fn := fun _ => fun
  | [d] => { results := [.lit (.bool false)], args := [d] }
  | _ => none }
def IgnoreFilesWrongFalsely : Prop := ignoreFilesRow.holds Tryz.pinned (OpenSpec.ofChange ignoreFilesWrong)

/-- 'quiltlaw39.IgnoreTexts': WHATEVER THE INPUT: true; the input reads as it did. -/
def ignoreTextsSpec : ChangeSpec := { name := "ignoreTexts", fn := fun _ => fun
  | [d1, d2] => { results := [.lit (.bool true)], args := [d1, d2] }
  | _ => none }
def ignoreTextsRow : OpenClaim := { program := "ytnjcifppkijanaagreatdoor", sum := "ef95a150ce8e4a105cb23251c77f3ccdb30c6c210a885ea1a813b310fce02f49", func := "quilt/quiltlaw39.IgnoreTexts", spec := "ignoreTexts", inPlace := ["internal/bytealg.IndexByteString", "internal/bytealg.IndexString", "internal/bytealg.CountString"], unfollowed := true, recurses := true, named := ["unicode/utf8.first", "unicode/utf8.acceptRanges", "internal/bytealg.MaxLen"], apart := false, laid := [("unicode/utf8.acceptRanges", laid_unicode_utf8_acceptRanges), ("unicode/utf8.first", laid_unicode_utf8_first)] }
def IgnoreTextsSaid : Prop := ignoreTextsRow.holds Tryz.pinned (OpenSpec.ofChange ignoreTextsSpec)

/-- ITS FALSE NEIGHBOUR: 'it returns false'. Refute it at one input. -/
def ignoreTextsWrong : ChangeSpec := { name := "ignoreTexts", fn := fun _ => fun
  | [d1, d2] => { results := [.lit (.bool false)], args := [d1, d2] }
  | _ => none }
def IgnoreTextsWrongFalsely : Prop := ignoreTextsRow.holds Tryz.pinned (OpenSpec.ofChange ignoreTextsWrong)

/-- 'quiltlaw39.IgnoreBelow': WHATEVER THE INPUT: true; the input reads as it did. -/
def ignoreBelowSpec : ChangeSpec := { name := "ignoreBelow", fn := fun _ => fun
  | [d1, d2, d3] => { results := [.lit (.bool true)], args := [d1, d2, d3] }
  | _ => none }
def ignoreBelowRow : OpenClaim := { program := "ytnjcifppkijanaagreatdoor", sum := "ef95a150ce8e4a105cb23251c77f3ccdb30c6c210a885ea1a813b310fce02f49", func := "quilt/quiltlaw39.IgnoreBelow", spec := "ignoreBelow", inPlace := ["internal/bytealg.CountString", "internal/bytealg.IndexByteString", "internal/bytealg.IndexString"], unfollowed := true, recurses := true, named := ["unicode/utf8.first", "unicode/utf8.acceptRanges", "internal/bytealg.MaxLen"], apart := false, laid := [("unicode/utf8.acceptRanges", laid_unicode_utf8_acceptRanges), ("unicode/utf8.first", laid_unicode_utf8_first)] }
def IgnoreBelowSaid : Prop := ignoreBelowRow.holds Tryz.pinned (OpenSpec.ofChange ignoreBelowSpec)

/-- ITS FALSE NEIGHBOUR: 'it returns false'. Refute it at one input. -/
def ignoreBelowWrong : ChangeSpec := { name := "ignoreBelow", fn := fun _ => fun
  | [d1, d2, d3] => { results := [.lit (.bool false)], args := [d1, d2, d3] }
  | _ => none }
def IgnoreBelowWrongFalsely : Prop := ignoreBelowRow.holds Tryz.pinned (OpenSpec.ofChange ignoreBelowWrong)

/-- 'quiltlaw39.IgnoreElsewhere': WHATEVER THE INPUT: true; the input reads as it did. -/
def ignoreElsewhereSpec : ChangeSpec := { name := "ignoreElsewhere", fn := fun _ => fun
  | [d1, d2, d3] => { results := [.lit (.bool true)], args := [d1, d2, d3] }
  | _ => none }
def ignoreElsewhereRow : OpenClaim := { program := "ytnjcifppkijanaagreatdoor", sum := "ef95a150ce8e4a105cb23251c77f3ccdb30c6c210a885ea1a813b310fce02f49", func := "quilt/quiltlaw39.IgnoreElsewhere", spec := "ignoreElsewhere", inPlace := ["internal/bytealg.CountString", "internal/bytealg.IndexByteString", "internal/bytealg.IndexString"], unfollowed := true, recurses := true, named := ["unicode/utf8.first", "unicode/utf8.acceptRanges", "internal/bytealg.MaxLen"], apart := false, laid := [("unicode/utf8.acceptRanges", laid_unicode_utf8_acceptRanges), ("unicode/utf8.first", laid_unicode_utf8_first)] }
def IgnoreElsewhereSaid : Prop := ignoreElsewhereRow.holds Tryz.pinned (OpenSpec.ofChange ignoreElsewhereSpec)

/-- ITS FALSE NEIGHBOUR: 'it returns false'. Refute it at one input. -/
def ignoreElsewhereWrong : ChangeSpec := { name := "ignoreElsewhere", fn := fun _ => fun
  | [d1, d2, d3] => { results := [.lit (.bool false)], args := [d1, d2, d3] }
  | _ => none }
def IgnoreElsewhereWrongFalsely : Prop := ignoreElsewhereRow.holds Tryz.pinned (OpenSpec.ofChange ignoreElsewhereWrong)

/-- 'quiltlaw39.IgnorePaths': WHATEVER THE INPUT: true; the input reads as it did. -/
def ignorePathsSpec : ChangeSpec := { name := "ignorePaths", fn := fun _ => fun
  | [d1, d2, d3] => { results := [.lit (.bool true)], args := [d1, d2, d3] }
  | _ => none }
def ignorePathsRow : OpenClaim := { program := "ytnjcifppkijanaagreatdoor", sum := "ef95a150ce8e4a105cb23251c77f3ccdb30c6c210a885ea1a813b310fce02f49", func := "quilt/quiltlaw39.IgnorePaths", spec := "ignorePaths", inPlace := ["internal/bytealg.IndexByteString", "internal/bytealg.IndexString", "internal/bytealg.CountString"], unfollowed := true, recurses := true, named := ["unicode/utf8.first", "unicode/utf8.acceptRanges", "internal/bytealg.MaxLen"], apart := false, laid := [("unicode/utf8.acceptRanges", laid_unicode_utf8_acceptRanges), ("unicode/utf8.first", laid_unicode_utf8_first)] }
def IgnorePathsSaid : Prop := ignorePathsRow.holds Tryz.pinned (OpenSpec.ofChange ignorePathsSpec)

/-- ITS FALSE NEIGHBOUR: 'it returns false'. Refute it at one input. -/
def ignorePathsWrong : ChangeSpec := { name := "ignorePaths", fn := fun _ => fun
  | [d1, d2, d3] => { results := [.lit (.bool false)], args := [d1, d2, d3] }
  | _ => none }
def IgnorePathsWrongFalsely : Prop := ignorePathsRow.holds Tryz.pinned (OpenSpec.ofChange ignorePathsWrong)

/-- 'quiltlaw39.IgnoreTrees': WHATEVER THE INPUT: true; the input reads as it did. -/
def ignoreTreesSpec : ChangeSpec := { name := "ignoreTrees", fn := fun _ => fun
  | [d1, d2] => { results := [.lit (.bool true)], args := [d1, d2] }
  | _ => none }
def ignoreTreesRow : OpenClaim := { program := "ytnjcifppkijanaagreatdoor", sum := "ef95a150ce8e4a105cb23251c77f3ccdb30c6c210a885ea1a813b310fce02f49", func := "quilt/quiltlaw39.IgnoreTrees", spec := "ignoreTrees", inPlace := ["internal/bytealg.IndexByteString", "internal/bytealg.IndexString", "internal/bytealg.CountString"], unfollowed := true, recurses := true, named := ["unicode/utf8.first", "unicode/utf8.acceptRanges", "internal/bytealg.MaxLen"], apart := false, laid := [("unicode/utf8.acceptRanges", laid_unicode_utf8_acceptRanges), ("unicode/utf8.first", laid_unicode_utf8_first)] }
def IgnoreTreesSaid : Prop := ignoreTreesRow.holds Tryz.pinned (OpenSpec.ofChange ignoreTreesSpec)

/-- ITS FALSE NEIGHBOUR: 'it returns false'. Refute it at one input. -/
def ignoreTreesWrong : ChangeSpec := { name := "ignoreTrees", fn := fun _ => fun
  | [d1, d2] => { results := [.lit (.bool false)], args := [d1, d2] }
  | _ => none }
def IgnoreTreesWrongFalsely : Prop := ignoreTreesRow.holds Tryz.pinned (OpenSpec.ofChange ignoreTreesWrong)

/-- 'quiltlaw39.IgnoreLast': WHATEVER THE INPUT: true; the input reads as it did. -/
def ignoreLastSpec : ChangeSpec := { name := "ignoreLast", fn := fun _ => fun
  | [d1, d2, d3, d4] => { results := [.lit (.bool true)], args := [d1, d2, d3, d4] }
  | _ => none }
def ignoreLastRow : OpenClaim := { program := "ytnjcifppkijanaagreatdoor", sum := "ef95a150ce8e4a105cb23251c77f3ccdb30c6c210a885ea1a813b310fce02f49", func := "quilt/quiltlaw39.IgnoreLast", spec := "ignoreLast", inPlace := ["internal/bytealg.IndexByteString", "internal/bytealg.IndexString", "internal/bytealg.CountString", "internal/bytealg.abigen_runtime_cmpstring", "slices.overlaps[quilt/api.IgnoreFile]"], unfollowed := true, recurses := true, named := ["unicode/utf8.first", "unicode/utf8.acceptRanges", "internal/bytealg.MaxLen"], apart := false, laid := [("unicode/utf8.acceptRanges", laid_unicode_utf8_acceptRanges), ("unicode/utf8.first", laid_unicode_utf8_first)] }
def IgnoreLastSaid : Prop := ignoreLastRow.holds Tryz.pinned (OpenSpec.ofChange ignoreLastSpec)

/-- ITS FALSE NEIGHBOUR: 'it returns false'. Refute it at one input. -/
def ignoreLastWrong : ChangeSpec := { name := "ignoreLast", fn := fun _ => fun
  | [d1, d2, d3, d4] => { results := [.lit (.bool false)], args := [d1, d2, d3, d4] }
  | _ => none }
def IgnoreLastWrongFalsely : Prop := ignoreLastRow.holds Tryz.pinned (OpenSpec.ofChange ignoreLastWrong)

/- THE SECOND FORM. 'bulk': how many values and letters a reading holds, each counted each time it is reached (what is shared counts as often as it is met; a slice's spare places count too). A statement '..UptoSaid' is the law's where the arguments, and the package variables that the reading takes, are together of bulk at most 1048576: NARROWER than '..Said'. Prove '..Said' where nothing that the law and all that it calls make is longer than what came in: it says more and counts as full. Else prove '..UptoSaid'. A law counts once. -/
mutual
def uptoBulk {H : Type} : DataW H → Nat
  | .lit (.string bytes) => bytes.length + 1
  | .lit _ => 1
  | .nil => 1
  | .ptr d => uptoBulk d + 1
  | .slice elems spare => uptoBulkAll elems + uptoBulkAll spare + 1
  | .agg parts => uptoBulkAll parts + 1
  | .iface _ d => uptoBulk d + 1
  | .map entries => uptoBulkEntries entries + 1
  | .held _ => 1
def uptoBulkAll {H : Type} : List (DataW H) → Nat
  | [] => 0
  | d :: r => uptoBulk d + uptoBulkAll r
def uptoBulkEntries {H : Type} : List (Lit × DataW H) → Nat
  | [] => 0
  | x :: r => uptoBulkEntry x + uptoBulkEntries r
def uptoBulkEntry {H : Type} : Lit × DataW H → Nat
  | (.string bytes, d) => bytes.length + uptoBulk d + 1
  | (_, d) => uptoBulk d + 1
 end
def uptoSmall : (H : Type) → List (DataW H) → Bool := fun _ ds => decide (uptoBulkAll ds ≤ 1048576)
def OpenSpec.upto (s : _root_.Go.ChangeSpec) : _root_.Go.OpenSpec := { _root_.Go.OpenSpec.ofChange s with cond := some uptoSmall }

/-- 'quiltlaw39.IgnoreParse', WHERE WHAT IT READS IS OF BULK AT MOST 1048576: true; the input reads as it did. -/
def ignoreParseUptoRow : OpenClaim := { program := "ytnjcifppkijanaagreatdoor", sum := "ef95a150ce8e4a105cb23251c77f3ccdb30c6c210a885ea1a813b310fce02f49", func := "quilt/quiltlaw39.IgnoreParse", spec := "ignoreParse", inPlace := ["internal/bytealg.IndexByteString", "internal/bytealg.IndexString", "internal/bytealg.CountString"], unfollowed := true, recurses := true, named := ["unicode/utf8.first", "unicode/utf8.acceptRanges", "internal/bytealg.MaxLen"], apart := false, laid := [("unicode/utf8.acceptRanges", laid_unicode_utf8_acceptRanges), ("unicode/utf8.first", laid_unicode_utf8_first)], narrowed := true }
def IgnoreParseUptoSaid : Prop := ignoreParseUptoRow.holds Tryz.pinned (OpenSpec.upto ignoreParseSpec)

/-- 'quiltlaw39.IgnoreFiles', WHERE WHAT IT READS IS OF BULK AT MOST 1048576: true; the input reads as it did. -/
def ignoreFilesUptoRow : OpenClaim := { program := "ytnjcifppkijanaagreatdoor", sum := "ef95a150ce8e4a105cb23251c77f3ccdb30c6c210a885ea1a813b310fce02f49", func := "quilt/quiltlaw39.IgnoreFiles", spec := "ignoreFiles", inPlace := ["internal/bytealg.IndexByteString", "internal/bytealg.IndexString", "internal/bytealg.CountString"], unfollowed := true, recurses := true, named := ["unicode/utf8.first", "unicode/utf8.acceptRanges", "internal/bytealg.MaxLen"], apart := false, laid := [("unicode/utf8.acceptRanges", laid_unicode_utf8_acceptRanges), ("unicode/utf8.first", laid_unicode_utf8_first)], narrowed := true }
def IgnoreFilesUptoSaid : Prop := ignoreFilesUptoRow.holds Tryz.pinned (OpenSpec.upto ignoreFilesSpec)

/-- 'quiltlaw39.IgnoreTexts', WHERE WHAT IT READS IS OF BULK AT MOST 1048576: true; the input reads as it did. -/
def ignoreTextsUptoRow : OpenClaim := { program := "ytnjcifppkijanaagreatdoor", sum := "ef95a150ce8e4a105cb23251c77f3ccdb30c6c210a885ea1a813b310fce02f49", func := "quilt/quiltlaw39.IgnoreTexts", spec := "ignoreTexts", inPlace := ["internal/bytealg.IndexByteString", "internal/bytealg.IndexString", "internal/bytealg.CountString"], unfollowed := true, recurses := true, named := ["unicode/utf8.first", "unicode/utf8.acceptRanges", "internal/bytealg.MaxLen"], apart := false, laid := [("unicode/utf8.acceptRanges", laid_unicode_utf8_acceptRanges), ("unicode/utf8.first", laid_unicode_utf8_first)], narrowed := true }
def IgnoreTextsUptoSaid : Prop := ignoreTextsUptoRow.holds Tryz.pinned (OpenSpec.upto ignoreTextsSpec)

/-- 'quiltlaw39.IgnoreBelow', WHERE WHAT IT READS IS OF BULK AT MOST 1048576: true; the input reads as it did. -/
def ignoreBelowUptoRow : OpenClaim := { program := "ytnjcifppkijanaagreatdoor", sum := "ef95a150ce8e4a105cb23251c77f3ccdb30c6c210a885ea1a813b310fce02f49", func := "quilt/quiltlaw39.IgnoreBelow", spec := "ignoreBelow", inPlace := ["internal/bytealg.CountString", "internal/bytealg.IndexByteString", "internal/bytealg.IndexString"], unfollowed := true, recurses := true, named := ["unicode/utf8.first", "unicode/utf8.acceptRanges", "internal/bytealg.MaxLen"], apart := false, laid := [("unicode/utf8.acceptRanges", laid_unicode_utf8_acceptRanges), ("unicode/utf8.first", laid_unicode_utf8_first)], narrowed := true }
def IgnoreBelowUptoSaid : Prop := ignoreBelowUptoRow.holds Tryz.pinned (OpenSpec.upto ignoreBelowSpec)

/-- 'quiltlaw39.IgnoreElsewhere', WHERE WHAT IT READS IS OF BULK AT MOST 1048576: true; the input reads as it did. -/
def ignoreElsewhereUptoRow : OpenClaim := { program := "ytnjcifppkijanaagreatdoor", sum := "ef95a150ce8e4a105cb23251c77f3ccdb30c6c210a885ea1a813b310fce02f49", func := "quilt/quiltlaw39.IgnoreElsewhere", spec := "ignoreElsewhere", inPlace := ["internal/bytealg.CountString", "internal/bytealg.IndexByteString", "internal/bytealg.IndexString"], unfollowed := true, recurses := true, named := ["unicode/utf8.first", "unicode/utf8.acceptRanges", "internal/bytealg.MaxLen"], apart := false, laid := [("unicode/utf8.acceptRanges", laid_unicode_utf8_acceptRanges), ("unicode/utf8.first", laid_unicode_utf8_first)], narrowed := true }
def IgnoreElsewhereUptoSaid : Prop := ignoreElsewhereUptoRow.holds Tryz.pinned (OpenSpec.upto ignoreElsewhereSpec)

/-- 'quiltlaw39.IgnorePaths', WHERE WHAT IT READS IS OF BULK AT MOST 1048576: true; the input reads as it did. -/
def ignorePathsUptoRow : OpenClaim := { program := "ytnjcifppkijanaagreatdoor", sum := "ef95a150ce8e4a105cb23251c77f3ccdb30c6c210a885ea1a813b310fce02f49", func := "quilt/quiltlaw39.IgnorePaths", spec := "ignorePaths", inPlace := ["internal/bytealg.IndexByteString", "internal/bytealg.IndexString", "internal/bytealg.CountString"], unfollowed := true, recurses := true, named := ["unicode/utf8.first", "unicode/utf8.acceptRanges", "internal/bytealg.MaxLen"], apart := false, laid := [("unicode/utf8.acceptRanges", laid_unicode_utf8_acceptRanges), ("unicode/utf8.first", laid_unicode_utf8_first)], narrowed := true }
def IgnorePathsUptoSaid : Prop := ignorePathsUptoRow.holds Tryz.pinned (OpenSpec.upto ignorePathsSpec)

/-- 'quiltlaw39.IgnoreTrees', WHERE WHAT IT READS IS OF BULK AT MOST 1048576: true; the input reads as it did. -/
def ignoreTreesUptoRow : OpenClaim := { program := "ytnjcifppkijanaagreatdoor", sum := "ef95a150ce8e4a105cb23251c77f3ccdb30c6c210a885ea1a813b310fce02f49", func := "quilt/quiltlaw39.IgnoreTrees", spec := "ignoreTrees", inPlace := ["internal/bytealg.IndexByteString", "internal/bytealg.IndexString", "internal/bytealg.CountString"], unfollowed := true, recurses := true, named := ["unicode/utf8.first", "unicode/utf8.acceptRanges", "internal/bytealg.MaxLen"], apart := false, laid := [("unicode/utf8.acceptRanges", laid_unicode_utf8_acceptRanges), ("unicode/utf8.first", laid_unicode_utf8_first)], narrowed := true }
def IgnoreTreesUptoSaid : Prop := ignoreTreesUptoRow.holds Tryz.pinned (OpenSpec.upto ignoreTreesSpec)

/-- 'quiltlaw39.IgnoreLast', WHERE WHAT IT READS IS OF BULK AT MOST 1048576: true; the input reads as it did. -/
def ignoreLastUptoRow : OpenClaim := { program := "ytnjcifppkijanaagreatdoor", sum := "ef95a150ce8e4a105cb23251c77f3ccdb30c6c210a885ea1a813b310fce02f49", func := "quilt/quiltlaw39.IgnoreLast", spec := "ignoreLast", inPlace := ["internal/bytealg.IndexByteString", "internal/bytealg.IndexString", "internal/bytealg.CountString", "internal/bytealg.abigen_runtime_cmpstring", "slices.overlaps[quilt/api.IgnoreFile]"], unfollowed := true, recurses := true, named := ["unicode/utf8.first", "unicode/utf8.acceptRanges", "internal/bytealg.MaxLen"], apart := false, laid := [("unicode/utf8.acceptRanges", laid_unicode_utf8_acceptRanges), ("unicode/utf8.first", laid_unicode_utf8_first)], narrowed := true }
def IgnoreLastUptoSaid : Prop := ignoreLastUptoRow.holds Tryz.pinned (OpenSpec.upto ignoreLastSpec)

end Rows
end Go.Proofs.YtnjcifppkijanaaGreatDoor
