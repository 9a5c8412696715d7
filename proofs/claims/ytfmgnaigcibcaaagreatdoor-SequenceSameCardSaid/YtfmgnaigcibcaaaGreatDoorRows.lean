/-
  NARROWER THAN 'FOR EVERY INPUT', by the rows' own cells (each row's printed sentence says how): PrimpatchApply: laid · SequenceApply: laid · SequenceInverse: laid · SequenceMoved: laid · SequenceCanceled: laid · SequenceSame: laid · PrimcommuteEffect: laid · PushoutEffect: laid.
  DERIVED. THE GIVEN ROWS OF THIS SEAT. 8 by the template 'for every input the law returns true; each argument reads behind the call as it read before'; 0 by the template 'total and deterministic' (their statements: YtfmgnaigcibcaaaGreatDoorTotals.lean).
  GIVEN WITH THE SEED: the statements are not yours to turn. If you find one false, say at which input.
  Laid BY PROGRAM, IN A SANDBOX (cutbox-rows.mjs): the forced cells as the released guide's own fill.sh prints them over the translation 144795057d9aa681… (all of the seat's roots in one cut). By AI agents, Wed Nov 11 2026. No macro, syntax, notation, axiom, sorry.
-/
import Derived.Test.YtfmgnaigcibcaaaGreatDoorChecked
import GoSem.PinnedTables
import GoSem.Claim
import GoSem.ClaimJoined
import GoSem.ClaimMapViews
import Derived.JoinedTies
import Derived.KernelRfl
namespace Go.Proofs.YtfmgnaigcibcaaaGreatDoor
/- THE CELL 'sum', in the pinned program and in every row, IS THE sha256 OF THE DUMP (.gsa) THAT YtfmgnaigcibcaaaGreatDoorProg.lean LOADS. Nothing in Lean hashes anything: it is a label: what it is worth is what the hold of that sum in a sandbox is worth. -/
noncomputable def Tryz.pinned : Pinned := { name := "ytfmgnaigcibcaaagreatdoor", sum := "144795057d9aa681f0c21d7331422bf50eda50f3718ea5c513796f41ea666b9a", checked := Tryz.checked }
namespace Rows
def none {H : Type} : Left H := { results := [], args := [] }

/- WHAT THE LISTED PACKAGE-LEVEL VARIABLES READ AS WHEN THE CALL BEGINS. Each datum BY PROGRAM (the guide's laid-datum.mjs) off the statement by which the dump's own 'gosem.cut.vars' lays the variable. In a bare row this is a premise. The card (YtfmgnaigcibcaaaGreatDoorCards.lean) ties it to the program's text. -/
def laid_unicode_utf8_acceptRanges {H : Type} : DataW H := .agg [.agg [.lit (.int .u8 128), .lit (.int .u8 191)], .agg [.lit (.int .u8 160), .lit (.int .u8 191)], .agg [.lit (.int .u8 128), .lit (.int .u8 159)], .agg [.lit (.int .u8 144), .lit (.int .u8 191)], .agg [.lit (.int .u8 128), .lit (.int .u8 143)], .agg [.lit (.int .u8 0), .lit (.int .u8 0)], .agg [.lit (.int .u8 0), .lit (.int .u8 0)], .agg [.lit (.int .u8 0), .lit (.int .u8 0)], .agg [.lit (.int .u8 0), .lit (.int .u8 0)], .agg [.lit (.int .u8 0), .lit (.int .u8 0)], .agg [.lit (.int .u8 0), .lit (.int .u8 0)], .agg [.lit (.int .u8 0), .lit (.int .u8 0)], .agg [.lit (.int .u8 0), .lit (.int .u8 0)], .agg [.lit (.int .u8 0), .lit (.int .u8 0)], .agg [.lit (.int .u8 0), .lit (.int .u8 0)], .agg [.lit (.int .u8 0), .lit (.int .u8 0)]]
/-- One of Go's own tables, pinned by name: the form's constant. -/
def laid_unicode_utf8_first : DataW Unit := Go.Pinned.utf8First

/-- 'quiltlaw12.PrimpatchApply': WHATEVER THE INPUT: true; the input reads as it did. -/
def primpatchApplySpec : ChangeSpec := { name := "primpatchApply", fn := fun _ => fun
  | [d1, d2] => { results := [.lit (.bool true)], args := [d1, d2] }
  | _ => none }
def primpatchApplyRow : OpenClaim := { program := "ytfmgnaigcibcaaagreatdoor", sum := "144795057d9aa681f0c21d7331422bf50eda50f3718ea5c513796f41ea666b9a", func := "quilt/quiltlaw12.PrimpatchApply", spec := "primpatchApply", inPlace := ["internal/bytealg.CountString", "internal/bytealg.IndexByteString", "internal/bytealg.IndexString"], unfollowed := true, recurses := true, named := ["unicode/utf8.first", "unicode/utf8.acceptRanges", "internal/bytealg.MaxLen"], apart := false, laid := [("unicode/utf8.acceptRanges", laid_unicode_utf8_acceptRanges), ("unicode/utf8.first", laid_unicode_utf8_first)] }
def PrimpatchApplySaid : Prop := primpatchApplyRow.holds Tryz.pinned (OpenSpec.ofChange primpatchApplySpec)

/-- ITS FALSE NEIGHBOUR: 'it returns false'. Refute it at one input. -/
def primpatchApplyWrong : ChangeSpec := { name := "primpatchApply", fn := fun _ => fun
  | [d1, d2] => { results := [.lit (.bool false)], args := [d1, d2] }
  | _ => none }
def PrimpatchApplyWrongFalsely : Prop := primpatchApplyRow.holds Tryz.pinned (OpenSpec.ofChange primpatchApplyWrong)

/-- 'quiltlaw14.SequenceApply': WHATEVER THE INPUT: true; the input reads as it did. -/
def sequenceApplySpec : ChangeSpec := { name := "sequenceApply", fn := fun _ => fun
  | [d1, d2] => { results := [.lit (.bool true)], args := [d1, d2] }
  | _ => none }
def sequenceApplyRow : OpenClaim := { program := "ytfmgnaigcibcaaagreatdoor", sum := "144795057d9aa681f0c21d7331422bf50eda50f3718ea5c513796f41ea666b9a", func := "quilt/quiltlaw14.SequenceApply", spec := "sequenceApply", inPlace := ["internal/bytealg.CountString", "internal/bytealg.IndexByteString", "internal/bytealg.IndexString"], unfollowed := true, recurses := true, named := ["unicode/utf8.first", "unicode/utf8.acceptRanges", "internal/bytealg.MaxLen"], apart := false, laid := [("unicode/utf8.acceptRanges", laid_unicode_utf8_acceptRanges), ("unicode/utf8.first", laid_unicode_utf8_first)] }
def SequenceApplySaid : Prop := sequenceApplyRow.holds Tryz.pinned (OpenSpec.ofChange sequenceApplySpec)

/-- ITS FALSE NEIGHBOUR: 'it returns false'. Refute it at one input. -/
def sequenceApplyWrong : ChangeSpec := { name := "sequenceApply", fn := fun _ => fun
  | [d1, d2] => { results := [.lit (.bool false)], args := [d1, d2] }
  | _ => none }
def SequenceApplyWrongFalsely : Prop := sequenceApplyRow.holds Tryz.pinned (OpenSpec.ofChange sequenceApplyWrong)

/-- 'quiltlaw14.SequenceInverse': WHATEVER THE INPUT: true; the input reads as it did. -/
def sequenceInverseSpec : ChangeSpec := { name := "sequenceInverse", fn := fun _ => fun
  | [d1, d2] => { results := [.lit (.bool true)], args := [d1, d2] }
  | _ => none }
def sequenceInverseRow : OpenClaim := { program := "ytfmgnaigcibcaaagreatdoor", sum := "144795057d9aa681f0c21d7331422bf50eda50f3718ea5c513796f41ea666b9a", func := "quilt/quiltlaw14.SequenceInverse", spec := "sequenceInverse", inPlace := ["internal/bytealg.CountString", "internal/bytealg.IndexByteString", "internal/bytealg.IndexString"], unfollowed := true, recurses := true, named := ["unicode/utf8.first", "unicode/utf8.acceptRanges", "internal/bytealg.MaxLen"], apart := false, laid := [("unicode/utf8.acceptRanges", laid_unicode_utf8_acceptRanges), ("unicode/utf8.first", laid_unicode_utf8_first)] }
def SequenceInverseSaid : Prop := sequenceInverseRow.holds Tryz.pinned (OpenSpec.ofChange sequenceInverseSpec)

/-- ITS FALSE NEIGHBOUR: 'it returns false'. Refute it at one input. -/
def sequenceInverseWrong : ChangeSpec := { name := "sequenceInverse", fn := fun _ => fun
  | [d1, d2] => { results := [.lit (.bool false)], args := [d1, d2] }
  | _ => none }
def SequenceInverseWrongFalsely : Prop := sequenceInverseRow.holds Tryz.pinned (OpenSpec.ofChange sequenceInverseWrong)

/-- 'quiltlaw14.SequenceMoved': WHATEVER THE INPUT: true; the input reads as it did. -/
def sequenceMovedSpec : ChangeSpec := { name := "sequenceMoved", fn := fun _ => fun
  | [d1, d2, d3, d4] => { results := [.lit (.bool true)], args := [d1, d2, d3, d4] }
  | _ => none }
def sequenceMovedRow : OpenClaim := { program := "ytfmgnaigcibcaaagreatdoor", sum := "144795057d9aa681f0c21d7331422bf50eda50f3718ea5c513796f41ea666b9a", func := "quilt/quiltlaw14.SequenceMoved", spec := "sequenceMoved", inPlace := ["internal/bytealg.CountString", "internal/bytealg.IndexByteString", "internal/bytealg.IndexString"], unfollowed := true, recurses := true, named := ["unicode/utf8.first", "unicode/utf8.acceptRanges", "internal/bytealg.MaxLen"], apart := false, laid := [("unicode/utf8.acceptRanges", laid_unicode_utf8_acceptRanges), ("unicode/utf8.first", laid_unicode_utf8_first)] }
def SequenceMovedSaid : Prop := sequenceMovedRow.holds Tryz.pinned (OpenSpec.ofChange sequenceMovedSpec)

/-- ITS FALSE NEIGHBOUR: 'it returns false'. Refute it at one input. -/
def sequenceMovedWrong : ChangeSpec := { name := "sequenceMoved", fn := fun _ => fun
  | [d1, d2, d3, d4] => { results := [.lit (.bool false)], args := [d1, d2, d3, d4] }
  | _ => none }
def SequenceMovedWrongFalsely : Prop := sequenceMovedRow.holds Tryz.pinned (OpenSpec.ofChange sequenceMovedWrong)

/-- 'quiltlaw14.SequenceCanceled': WHATEVER THE INPUT: true; the input reads as it did. -/
def sequenceCanceledSpec : ChangeSpec := { name := "sequenceCanceled", fn := fun _ => fun
  | [d1, d2] => { results := [.lit (.bool true)], args := [d1, d2] }
  | _ => none }
def sequenceCanceledRow : OpenClaim := { program := "ytfmgnaigcibcaaagreatdoor", sum := "144795057d9aa681f0c21d7331422bf50eda50f3718ea5c513796f41ea666b9a", func := "quilt/quiltlaw14.SequenceCanceled", spec := "sequenceCanceled", inPlace := ["internal/bytealg.CountString", "internal/bytealg.IndexByteString", "internal/bytealg.IndexString"], unfollowed := true, recurses := true, named := ["unicode/utf8.first", "unicode/utf8.acceptRanges", "internal/bytealg.MaxLen"], apart := false, laid := [("unicode/utf8.acceptRanges", laid_unicode_utf8_acceptRanges), ("unicode/utf8.first", laid_unicode_utf8_first)] }
def SequenceCanceledSaid : Prop := sequenceCanceledRow.holds Tryz.pinned (OpenSpec.ofChange sequenceCanceledSpec)

/-- ITS FALSE NEIGHBOUR: 'it returns false'. Refute it at one input. -/
def sequenceCanceledWrong : ChangeSpec := { name := "sequenceCanceled", fn := fun _ => fun
  | [d1, d2] => { results := [.lit (.bool false)], args := [d1, d2] }
  | _ => none }
def SequenceCanceledWrongFalsely : Prop := sequenceCanceledRow.holds Tryz.pinned (OpenSpec.ofChange sequenceCanceledWrong)

/-- 'quiltlaw14.SequenceSame': WHATEVER THE INPUT: true; the input reads as it did. -/
def sequenceSameSpec : ChangeSpec := { name := "sequenceSame", fn := fun _ => fun
  | [d1, d2, d3] => { results := [.lit (.bool true)], args := [d1, d2, d3] }
  | _ => none }
def sequenceSameRow : OpenClaim := { program := "ytfmgnaigcibcaaagreatdoor", sum := "144795057d9aa681f0c21d7331422bf50eda50f3718ea5c513796f41ea666b9a", func := "quilt/quiltlaw14.SequenceSame", spec := "sequenceSame", inPlace := ["internal/bytealg.CountString", "internal/bytealg.IndexByteString", "internal/bytealg.IndexString"], unfollowed := true, recurses := true, named := ["unicode/utf8.first", "unicode/utf8.acceptRanges", "internal/bytealg.MaxLen"], apart := false, laid := [("unicode/utf8.acceptRanges", laid_unicode_utf8_acceptRanges), ("unicode/utf8.first", laid_unicode_utf8_first)] }
def SequenceSameSaid : Prop := sequenceSameRow.holds Tryz.pinned (OpenSpec.ofChange sequenceSameSpec)

/-- ITS FALSE NEIGHBOUR: 'it returns false'. Refute it at one input. -/
def sequenceSameWrong : ChangeSpec := { name := "sequenceSame", fn := fun _ => fun
  | [d1, d2, d3] => { results := [.lit (.bool false)], args := [d1, d2, d3] }
  | _ => none }
def SequenceSameWrongFalsely : Prop := sequenceSameRow.holds Tryz.pinned (OpenSpec.ofChange sequenceSameWrong)

/-- 'quiltlaw13.PrimcommuteEffect': WHATEVER THE INPUT: true; the input reads as it did. -/
def primcommuteEffectSpec : ChangeSpec := { name := "primcommuteEffect", fn := fun _ => fun
  | [d1, d2, d3] => { results := [.lit (.bool true)], args := [d1, d2, d3] }
  | _ => none }
def primcommuteEffectRow : OpenClaim := { program := "ytfmgnaigcibcaaagreatdoor", sum := "144795057d9aa681f0c21d7331422bf50eda50f3718ea5c513796f41ea666b9a", func := "quilt/quiltlaw13.PrimcommuteEffect", spec := "primcommuteEffect", inPlace := ["internal/bytealg.CountString", "internal/bytealg.IndexByteString", "internal/bytealg.IndexString"], unfollowed := true, recurses := true, named := ["unicode/utf8.first", "unicode/utf8.acceptRanges", "internal/bytealg.MaxLen"], apart := false, laid := [("unicode/utf8.acceptRanges", laid_unicode_utf8_acceptRanges), ("unicode/utf8.first", laid_unicode_utf8_first)] }
def PrimcommuteEffectSaid : Prop := primcommuteEffectRow.holds Tryz.pinned (OpenSpec.ofChange primcommuteEffectSpec)

/-- ITS FALSE NEIGHBOUR: 'it returns false'. Refute it at one input. -/
def primcommuteEffectWrong : ChangeSpec := { name := "primcommuteEffect", fn := fun _ => fun
  | [d1, d2, d3] => { results := [.lit (.bool false)], args := [d1, d2, d3] }
  | _ => none }
def PrimcommuteEffectWrongFalsely : Prop := primcommuteEffectRow.holds Tryz.pinned (OpenSpec.ofChange primcommuteEffectWrong)

/-- 'quiltlaw15.PushoutEffect': WHATEVER THE INPUT: true; the input reads as it did. -/
def pushoutEffectSpec : ChangeSpec := { name := "pushoutEffect", fn := fun _ => fun
  | [d1, d2, d3] => { results := [.lit (.bool true)], args := [d1, d2, d3] }
  | _ => none }
def pushoutEffectRow : OpenClaim := { program := "ytfmgnaigcibcaaagreatdoor", sum := "144795057d9aa681f0c21d7331422bf50eda50f3718ea5c513796f41ea666b9a", func := "quilt/quiltlaw15.PushoutEffect", spec := "pushoutEffect", inPlace := ["internal/bytealg.CountString", "internal/bytealg.IndexByteString", "internal/bytealg.IndexString"], unfollowed := true, recurses := true, named := ["unicode/utf8.first", "unicode/utf8.acceptRanges", "internal/bytealg.MaxLen"], apart := false, laid := [("unicode/utf8.acceptRanges", laid_unicode_utf8_acceptRanges), ("unicode/utf8.first", laid_unicode_utf8_first)] }
def PushoutEffectSaid : Prop := pushoutEffectRow.holds Tryz.pinned (OpenSpec.ofChange pushoutEffectSpec)

/-- ITS FALSE NEIGHBOUR: 'it returns false'. Refute it at one input. -/
def pushoutEffectWrong : ChangeSpec := { name := "pushoutEffect", fn := fun _ => fun
  | [d1, d2, d3] => { results := [.lit (.bool false)], args := [d1, d2, d3] }
  | _ => none }
def PushoutEffectWrongFalsely : Prop := pushoutEffectRow.holds Tryz.pinned (OpenSpec.ofChange pushoutEffectWrong)

/- THE SECOND FORM. 'bulk': how many values and letters a reading holds, each counted each time it is reached (what is shared counts as often as it is met; a slice's spare places count too). A statement '..UptoSaid' is the law's where the arguments, and the package variables that the reading takes, are together of bulk at most 1048576: NARROWER than '..Said'. Prove '..Said' where nothing that the law and all that it calls make is longer than what came in: it says more and counts as full. Else prove '..UptoSaid'. A law counts once. -/
mutual
def uptoBulk {H : Type} : DataW H → Nat
  | .lit (.string bytes) => bytes.length + 1
  | .lit _ => 1
  | .nil => 1
  | .ptr d => uptoBulk d + 1
  | .slice elems spare => uptoBulkAll elems + uptoBulkAll spare + 1
  | .agg parts => uptoBulkAll parts + 1
  | .iface _ d => uptoBulk d + 1
  | .map entries => uptoBulkEntries entries + 1
  | .held _ => 1
def uptoBulkAll {H : Type} : List (DataW H) → Nat
  | [] => 0
  | d :: r => uptoBulk d + uptoBulkAll r
def uptoBulkEntries {H : Type} : List (Lit × DataW H) → Nat
  | [] => 0
  | x :: r => uptoBulkEntry x + uptoBulkEntries r
def uptoBulkEntry {H : Type} : Lit × DataW H → Nat
  | (.string bytes, d) => bytes.length + uptoBulk d + 1
  | (_, d) => uptoBulk d + 1
 end
def uptoSmall : (H : Type) → List (DataW H) → Bool := fun _ ds => decide (uptoBulkAll ds ≤ 1048576)
def OpenSpec.upto (s : _root_.Go.ChangeSpec) : _root_.Go.OpenSpec := { _root_.Go.OpenSpec.ofChange s with cond := some uptoSmall }

/-- 'quiltlaw12.PrimpatchApply', WHERE WHAT IT READS IS OF BULK AT MOST 1048576: true; the input reads as it did. -/
def primpatchApplyUptoRow : OpenClaim := { program := "ytfmgnaigcibcaaagreatdoor", sum := "144795057d9aa681f0c21d7331422bf50eda50f3718ea5c513796f41ea666b9a", func := "quilt/quiltlaw12.PrimpatchApply", spec := "primpatchApply", inPlace := ["internal/bytealg.CountString", "internal/bytealg.IndexByteString", "internal/bytealg.IndexString"], unfollowed := true, recurses := true, named := ["unicode/utf8.first", "unicode/utf8.acceptRanges", "internal/bytealg.MaxLen"], apart := false, laid := [("unicode/utf8.acceptRanges", laid_unicode_utf8_acceptRanges), ("unicode/utf8.first", laid_unicode_utf8_first)], narrowed := true }
def PrimpatchApplyUptoSaid : Prop := primpatchApplyUptoRow.holds Tryz.pinned (OpenSpec.upto primpatchApplySpec)

/-- 'quiltlaw14.SequenceApply', WHERE WHAT IT READS IS OF BULK AT MOST 1048576: true; the input reads as it did. -/
def sequenceApplyUptoRow : OpenClaim := { program := "ytfmgnaigcibcaaagreatdoor", sum := "144795057d9aa681f0c21d7331422bf50eda50f3718ea5c513796f41ea666b9a", func := "quilt/quiltlaw14.SequenceApply", spec := "sequenceApply", inPlace := ["internal/bytealg.CountString", "internal/bytealg.IndexByteString", "internal/bytealg.IndexString"], unfollowed := true, recurses := true, named := ["unicode/utf8.first", "unicode/utf8.acceptRanges", "internal/bytealg.MaxLen"], apart := false, laid := [("unicode/utf8.acceptRanges", laid_unicode_utf8_acceptRanges), ("unicode/utf8.first", laid_unicode_utf8_first)], narrowed := true }
def SequenceApplyUptoSaid : Prop := sequenceApplyUptoRow.holds Tryz.pinned (OpenSpec.upto sequenceApplySpec)

/-- 'quiltlaw14.SequenceInverse', WHERE WHAT IT READS IS OF BULK AT MOST 1048576: true; the input reads as it did. -/
def sequenceInverseUptoRow : OpenClaim := { program := "ytfmgnaigcibcaaagreatdoor", sum := "144795057d9aa681f0c21d7331422bf50eda50f3718ea5c513796f41ea666b9a", func := "quilt/quiltlaw14.SequenceInverse", spec := "sequenceInverse", inPlace := ["internal/bytealg.CountString", "internal/bytealg.IndexByteString", "internal/bytealg.IndexString"], unfollowed := true, recurses := true, named := ["unicode/utf8.first", "unicode/utf8.acceptRanges", "internal/bytealg.MaxLen"], apart := false, laid := [("unicode/utf8.acceptRanges", laid_unicode_utf8_acceptRanges), ("unicode/utf8.first", laid_unicode_utf8_first)], narrowed := true }
def SequenceInverseUptoSaid : Prop := sequenceInverseUptoRow.holds Tryz.pinned (OpenSpec.upto sequenceInverseSpec)

/-- 'quiltlaw14.SequenceMoved', WHERE WHAT IT READS IS OF BULK AT MOST 1048576: true; the input reads as it did. -/
def sequenceMovedUptoRow : OpenClaim := { program := "ytfmgnaigcibcaaagreatdoor", sum := "144795057d9aa681f0c21d7331422bf50eda50f3718ea5c513796f41ea666b9a", func := "quilt/quiltlaw14.SequenceMoved", spec := "sequenceMoved", inPlace := ["internal/bytealg.CountString", "internal/bytealg.IndexByteString", "internal/bytealg.IndexString"], unfollowed := true, recurses := true, named := ["unicode/utf8.first", "unicode/utf8.acceptRanges", "internal/bytealg.MaxLen"], apart := false, laid := [("unicode/utf8.acceptRanges", laid_unicode_utf8_acceptRanges), ("unicode/utf8.first", laid_unicode_utf8_first)], narrowed := true }
def SequenceMovedUptoSaid : Prop := sequenceMovedUptoRow.holds Tryz.pinned (OpenSpec.upto sequenceMovedSpec)

/-- 'quiltlaw14.SequenceCanceled', WHERE WHAT IT READS IS OF BULK AT MOST 1048576: true; the input reads as it did. -/
def sequenceCanceledUptoRow : OpenClaim := { program := "ytfmgnaigcibcaaagreatdoor", sum := "144795057d9aa681f0c21d7331422bf50eda50f3718ea5c513796f41ea666b9a", func := "quilt/quiltlaw14.SequenceCanceled", spec := "sequenceCanceled", inPlace := ["internal/bytealg.CountString", "internal/bytealg.IndexByteString", "internal/bytealg.IndexString"], unfollowed := true, recurses := true, named := ["unicode/utf8.first", "unicode/utf8.acceptRanges", "internal/bytealg.MaxLen"], apart := false, laid := [("unicode/utf8.acceptRanges", laid_unicode_utf8_acceptRanges), ("unicode/utf8.first", laid_unicode_utf8_first)], narrowed := true }
def SequenceCanceledUptoSaid : Prop := sequenceCanceledUptoRow.holds Tryz.pinned (OpenSpec.upto sequenceCanceledSpec)

/-- 'quiltlaw14.SequenceSame', WHERE WHAT IT READS IS OF BULK AT MOST 1048576: true; the input reads as it did. -/
def sequenceSameUptoRow : OpenClaim := { program := "ytfmgnaigcibcaaagreatdoor", sum := "144795057d9aa681f0c21d7331422bf50eda50f3718ea5c513796f41ea666b9a", func := "quilt/quiltlaw14.SequenceSame", spec := "sequenceSame", inPlace := ["internal/bytealg.CountString", "internal/bytealg.IndexByteString", "internal/bytealg.IndexString"], unfollowed := true, recurses := true, named := ["unicode/utf8.first", "unicode/utf8.acceptRanges", "internal/bytealg.MaxLen"], apart := false, laid := [("unicode/utf8.acceptRanges", laid_unicode_utf8_acceptRanges), ("unicode/utf8.first", laid_unicode_utf8_first)], narrowed := true }
def SequenceSameUptoSaid : Prop := sequenceSameUptoRow.holds Tryz.pinned (OpenSpec.upto sequenceSameSpec)

/-- 'quiltlaw13.PrimcommuteEffect', WHERE WHAT IT READS IS OF BULK AT MOST 1048576: true; the input reads as it did. -/
def primcommuteEffectUptoRow : OpenClaim := { program := "ytfmgnaigcibcaaagreatdoor", sum := "144795057d9aa681f0c21d7331422bf50eda50f3718ea5c513796f41ea666b9a", func := "quilt/quiltlaw13.PrimcommuteEffect", spec := "primcommuteEffect", inPlace := ["internal/bytealg.CountString", "internal/bytealg.IndexByteString", "internal/bytealg.IndexString"], unfollowed := true, recurses := true, named := ["unicode/utf8.first", "unicode/utf8.acceptRanges", "internal/bytealg.MaxLen"], apart := false, laid := [("unicode/utf8.acceptRanges", laid_unicode_utf8_acceptRanges), ("unicode/utf8.first", laid_unicode_utf8_first)], narrowed := true }
def PrimcommuteEffectUptoSaid : Prop := primcommuteEffectUptoRow.holds Tryz.pinned (OpenSpec.upto primcommuteEffectSpec)

/-- 'quiltlaw15.PushoutEffect', WHERE WHAT IT READS IS OF BULK AT MOST 1048576: true; the input reads as it did. -/
def pushoutEffectUptoRow : OpenClaim := { program := "ytfmgnaigcibcaaagreatdoor", sum := "144795057d9aa681f0c21d7331422bf50eda50f3718ea5c513796f41ea666b9a", func := "quilt/quiltlaw15.PushoutEffect", spec := "pushoutEffect", inPlace := ["internal/bytealg.CountString", "internal/bytealg.IndexByteString", "internal/bytealg.IndexString"], unfollowed := true, recurses := true, named := ["unicode/utf8.first", "unicode/utf8.acceptRanges", "internal/bytealg.MaxLen"], apart := false, laid := [("unicode/utf8.acceptRanges", laid_unicode_utf8_acceptRanges), ("unicode/utf8.first", laid_unicode_utf8_first)], narrowed := true }
def PushoutEffectUptoSaid : Prop := pushoutEffectUptoRow.holds Tryz.pinned (OpenSpec.upto pushoutEffectSpec)

end Rows
end Go.Proofs.YtfmgnaigcibcaaaGreatDoor
