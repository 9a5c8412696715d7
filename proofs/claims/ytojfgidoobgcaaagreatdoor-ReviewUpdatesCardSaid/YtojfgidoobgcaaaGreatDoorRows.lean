/-
  NARROWER THAN 'FOR EVERY INPUT', by the rows' own cells (each row's printed sentence says how): ReviewCheck: laid · ReviewLast: laid · ReviewActs: laid · ReviewStory: laid · ReviewUpdates: laid · ReviewApproval: laid.
  DERIVED. THE GIVEN ROWS OF THIS SEAT. 6 by the template 'for every input the law returns true; each argument reads behind the call as it read before'; 0 by the template 'total and deterministic' (their statements: YtojfgidoobgcaaaGreatDoorTotals.lean).
  GIVEN WITH THE SEED: the statements are not yours to turn. If you find one false, say at which input.
  Laid BY PROGRAM, IN A SANDBOX (cutbox-rows.mjs): the forced cells as the released guide's own fill.sh prints them over the translation 5a82422931f973c4… (all of the seat's roots in one cut). By AI agents, Wed Nov 11 2026. No macro, syntax, notation, axiom, sorry.
-/
import Derived.Test.YtojfgidoobgcaaaGreatDoorChecked
import GoSem.PinnedTables
import GoSem.Claim
import GoSem.ClaimJoined
import GoSem.ClaimMapViews
import Derived.JoinedTies
import Derived.KernelRfl
namespace Go.Proofs.YtojfgidoobgcaaaGreatDoor
/- THE CELL 'sum', in the pinned program and in every row, IS THE sha256 OF THE DUMP (.gsa) THAT YtojfgidoobgcaaaGreatDoorProg.lean LOADS. Nothing in Lean hashes anything: it is a label: what it is worth is what the hold of that sum in a sandbox is worth. -/
noncomputable def Tryz.pinned : Pinned := { name := "ytojfgidoobgcaaagreatdoor", sum := "5a82422931f973c4687d7de5325c00d6045dd5d81bdd08604e399249f1a73382", checked := Tryz.checked }
namespace Rows
def none {H : Type} : Left H := { results := [], args := [] }

/- WHAT THE LISTED PACKAGE-LEVEL VARIABLES READ AS WHEN THE CALL BEGINS. Each datum BY PROGRAM (the guide's laid-datum.mjs) off the statement by which the dump's own 'gosem.cut.vars' lays the variable. In a bare row this is a premise. The card (YtojfgidoobgcaaaGreatDoorCards.lean) ties it to the program's text. -/
def laid_unicode_utf8_acceptRanges {H : Type} : DataW H := .agg [.agg [.lit (.int .u8 128), .lit (.int .u8 191)], .agg [.lit (.int .u8 160), .lit (.int .u8 191)], .agg [.lit (.int .u8 128), .lit (.int .u8 159)], .agg [.lit (.int .u8 144), .lit (.int .u8 191)], .agg [.lit (.int .u8 128), .lit (.int .u8 143)], .agg [.lit (.int .u8 0), .lit (.int .u8 0)], .agg [.lit (.int .u8 0), .lit (.int .u8 0)], .agg [.lit (.int .u8 0), .lit (.int .u8 0)], .agg [.lit (.int .u8 0), .lit (.int .u8 0)], .agg [.lit (.int .u8 0), .lit (.int .u8 0)], .agg [.lit (.int .u8 0), .lit (.int .u8 0)], .agg [.lit (.int .u8 0), .lit (.int .u8 0)], .agg [.lit (.int .u8 0), .lit (.int .u8 0)], .agg [.lit (.int .u8 0), .lit (.int .u8 0)], .agg [.lit (.int .u8 0), .lit (.int .u8 0)], .agg [.lit (.int .u8 0), .lit (.int .u8 0)]]
/-- One of Go's own tables, pinned by name: the form's constant. -/
def laid_unicode_utf8_first : DataW Unit := Go.Pinned.utf8First

/-- 'quiltlaw55.ReviewCheck': WHATEVER THE INPUT: true; the input reads as it did. -/
def reviewCheckSpec : ChangeSpec := { name := "reviewCheck", fn := fun _ => fun
  | [d1, d2] => { results := [.lit (.bool true)], args := [d1, d2] }
  | _ => none }
def reviewCheckRow : OpenClaim := { program := "ytojfgidoobgcaaagreatdoor", sum := "5a82422931f973c4687d7de5325c00d6045dd5d81bdd08604e399249f1a73382", func := "quilt/quiltlaw55.ReviewCheck", spec := "reviewCheck", inPlace := ["internal/bytealg.CountString", "internal/bytealg.IndexByteString", "internal/bytealg.IndexString", "internal/bytealg.Compare"], unfollowed := true, recurses := true, named := ["unicode/utf8.first", "unicode/utf8.acceptRanges", "internal/bytealg.MaxLen"], apart := false, laid := [("unicode/utf8.acceptRanges", laid_unicode_utf8_acceptRanges), ("unicode/utf8.first", laid_unicode_utf8_first)] }
def ReviewCheckSaid : Prop := reviewCheckRow.holds Tryz.pinned (OpenSpec.ofChange reviewCheckSpec)

/-- ITS FALSE NEIGHBOUR: 'it returns false'. Refute it at one input. -/
def reviewCheckWrong : ChangeSpec := { name := "reviewCheck", fn := fun _ => fun
  | [d1, d2] => { results := [.lit (.bool false)], args := [d1, d2] }
  | _ => none }
def ReviewCheckWrongFalsely : Prop := reviewCheckRow.holds Tryz.pinned (OpenSpec.ofChange reviewCheckWrong)

/-- 'quiltlaw55.ReviewLast': WHATEVER THE INPUT: true; the input reads as it did. -/
def reviewLastSpec : ChangeSpec := { name := "reviewLast", fn := fun _ => fun
  | [d1, d2] => { results := [.lit (.bool true)], args := [d1, d2] }
  | _ => none }
def reviewLastRow : OpenClaim := { program := "ytojfgidoobgcaaagreatdoor", sum := "5a82422931f973c4687d7de5325c00d6045dd5d81bdd08604e399249f1a73382", func := "quilt/quiltlaw55.ReviewLast", spec := "reviewLast", inPlace := ["internal/bytealg.CountString", "internal/bytealg.IndexByteString", "internal/bytealg.IndexString", "internal/bytealg.Compare"], unfollowed := true, recurses := true, named := ["unicode/utf8.first", "unicode/utf8.acceptRanges", "internal/bytealg.MaxLen"], apart := false, laid := [("unicode/utf8.acceptRanges", laid_unicode_utf8_acceptRanges), ("unicode/utf8.first", laid_unicode_utf8_first)] }
def ReviewLastSaid : Prop := reviewLastRow.holds Tryz.pinned (OpenSpec.ofChange reviewLastSpec)

/-- ITS FALSE NEIGHBOUR: 'it returns false'. Refute it at one input. -/
def reviewLastWrong : ChangeSpec := { name := "reviewLast", fn := fun _ => fun
  | [d1, d2] => { results := [.lit (.bool false)], args := [d1, d2] }
  | _ => none }
def ReviewLastWrongFalsely : Prop := reviewLastRow.holds Tryz.pinned (OpenSpec.ofChange reviewLastWrong)

/-- 'quiltlaw55.ReviewActs': WHATEVER THE INPUT: true; the input reads as it did. -/
def reviewActsSpec : ChangeSpec := { name := "reviewActs", fn := fun _ => fun
  | [d1, d2] => { results := [.lit (.bool true)], args := [d1, d2] }
  | _ => none }
def reviewActsRow : OpenClaim := { program := "ytojfgidoobgcaaagreatdoor", sum := "5a82422931f973c4687d7de5325c00d6045dd5d81bdd08604e399249f1a73382", func := "quilt/quiltlaw55.ReviewActs", spec := "reviewActs", inPlace := ["internal/bytealg.CountString", "internal/bytealg.IndexByteString", "internal/bytealg.IndexString", "internal/bytealg.Compare"], unfollowed := true, recurses := true, named := ["unicode/utf8.first", "unicode/utf8.acceptRanges", "internal/bytealg.MaxLen"], apart := false, laid := [("unicode/utf8.acceptRanges", laid_unicode_utf8_acceptRanges), ("unicode/utf8.first", laid_unicode_utf8_first)] }
def ReviewActsSaid : Prop := reviewActsRow.holds Tryz.pinned (OpenSpec.ofChange reviewActsSpec)

/-- ITS FALSE NEIGHBOUR: 'it returns false'. Refute it at one input. -/
def reviewActsWrong : ChangeSpec := { name := "reviewActs", fn := fun _ => fun
  | [d1, d2] => { results := [.lit (.bool false)], args := [d1, d2] }
  | _ => none }
def ReviewActsWrongFalsely : Prop := reviewActsRow.holds Tryz.pinned (OpenSpec.ofChange reviewActsWrong)

/-- 'quiltlaw55.ReviewStory': WHATEVER THE INPUT: true; the input reads as it did. -/
def reviewStorySpec : ChangeSpec := { name := "reviewStory", fn := fun _ => fun
  | [d] => { results := [.lit (.bool true)], args := [d] }
  | _ => none }
def reviewStoryRow : OpenClaim := { program := "ytojfgidoobgcaaagreatdoor", sum := "5a82422931f973c4687d7de5325c00d6045dd5d81bdd08604e399249f1a73382", func := "quilt/quiltlaw55.ReviewStory", spec := "reviewStory", inPlace := ["internal/bytealg.CountString", "internal/bytealg.IndexByteString", "internal/bytealg.IndexString", "internal/bytealg.Compare"], unfollowed := true, recurses := true, named := ["unicode/utf8.first", "unicode/utf8.acceptRanges", "internal/bytealg.MaxLen"], apart := false, laid := [("unicode/utf8.acceptRanges", laid_unicode_utf8_acceptRanges), ("unicode/utf8.first", laid_unicode_utf8_first)] }
def ReviewStorySaid : Prop := reviewStoryRow.holds Tryz.pinned (OpenSpec.ofChange reviewStorySpec)

/-- ITS FALSE NEIGHBOUR: 'it returns false'. Refute it at one input. -/
def reviewStoryWrong : ChangeSpec := { name := "reviewStory", fn := fun _ => fun
  | [d] => { results := [.lit (.bool false)], args := [d] }
  | _ => none }
def ReviewStoryWrongFalsely : Prop := reviewStoryRow.holds Tryz.pinned (OpenSpec.ofChange reviewStoryWrong)

/-- 'quiltlaw55.ReviewUpdates': WHATEVER THE INPUT: true; the input reads as it did. -/
def reviewUpdatesSpec : ChangeSpec := { name := "reviewUpdates", fn := fun _ => fun
  | [d1, d2, d3] => { results := [.lit (.bool true)], args := [d1, d2, d3] }
  | _ => none }
def reviewUpdatesRow : OpenClaim := { program := "ytojfgidoobgcaaagreatdoor", sum := "5a82422931f973c4687d7de5325c00d6045dd5d81bdd08604e399249f1a73382", func := "quilt/quiltlaw55.ReviewUpdates", spec := "reviewUpdates", inPlace := ["internal/bytealg.CountString", "internal/bytealg.IndexByteString", "internal/bytealg.IndexString", "internal/bytealg.Compare"], unfollowed := true, recurses := true, named := ["unicode/utf8.first", "unicode/utf8.acceptRanges", "internal/bytealg.MaxLen"], apart := false, laid := [("unicode/utf8.acceptRanges", laid_unicode_utf8_acceptRanges), ("unicode/utf8.first", laid_unicode_utf8_first)] }
def ReviewUpdatesSaid : Prop := reviewUpdatesRow.holds Tryz.pinned (OpenSpec.ofChange reviewUpdatesSpec)

/-- ITS FALSE NEIGHBOUR: 'it returns false'. Refute it at one input. -/
def reviewUpdatesWrong : ChangeSpec := { name := "reviewUpdates", fn := fun _ => fun
  | [d1, d2, d3] => { results := [.lit (.bool false)], args := [d1, d2, d3] }
  | _ => none }
def ReviewUpdatesWrongFalsely : Prop := reviewUpdatesRow.holds Tryz.pinned (OpenSpec.ofChange reviewUpdatesWrong)

/-- 'quiltlaw55.ReviewApproval': WHATEVER THE INPUT: true; the input reads as it did. -/
def reviewApprovalSpec : ChangeSpec := { name := "reviewApproval", fn := fun _ => fun
  | [d] => { results := [.lit (.bool true)], args := [d] }
  | _ => none }
def reviewApprovalRow : OpenClaim := { program := "ytojfgidoobgcaaagreatdoor", sum := "5a82422931f973c4687d7de5325c00d6045dd5d81bdd08604e399249f1a73382", func := "quilt/quiltlaw55.ReviewApproval", spec := "reviewApproval", inPlace := ["internal/bytealg.CountString", "internal/bytealg.IndexByteString", "internal/bytealg.IndexString", "internal/bytealg.Compare"], unfollowed := true, recurses := true, named := ["unicode/utf8.first", "unicode/utf8.acceptRanges", "internal/bytealg.MaxLen"], apart := false, laid := [("unicode/utf8.acceptRanges", laid_unicode_utf8_acceptRanges), ("unicode/utf8.first", laid_unicode_utf8_first)] }
def ReviewApprovalSaid : Prop := reviewApprovalRow.holds Tryz.pinned (OpenSpec.ofChange reviewApprovalSpec)

/-- ITS FALSE NEIGHBOUR: 'it returns false'. Refute it at one input. -/
def reviewApprovalWrong : ChangeSpec := { name := "reviewApproval", fn := fun _ => fun
  | [d] => { results := [.lit (.bool false)], args := [d] }
  | _ => none }
def ReviewApprovalWrongFalsely : Prop := reviewApprovalRow.holds Tryz.pinned (OpenSpec.ofChange reviewApprovalWrong)

/- THE SECOND FORM. 'bulk': how many values and letters a reading holds, each counted each time it is reached (what is shared counts as often as it is met; a slice's spare places count too). A statement '..UptoSaid' is the law's where the arguments, and the package variables that the reading takes, are together of bulk at most 1048576: NARROWER than '..Said'. Prove '..Said' where nothing that the law and all that it calls make is longer than what came in: it says more and counts as full. Else prove '..UptoSaid'. A law counts once. -/
mutual
def uptoBulk {H : Type} : DataW H → Nat
  | .lit (.string bytes) => bytes.length + 1
  | .lit _ => 1
  | .nil => 1
  | .ptr d => uptoBulk d + 1
  | .slice elems spare => uptoBulkAll elems + uptoBulkAll spare + 1
  | .agg parts => uptoBulkAll parts + 1
  | .iface _ d => uptoBulk d + 1
  | .map entries => uptoBulkEntries entries + 1
  | .held _ => 1
def uptoBulkAll {H : Type} : List (DataW H) → Nat
  | [] => 0
  | d :: r => uptoBulk d + uptoBulkAll r
def uptoBulkEntries {H : Type} : List (Lit × DataW H) → Nat
  | [] => 0
  | x :: r => uptoBulkEntry x + uptoBulkEntries r
def uptoBulkEntry {H : Type} : Lit × DataW H → Nat
  | (.string bytes, d) => bytes.length + uptoBulk d + 1
  | (_, d) => uptoBulk d + 1
 end
def uptoSmall : (H : Type) → List (DataW H) → Bool := fun _ ds => decide (uptoBulkAll ds ≤ 1048576)
def OpenSpec.upto (s : _root_.Go.ChangeSpec) : _root_.Go.OpenSpec := { _root_.Go.OpenSpec.ofChange s with cond := some uptoSmall }

/-- 'quiltlaw55.ReviewCheck', WHERE WHAT IT READS IS OF BULK AT MOST 1048576: true; the input reads as it did. -/
def reviewCheckUptoRow : OpenClaim := { program := "ytojfgidoobgcaaagreatdoor", sum := "5a82422931f973c4687d7de5325c00d6045dd5d81bdd08604e399249f1a73382", func := "quilt/quiltlaw55.ReviewCheck", spec := "reviewCheck", inPlace := ["internal/bytealg.CountString", "internal/bytealg.IndexByteString", "internal/bytealg.IndexString", "internal/bytealg.Compare"], unfollowed := true, recurses := true, named := ["unicode/utf8.first", "unicode/utf8.acceptRanges", "internal/bytealg.MaxLen"], apart := false, laid := [("unicode/utf8.acceptRanges", laid_unicode_utf8_acceptRanges), ("unicode/utf8.first", laid_unicode_utf8_first)], narrowed := true }
def ReviewCheckUptoSaid : Prop := reviewCheckUptoRow.holds Tryz.pinned (OpenSpec.upto reviewCheckSpec)

/-- 'quiltlaw55.ReviewLast', WHERE WHAT IT READS IS OF BULK AT MOST 1048576: true; the input reads as it did. -/
def reviewLastUptoRow : OpenClaim := { program := "ytojfgidoobgcaaagreatdoor", sum := "5a82422931f973c4687d7de5325c00d6045dd5d81bdd08604e399249f1a73382", func := "quilt/quiltlaw55.ReviewLast", spec := "reviewLast", inPlace := ["internal/bytealg.CountString", "internal/bytealg.IndexByteString", "internal/bytealg.IndexString", "internal/bytealg.Compare"], unfollowed := true, recurses := true, named := ["unicode/utf8.first", "unicode/utf8.acceptRanges", "internal/bytealg.MaxLen"], apart := false, laid := [("unicode/utf8.acceptRanges", laid_unicode_utf8_acceptRanges), ("unicode/utf8.first", laid_unicode_utf8_first)], narrowed := true }
def ReviewLastUptoSaid : Prop := reviewLastUptoRow.holds Tryz.pinned (OpenSpec.upto reviewLastSpec)

/-- 'quiltlaw55.ReviewActs', WHERE WHAT IT READS IS OF BULK AT MOST 1048576: true; the input reads as it did. -/
def reviewActsUptoRow : OpenClaim := { program := "ytojfgidoobgcaaagreatdoor", sum := "5a82422931f973c4687d7de5325c00d6045dd5d81bdd08604e399249f1a73382", func := "quilt/quiltlaw55.ReviewActs", spec := "reviewActs", inPlace := ["internal/bytealg.CountString", "internal/bytealg.IndexByteString", "internal/bytealg.IndexString", "internal/bytealg.Compare"], unfollowed := true, recurses := true, named := ["unicode/utf8.first", "unicode/utf8.acceptRanges", "internal/bytealg.MaxLen"], apart := false, laid := [("unicode/utf8.acceptRanges", laid_unicode_utf8_acceptRanges), ("unicode/utf8.first", laid_unicode_utf8_first)], narrowed := true }
def ReviewActsUptoSaid : Prop := reviewActsUptoRow.holds Tryz.pinned (OpenSpec.upto reviewActsSpec)

/-- 'quiltlaw55.ReviewStory', WHERE WHAT IT READS IS OF BULK AT MOST 1048576: true; the input reads as it did. -/
def reviewStoryUptoRow : OpenClaim := { program := "ytojfgidoobgcaaagreatdoor", sum := "5a82422931f973c4687d7de5325c00d6045dd5d81bdd08604e399249f1a73382", func := "quilt/quiltlaw55.ReviewStory", spec := "reviewStory", inPlace := ["internal/bytealg.CountString", "internal/bytealg.IndexByteString", "internal/bytealg.IndexString", "internal/bytealg.Compare"], unfollowed := true, recurses := true, named := ["unicode/utf8.first", "unicode/utf8.acceptRanges", "internal/bytealg.MaxLen"], apart := false, laid := [("unicode/utf8.acceptRanges", laid_unicode_utf8_acceptRanges), ("unicode/utf8.first", laid_unicode_utf8_first)], narrowed := true }
def ReviewStoryUptoSaid : Prop := reviewStoryUptoRow.holds Tryz.pinned (OpenSpec.upto reviewStorySpec)

/-- 'quiltlaw55.ReviewUpdates', WHERE WHAT IT READS IS OF BULK AT MOST 1048576: true; the input reads as it did. -/
def reviewUpdatesUptoRow : OpenClaim := { program := "ytojfgidoobgcaaagreatdoor", sum := "5a82422931f973c4687d7de5325c00d6045dd5d81bdd08604e399249f1a73382", func := "quilt/quiltlaw55.ReviewUpdates", spec := "reviewUpdates", inPlace := ["internal/bytealg.CountString", "internal/bytealg.IndexByteString", "internal/bytealg.IndexString", "internal/bytealg.Compare"], unfollowed := true, recurses := true, named := ["unicode/utf8.first", "unicode/utf8.acceptRanges", "internal/bytealg.MaxLen"], apart := false, laid := [("unicode/utf8.acceptRanges", laid_unicode_utf8_acceptRanges), ("unicode/utf8.first", laid_unicode_utf8_first)], narrowed := true }
def ReviewUpdatesUptoSaid : Prop := reviewUpdatesUptoRow.holds Tryz.pinned (OpenSpec.upto reviewUpdatesSpec)

/-- 'quiltlaw55.ReviewApproval', WHERE WHAT IT READS IS OF BULK AT MOST 1048576: true; the input reads as it did. -/
def reviewApprovalUptoRow : OpenClaim := { program := "ytojfgidoobgcaaagreatdoor", sum := "5a82422931f973c4687d7de5325c00d6045dd5d81bdd08604e399249f1a73382", func := "quilt/quiltlaw55.ReviewApproval", spec := "reviewApproval", inPlace := ["internal/bytealg.CountString", "internal/bytealg.IndexByteString", "internal/bytealg.IndexString", "internal/bytealg.Compare"], unfollowed := true, recurses := true, named := ["unicode/utf8.first", "unicode/utf8.acceptRanges", "internal/bytealg.MaxLen"], apart := false, laid := [("unicode/utf8.acceptRanges", laid_unicode_utf8_acceptRanges), ("unicode/utf8.first", laid_unicode_utf8_first)], narrowed := true }
def ReviewApprovalUptoSaid : Prop := reviewApprovalUptoRow.holds Tryz.pinned (OpenSpec.upto reviewApprovalSpec)

end Rows
end Go.Proofs.YtojfgidoobgcaaaGreatDoor
