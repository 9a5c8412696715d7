/- Walks: plain trees: room; a list of files cloned, written, sorted. -/
import Derived.Test.YtnjcifppkijanaaGreatDoorTd
import Derived.Test.YtnjcifppkijanaaGreatDoorTc
set_option linter.unusedSimpArgs false
set_option linter.unusedVariables false
namespace Go.Proofs.YtnjcifppkijanaaGreatDoor
open Go Go.RowKit

theorem found_some {l : List Pf} {s : ByteArray} {f : Pf} (h : Tr.find l s = some f) : Tr.found l s = .tuple #[f.v, .bool true] := by
  unfold Tr.found
  rw [h]
  rfl
theorem found_none {l : List Pf} {s : ByteArray} (h : Tr.find l s = none) : Tr.found l s = .tuple #[Pf.zero.v, .bool false] := by
  unfold Tr.found
  rw [h]
  rfl

/-! ### A list of files that owns its block -/
end Go.Proofs.YtnjcifppkijanaaGreatDoor
