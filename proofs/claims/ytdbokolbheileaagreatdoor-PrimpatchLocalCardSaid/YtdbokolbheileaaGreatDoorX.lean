/- Walks: two patches commuted. -/
import Derived.Test.YtdbokolbheileaaGreatDoorW
import Derived.Test.YtdbokolbheileaaGreatDoorHeld
set_option linter.unusedSimpArgs false
set_option linter.unusedVariables false
namespace Go.Proofs.YtdbokolbheileaaGreatDoor
open Go.RowKit
attribute [local go_sem ↓] Go.wp_at_zero Go.wp_at_succ

/-- No list and no path of the patch is longer than memory. -/
def Qp.Fits (q : Qp) : Prop := q.old.length ≤ 1152921504606846976 ∧ q.new.length ≤ 1152921504606846976 ∧ q.path.size ≤ 1152921504606846976 ∧ q.to_.size ≤ 1152921504606846976
end Go.Proofs.YtdbokolbheileaaGreatDoor
