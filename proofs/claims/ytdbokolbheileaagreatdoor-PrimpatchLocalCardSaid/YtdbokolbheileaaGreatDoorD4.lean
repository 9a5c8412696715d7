/- Walks: two hunks exchanged: the second one lies behind the first one, or before it. -/
import Derived.Test.YtdbokolbheileaaGreatDoorD
import Derived.Deep.RegionHeld3
import Derived.Deep.DrawnRows
import Derived.Deep.CutBlock
import Derived.Deep.DeepCutAuto
set_option linter.unusedSimpArgs false
set_option linter.unusedVariables false
namespace Go.Proofs.YtdbokolbheileaaGreatDoor
open Go.RowKit
attribute [local go_sem ↓] Go.wp_at_zero Go.wp_at_succ
theorem new_at {W w1 : World} {cs : Array Value} {t : TypeId} (hx : Ext (W.alloc (.cells cs t)) w1) : Blk w1 W.heap.size t cs := Blk.ext hx (Blk.new' rfl)
end Go.Proofs.YtdbokolbheileaaGreatDoor
