/- Walks: plain trees: each, Find. -/
import Derived.Test.YtnjcifppkijanaaGreatDoorTm
import Derived.Test.YtnjcifppkijanaaGreatDoorTu
import Derived.Test.YtnjcifppkijanaaGreatDoorRange
import Derived.Test.YtnjcifppkijanaaGreatDoorBase
import Derived.RangeFuncNested
import Derived.RangeFuncBound
import Derived.RangeFuncLeaves
import Derived.Shelf.Abstract
import Derived.Shelf.RegionOpen
import Derived.OwnWalkIn
import Derived.TacticsInMore
import Derived.LoopNIn
import Derived.LoopIn
set_option linter.unusedSimpArgs false
set_option linter.unusedVariables false
namespace Go.Proofs.YtnjcifppkijanaaGreatDoor
open Go Go.RowKit Go.Shelf
attribute [local go_sem] Oper.semAt_some

/-- What Find hands back. -/
def Tr.found (l : List Pf) (s : ByteArray) : Value := .tuple #[((Tr.find l s).getD Pf.zero).v, .bool (Tr.find l s).isSome]
end Go.Proofs.YtnjcifppkijanaaGreatDoor
