import Derived.Test.YtlbhaimfjfdppaaGreatDoorRange
import Derived.Test.YtlbhaimfjfdppaaGreatDoorBase
import Derived.RangeFuncNested
import Derived.RangeFuncBound
import Derived.RangeFuncLeaves
import Derived.Shelf.Abstract
import Derived.Shelf.RegionOpen
import Derived.OwnWalkIn
import Derived.TacticsInMore
import Derived.LoopNIn
import Derived.LoopIn
import Derived.Test.YtlbhaimfjfdppaaGreatDoorCl
import Derived.Deep.RegionLaw
import Derived.Test.YtlbhaimfjfdppaaGreatDoorMe
set_option linter.unusedSimpArgs false
set_option linter.unusedVariables false
namespace Go.Proofs.YtlbhaimfjfdppaaGreatDoor
open Go Go.RowKit Go.Shelf
attribute [local go_sem] Oper.semAt_some
namespace Sq
def prow (n d:Nat):List (Nat × Nat):=(List.range (n - d)).map fun i=>(i,i+d)
def prows (n d:Nat):List (Nat × Nat):=(List.range' d (n - d)).flatMap (prow n)
def pairs (n:Nat):List (Nat × Nat):=prows n 1
end Sq
end Go.Proofs.YtlbhaimfjfdppaaGreatDoor
namespace Go.Proofs.YtlbhaimfjfdppaaGreatDoor
open Go Go.RowKit
attribute [local go_sem ↓] Go.wp_at_zero Go.wp_at_succ
end Go.Proofs.YtlbhaimfjfdppaaGreatDoor
namespace Go.Proofs.YtlbhaimfjfdppaaGreatDoor
open Go Go.RowKit Go.Shelf
attribute [local go_sem] Oper.semAt_some
namespace Sq
end Sq
namespace Sq
end Sq
attribute [local go_sem ↓] Go.wp_at_zero Go.wp_at_succ
end Go.Proofs.YtlbhaimfjfdppaaGreatDoor
