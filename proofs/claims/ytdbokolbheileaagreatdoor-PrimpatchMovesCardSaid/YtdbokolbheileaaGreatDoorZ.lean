/- Walks: is a patch larger than the statements use? Walks: two equal patches are the same. -/
import Derived.Test.YtdbokolbheileaaGreatDoorX
set_option linter.unusedSimpArgs false
set_option linter.unusedVariables false
namespace Go.Proofs.YtdbokolbheileaaGreatDoor
open Go.RowKit
attribute [local go_sem ↓] Go.wp_at_zero Go.wp_at_succ

/-- A hunk's slice. -/
abbrev harr (p : Pv) : Array Value := #[.int .i64 p.at_, .slice p.A1 p.n1 p.c1, .slice p.A2 p.n2 p.c2]
end Go.Proofs.YtdbokolbheileaaGreatDoor
namespace Go.Proofs.YtdbokolbheileaaGreatDoor
open Go.RowKit
attribute [local go_sem ↓] Go.wp_at_zero Go.wp_at_succ

end Go.Proofs.YtdbokolbheileaaGreatDoor
