/- Two patches of the same tree merged; operations taken first. No condition. -/
import Derived.Test.YtlbhaimfjfdppaaGreatDoorCb
import Derived.Test.YtlbhaimfjfdppaaGreatDoorAp
set_option linter.unusedSimpArgs false
set_option linter.unusedVariables false
namespace Go.Proofs.YtlbhaimfjfdppaaGreatDoor
open Go.RowKit
attribute [local go_sem ↓] Go.wp_at_zero Go.wp_at_succ

/-- Two patches of the same tree merged. -/
def Qp.merge (a b : Qp) : Qp × Qp × Bool :=
  if a.check ≠ 0 then (Qp.zero, Qp.zero, false) else if (a.inv.commute b).2.2 then ((a.inv.commute b).1, (a.inv.commute b).2.1.inv, true) else (Qp.zero, Qp.zero, false)
section
variable {P : Program} {ops : Array Oper} {Q : Exit → Act → World → Prop} {md : Region.Mode} {S : World → Prop}
end

end Go.Proofs.YtlbhaimfjfdppaaGreatDoor
