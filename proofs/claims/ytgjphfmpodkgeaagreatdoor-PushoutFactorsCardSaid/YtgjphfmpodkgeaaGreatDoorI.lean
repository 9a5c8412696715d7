/- Walks: the action of a patch. -/
import Derived.Test.YtgjphfmpodkgeaaGreatDoorH3
set_option linter.unusedSimpArgs false
set_option linter.unusedVariables false
namespace Go.Proofs.YtgjphfmpodkgeaaGreatDoor
open Go.RowKit

/-- The action's type; 0: none. -/
def Pv.act (p : Pv) : Value :=
  if p.kind = 1 ∨ p.kind = 3 then .iface 102 p.v
  else if p.kind = 2 ∨ p.kind = 4 then .iface 103 p.v
  else if p.kind = 5 then .iface 104 p.v
  else if p.kind = 6 ∨ p.kind = 7 ∨ p.kind = 8 then .iface 105 p.v
  else .nilIface

set_option maxHeartbeats 1600000 in
theorem action_any (p : Pv) (w : World) : Calls Tryz.prog 56 #[p.v] w (Ret p.act w) := by
  go_enter Tryz.func56, Tryz.ntmps56
  have hx := Ext.refl w
  go_wp2
  all_goals (go_ret; refine Ret.mk ?_ ?_; (focus (unfold Pv.act; repeat' split; all_goals first | rfl | omega | (simp_all; done); done)); (focus ((repeat (first | with_reducible exact hx | with_reducible exact Ext.refl _ | with_reducible refine Ext.alloc ?_ _ | with_reducible refine Ext.drewN ?_ _ | with_reducible refine Ext.drew1 ?_ | ((with_reducible refine Ext.setCell ?_ ?_ _); rotate_left; (focus (first | (dsimp only; omega) | (simp; done) | (simp; omega)))))); done)))
end Go.Proofs.YtgjphfmpodkgeaaGreatDoor
