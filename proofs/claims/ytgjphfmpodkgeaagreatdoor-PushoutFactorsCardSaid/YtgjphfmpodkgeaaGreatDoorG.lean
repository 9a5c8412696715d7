/- Walks: IsText, content. -/
import Derived.Test.YtgjphfmpodkgeaaGreatDoorF2
set_option linter.unusedSimpArgs false
set_option linter.unusedVariables false
namespace Go.Proofs.YtgjphfmpodkgeaaGreatDoor
open Go.RowKit

set_option maxHeartbeats 800000 in
theorem isText_any (s : ByteArray) (w : World) : Calls Tryz.prog 133 #[.string s] w (Ret (.bool (Qm.isText s)) w) := by
  go_enter Tryz.func133, Tryz.ntmps133
  have hx := Ext.refl w
  go_wp2_with (go_at_call 134; refine (split_any _ _).mono ?_; rintro e w1 ⟨A, n, c, rfl, hx1, hl1⟩; replace hx := hx1)
  (go_ret; refine Ret.mk ?_ ?_; (focus (simp [Qm.isText]; done)); (focus ((repeat (first | with_reducible exact hx | with_reducible exact Ext.refl _ | with_reducible refine Ext.alloc ?_ _ | with_reducible refine Ext.drewN ?_ _ | with_reducible refine Ext.drew1 ?_ | ((with_reducible refine Ext.setCell ?_ ?_ _); rotate_left; (focus (first | (dsimp only; omega) | (simp; done) | (simp; omega)))))); done)))

set_option maxHeartbeats 800000 in
theorem content_any (k : Int) (s : ByteArray) (w : World) : Calls Tryz.prog 132 #[.int .i64 k, .string s] w (Ret (.int .i64 (Qm.content k s)) w) := by
  go_enter Tryz.func132, Tryz.ntmps132
  have hx := Ext.refl w
  go_wp2_with (go_at_call 133; refine (isText_any _ _).mono ?_; rintro e w1 ⟨rfl, hx0⟩; have hy := Ext.trans (a := w) (by (repeat (first | with_reducible exact hx | with_reducible exact Ext.refl _ | with_reducible refine Ext.alloc ?_ _ | with_reducible refine Ext.drewN ?_ _ | with_reducible refine Ext.drew1 ?_ | ((with_reducible refine Ext.setCell ?_ ?_ _); rotate_left; (focus (first | (dsimp only; omega) | (simp; done) | (simp; omega))))))) hx0; clear hx; have hx := hy; clear hy; skip; (try clear hx0))
  all_goals (go_ret; refine Ret.mk ?_ ?_; (focus (refine congrArg (Value.int .i64) ?_; unfold Qm.content; repeat' split; all_goals first | rfl | omega | simp_all; done)); (focus ((repeat (first | with_reducible exact hx | with_reducible exact Ext.refl _ | with_reducible refine Ext.alloc ?_ _ | with_reducible refine Ext.drewN ?_ _ | with_reducible refine Ext.drew1 ?_ | ((with_reducible refine Ext.setCell ?_ ?_ _); rotate_left; (focus (first | (dsimp only; omega) | (simp; done) | (simp; omega)))))); done)))
end Go.Proofs.YtgjphfmpodkgeaaGreatDoor
