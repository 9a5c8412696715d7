/- Walks: the checks of moving and of editing; tidy. -/
import Derived.Test.YtgjphfmpodkgeaaGreatDoorH
set_option linter.unusedSimpArgs false
set_option linter.unusedVariables false
namespace Go.Proofs.YtgjphfmpodkgeaaGreatDoor
open Go.RowKit

set_option maxHeartbeats 1600000 in
theorem movCheck_any (p : Pv) (w : World) (h1 : p.path.size ≤ 4611686018427387904) (h2 : p.to_.size ≤ 4611686018427387904) : Calls Tryz.prog 144 #[p.v] w (Ret (.int .i64 p.movCheck) w) := by
  go_enter Tryz.func144, Tryz.ntmps144
  have hx := Ext.refl w
  go_wp2_with (go_at_call 146; refine (pbelow_any _ _ _ (by assumption)).mono ?_; rintro e w1 ⟨rfl, hx0⟩; have hy := Ext.trans (a := w) (by (repeat (first | with_reducible exact hx | with_reducible exact Ext.refl _ | with_reducible refine Ext.alloc ?_ _ | with_reducible refine Ext.drewN ?_ _ | with_reducible refine Ext.drew1 ?_ | ((with_reducible refine Ext.setCell ?_ ?_ _); rotate_left; (focus (first | (dsimp only; omega) | (simp; done) | (simp; omega))))))) hx0; clear hx; have hx := hy; clear hy; have hn0 := Below.block hx0 (w.heap.size) (by first | (simp; done) | (simp; omega) | omega); (first | simp [↓heap_drew_at, ↓heap_drewN_at, ↓heap_alloc_at, ↓heap_set_at, ne_two, ne_three, ne_two_left, ne_three_left, ↓hb0.eq, hb0.lt, hb0.ne] at hn0 | simp [↓heap_drew_at, ↓heap_drewN_at, ↓heap_alloc_at, ↓heap_set_at, ne_two, ne_three, ne_two_left, ne_three_left] at hn0); (try clear hb0 hc0 hf0 hl0); have hb0 := Blk.mk hn0; clear hn0; have hc0 := hb0.cell; have hf0 := hb0.frozen; have hl0 := hb0.lt; (try clear hx0))
  all_goals (go_ret; refine Ret.mk ?_ ?_; (focus (refine congrArg (Value.int .i64) ?_; unfold Pv.movCheck; repeat' split; all_goals first | rfl | omega | simp_all [Qm.eqB]; done)); (focus ((repeat (first | with_reducible exact hx | with_reducible exact Ext.refl _ | with_reducible refine Ext.alloc ?_ _ | with_reducible refine Ext.drewN ?_ _ | with_reducible refine Ext.drew1 ?_ | ((with_reducible refine Ext.setCell ?_ ?_ _); rotate_left; (focus (first | (dsimp only; omega) | (simp; done) | (simp; omega)))))); done)))

/-- editing.check, but for the lines. -/
def Pv.edCheck (p : Pv) : Int :=
  if p.kind = 7 then (if p.off < 0 ∨ 65536 < p.off then 2 else if 65536 < p.so.size ∨ 65536 < p.sn.size then 4 else if Qm.eqB p.so p.sn = true then 1 else 0)
  else if p.om < 0 ∨ 511 < p.om ∨ p.nm < 0 ∨ 511 < p.nm then 2 else if p.om = p.nm then 1 else 0

theorem ed_same (p : Pv) (h7 : (p.kind == 7) = true) (d : 0 ≤ p.off ∧ p.off ≤ 65536) (f : (p.so.size : Int) ≤ 65536 ∧ (p.sn.size : Int) ≤ 65536) (g : (p.so.toList == p.sn.toList) = true) : p.edCheck = 1 := by
  unfold Pv.edCheck
  rw [if_pos (by simpa using h7), if_neg (by omega), if_neg (by omega), if_pos (by rw [Qm.eqB]; exact g)]
theorem ed_other (p : Pv) (h7 : (p.kind == 7) = true) (d : 0 ≤ p.off ∧ p.off ≤ 65536) (f : (p.so.size : Int) ≤ 65536 ∧ (p.sn.size : Int) ≤ 65536) (g : (p.so.toList == p.sn.toList) = false) : p.edCheck = 0 := by
  unfold Pv.edCheck
  rw [if_pos (by simpa using h7), if_neg (by omega), if_neg (by omega), if_neg (by rw [Qm.eqB, g]; exact Bool.false_ne_true)]

set_option maxHeartbeats 1600000 in
theorem edCheck_any (p : Pv) (w : World) (h6 : p.kind ≠ 6) : Calls Tryz.prog 148 #[p.v] w (Ret (.int .i64 p.edCheck) w) := by
  go_enter Tryz.func148, Tryz.ntmps148
  have hx := Ext.refl w
  go_wp2
  all_goals (go_ret; refine Ret.mk ?_ ?_; (focus (refine congrArg (Value.int .i64) ?_; first | (refine (ed_same p ?_ ?_ ?_ ?_).symm <;> assumption) | (refine (ed_other p ?_ ?_ ?_ ?_).symm <;> assumption) | (unfold Pv.edCheck; repeat' split; all_goals first | rfl | omega | (simp_all [Qm.eqB]; done)); done)); (focus ((repeat (first | with_reducible exact hx | with_reducible exact Ext.refl _ | with_reducible refine Ext.alloc ?_ _ | with_reducible refine Ext.drewN ?_ _ | with_reducible refine Ext.drew1 ?_ | ((with_reducible refine Ext.setCell ?_ ?_ _); rotate_left; (focus (first | (dsimp only; omega) | (simp; done) | (simp; omega)))))); done)))
end Go.Proofs.YtgjphfmpodkgeaaGreatDoor
