/- Walks: the check of one hunk. -/
import Derived.Test.YtgjphfmpodkgeaaGreatDoorBase
import Derived.Test.YtgjphfmpodkgeaaGreatDoorShelf
set_option linter.unusedSimpArgs false
set_option linter.unusedVariables false
namespace Go.Proofs.YtgjphfmpodkgeaaGreatDoor
open Go.RowKit

set_option maxHeartbeats 2000000 in
set_option maxRecDepth 100000 in
theorem hcheck_any (h : Hv) (bX : Nat) (w : World) (hb : h.fair) (hbX : Blk w bX 37 #[.int .i64 h.at_, .slice h.A1 h.n1 h.c1, .slice h.A2 h.n2 h.c2]) :
    Calls Tryz.prog 99 #[.slice (some ⟨bX, 0, none⟩) 1 1] w (Ret (.int .i64 h.check) w) := by
  obtain ⟨hb1, hb2⟩ := hb
  have hcX := hbX.cell
  have hfX := hbX.frozen
  have hlX := hbX.lt
  have hneX : w.heap.size ≠ bX := by omega
  go_enter Tryz.func99, Tryz.ntmps99
  have hx := Ext.refl w
  go_wp2
  refine wp_loop_rounds 2 ?_
  rw [rounds_succ]
  go_wp2
  · (go_ret; refine Ret.mk ?_ ?_; (focus (simp [Hv.check]; omega; done)); (focus ((repeat (first | with_reducible exact hx | with_reducible exact Ext.refl _ | with_reducible refine Ext.alloc ?_ _ | with_reducible refine Ext.drewN ?_ _ | with_reducible refine Ext.drew1 ?_ | ((with_reducible refine Ext.setCell ?_ ?_ _); rotate_left; (focus (first | (dsimp only; omega) | (simp; done) | (simp; omega)))))); done)))
  · (go_ret; refine Ret.mk ?_ ?_; (focus (have h0 : (h.n1 : Int) + h.n2 = 0 := (by simpa using ‹((h.n1 : Int) + h.n2 == 0) = true›); have h1 : h.n1 + h.n2 = 0 := (by omega); simp [Hv.check, h1]; omega; done)); (focus ((repeat (first | with_reducible exact hx | with_reducible exact Ext.refl _ | with_reducible refine Ext.alloc ?_ _ | with_reducible refine Ext.drewN ?_ _ | with_reducible refine Ext.drew1 ?_ | ((with_reducible refine Ext.setCell ?_ ?_ _); rotate_left; (focus (first | (dsimp only; omega) | (simp; done) | (simp; omega)))))); done)))
  · go_quiet (fail)
    go_wp2
    rw [rounds_succ]
    go_wp2
    (go_ret; refine Ret.mk ?_ ?_; (focus (have h0 : ¬ (h.n1 : Int) + h.n2 = 0 := (by simpa using ‹((h.n1 : Int) + h.n2 == 0) = false›); have h1 : ¬ h.n1 + h.n2 = 0 := (by omega); have hck : h.check = 0 := (by simp only [Hv.check, h1, if_false]; rw [if_neg (by omega)]); rw [hck]; rfl; done)); (focus ((repeat (first | with_reducible exact hx | with_reducible exact Ext.refl _ | with_reducible refine Ext.alloc ?_ _ | with_reducible refine Ext.drewN ?_ _ | with_reducible refine Ext.drew1 ?_ | ((with_reducible refine Ext.setCell ?_ ?_ _); rotate_left; (focus (first | (dsimp only; omega) | (simp; done) | (simp; omega)))))); done)))
  · (go_ret; refine Ret.mk ?_ ?_; (focus (simp [Hv.check]; omega; done)); (focus ((repeat (first | with_reducible exact hx | with_reducible exact Ext.refl _ | with_reducible refine Ext.alloc ?_ _ | with_reducible refine Ext.drewN ?_ _ | with_reducible refine Ext.drew1 ?_ | ((with_reducible refine Ext.setCell ?_ ?_ _); rotate_left; (focus (first | (dsimp only; omega) | (simp; done) | (simp; omega)))))); done)))

set_option maxHeartbeats 1000000 in
theorem hvalid_any (h : Hv) (w : World) (hb : h.fair) :
    Calls Tryz.prog 88 #[h.v] w (Ret (.bool (h.check == 0)) w) := by
  go_enter Tryz.func88, Tryz.ntmps88
  have hx := Ext.refl w
  go_wp2_with (go_at_call 99; refine (hcheck_any h _ _ hb (Blk.new' (by simp))).mono ?_; rintro e w1 ⟨rfl, hx0⟩; have hy := Ext.trans (a := w) (by (repeat (first | with_reducible exact hx | with_reducible exact Ext.refl _ | with_reducible refine Ext.alloc ?_ _ | with_reducible refine Ext.drewN ?_ _ | with_reducible refine Ext.drew1 ?_ | ((with_reducible refine Ext.setCell ?_ ?_ _); rotate_left; (focus (first | (dsimp only; omega) | (simp; done) | (simp; omega))))))) hx0; clear hx; have hx := hy; clear hy; skip; (try clear hx0))
  (go_ret; refine Ret.mk ?_ ?_; (focus (rfl; done)); (focus ((repeat (first | with_reducible exact hx | with_reducible exact Ext.refl _ | with_reducible refine Ext.alloc ?_ _ | with_reducible refine Ext.drewN ?_ _ | with_reducible refine Ext.drew1 ?_ | ((with_reducible refine Ext.setCell ?_ ?_ _); rotate_left; (focus (first | (dsimp only; omega) | (simp; done) | (simp; omega)))))); done)))
end Go.Proofs.YtgjphfmpodkgeaaGreatDoor
