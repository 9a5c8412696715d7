/- Walks: hunks. -/
import Derived.Test.YtgjphfmpodkgeaaGreatDoorBase
import Derived.Test.YtgjphfmpodkgeaaGreatDoorShelf
set_option linter.unusedSimpArgs false
set_option linter.unusedVariables false
namespace Go.Proofs.YtgjphfmpodkgeaaGreatDoor
open Go.RowKit

set_option maxHeartbeats 400000 in
theorem growth_any (h : Hv) (w : World) (hb : h.fair) :
    Calls Tryz.prog 90 #[h.v] w (Ret (.int .i64 h.growth) w) := by
  obtain ⟨hb1, hb2⟩ := hb
  go_enter Tryz.func90, Tryz.ntmps90
  have hx := Ext.refl w
  go_wp2
  (go_ret; refine Ret.mk ?_ ?_; (focus (rfl; done)); (focus ((repeat (first | with_reducible exact hx | with_reducible exact Ext.refl _ | with_reducible refine Ext.alloc ?_ _ | with_reducible refine Ext.drewN ?_ _ | with_reducible refine Ext.drew1 ?_ | ((with_reducible refine Ext.setCell ?_ ?_ _); rotate_left; (focus (first | (dsimp only; omega) | (simp; done) | (simp; omega)))))); done)))

set_option maxHeartbeats 400000 in
theorem end_any (h : Hv) (w : World) (hb : h.fair) (h1 : 0 ≤ h.at_) (h2 : h.at_ ≤ 1152921504606846976) :
    Calls Tryz.prog 105 #[h.v] w (Ret (.int .i64 (h.at_ + h.n1)) w) := by
  obtain ⟨hb1, hb2⟩ := hb
  go_enter Tryz.func105, Tryz.ntmps105
  have hx := Ext.refl w
  go_wp2
  (go_ret; refine Ret.mk ?_ ?_; (focus (rfl; done)); (focus ((repeat (first | with_reducible exact hx | with_reducible exact Ext.refl _ | with_reducible refine Ext.alloc ?_ _ | with_reducible refine Ext.drewN ?_ _ | with_reducible refine Ext.drew1 ?_ | ((with_reducible refine Ext.setCell ?_ ?_ _); rotate_left; (focus (first | (dsimp only; omega) | (simp; done) | (simp; omega)))))); done)))

set_option maxHeartbeats 400000 in
theorem shifted_any (h : Hv) (d : Int) (w : World) (h1 : -1152921504606846976 ≤ h.at_) (h2 : h.at_ ≤ 1152921504606846976) (h3 : -1152921504606846976 ≤ d) (h4 : d ≤ 1152921504606846976) :
    Calls Tryz.prog 89 #[h.v, .int .i64 d] w (Ret (.tuple #[(h.shift d).v, .bool (decide (h.at_ + d ≤ 1099511627776))]) w) := by
  go_enter Tryz.func89, Tryz.ntmps89
  have hx := Ext.refl w
  go_wp2
  go_region
  all_goals go_wp2
  all_goals (refine bodyPost_ret (v := .tuple #[(h.shift d).v, .bool (decide (h.at_ + d ≤ 1099511627776))]) ?_ rfl ?_; (focus (simp only [results, Tryz.results89]; go_simp; (try (simp [Hv.shift])); done)); refine Ret.mk rfl ?_; (focus ((repeat (first | with_reducible exact hx | with_reducible exact Ext.refl _ | with_reducible refine Ext.alloc ?_ _ | with_reducible refine Ext.drewN ?_ _ | with_reducible refine Ext.drew1 ?_ | ((with_reducible refine Ext.setCell ?_ ?_ _); rotate_left; (focus (first | (dsimp only; omega) | (simp; done) | (simp; omega)))))); done)))

set_option maxHeartbeats 400000 in
theorem both_any (hh kk : Hv) (b : Bool) (w : World) :
    Calls Tryz.prog 91 #[hh.v, kk.v, .bool b] w (Ret (if b then .tuple #[hh.v, kk.v, .bool true] else .tuple #[Hv.zero.v, Hv.zero.v, .bool false]) w) := by
  cases b
  ·
    go_enter Tryz.func91, Tryz.ntmps91
    have hx := Ext.refl w
    go_wp2
    (refine bodyPost_ret (v := .tuple #[Hv.zero.v, Hv.zero.v, .bool false]) ?_ rfl ?_; (focus (simp only [results, Tryz.results91]; go_simp; (try (simp [Hv.zero])); done)); refine Ret.mk rfl ?_; (focus ((repeat (first | with_reducible exact hx | with_reducible exact Ext.refl _ | with_reducible refine Ext.alloc ?_ _ | with_reducible refine Ext.drewN ?_ _ | with_reducible refine Ext.drew1 ?_ | ((with_reducible refine Ext.setCell ?_ ?_ _); rotate_left; (focus (first | (dsimp only; omega) | (simp; done) | (simp; omega)))))); done)))
  ·
    go_enter Tryz.func91, Tryz.ntmps91
    have hx := Ext.refl w
    go_wp2
    go_region
    all_goals go_wp2
    all_goals (refine bodyPost_ret (v := .tuple #[hh.v, kk.v, .bool true]) ?_ rfl ?_; (focus (simp only [results, Tryz.results91]; go_simp; (try (simp)); done)); refine Ret.mk rfl ?_; (focus ((repeat (first | with_reducible exact hx | with_reducible exact Ext.refl _ | with_reducible refine Ext.alloc ?_ _ | with_reducible refine Ext.drewN ?_ _ | with_reducible refine Ext.drew1 ?_ | ((with_reducible refine Ext.setCell ?_ ?_ _); rotate_left; (focus (first | (dsimp only; omega) | (simp; done) | (simp; omega)))))); done)))
end Go.Proofs.YtgjphfmpodkgeaaGreatDoor
