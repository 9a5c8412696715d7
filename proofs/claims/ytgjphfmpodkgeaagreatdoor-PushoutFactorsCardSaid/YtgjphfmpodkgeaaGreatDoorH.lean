/- Walks: the four actions: check and invert; whole. -/
import Derived.Test.YtgjphfmpodkgeaaGreatDoorG
import Derived.Test.YtgjphfmpodkgeaaGreatDoorE2
set_option linter.unusedSimpArgs false
set_option linter.unusedVariables false
namespace Go.Proofs.YtgjphfmpodkgeaaGreatDoor
open Go.RowKit

def Pv.whole (p : Pv) (mode : Int) (data : ByteArray) : Int :=
  if p.ty < 1 ∨ 3 < p.ty then 8 else if mode < 0 ∨ 511 < mode then 2 else Qm.content p.ty data
def Pv.addCheck (p : Pv) : Int := if p.kind = 3 then 0 else p.whole p.nm p.sn
def Pv.remCheck (p : Pv) : Int := if p.kind = 4 then 0 else p.whole p.om p.so
def Pv.movCheck (p : Pv) : Int := if Qm.eqB p.to_ p.path = true ∨ Qm.below p.to_ p.path = true ∨ Qm.below p.path p.to_ = true then 20 else 0
def Pv.zero : Pv := ⟨0, ⟨#[]⟩, ⟨#[]⟩, 0, 0, none, 0, 0, none, 0, 0, 0, ⟨#[]⟩, ⟨#[]⟩, 0, 0⟩
def Pv.addInv (p : Pv) : Pv := if p.kind = 3 then { Pv.zero with kind := 4, path := p.path } else { Pv.zero with kind := 2, path := p.path, ty := p.ty, om := p.nm, so := p.sn }
def Pv.remInv (p : Pv) : Pv := if p.kind = 4 then { Pv.zero with kind := 3, path := p.path } else { Pv.zero with kind := 1, path := p.path, ty := p.ty, nm := p.om, sn := p.so }
def Pv.movInv (p : Pv) : Pv := { Pv.zero with kind := 5, path := p.to_, to_ := p.path }

set_option maxHeartbeats 1600000 in
theorem whole_any (p : Pv) (m : Int) (d : ByteArray) (w : World) :
    Calls Tryz.prog 131 #[p.v, .int .i64 m, .string d] w (Ret (.int .i64 (p.whole m d)) w) := by
  go_enter Tryz.func131, Tryz.ntmps131
  have hx := Ext.refl w
  go_wp2_with (go_at_call 132; refine (content_any _ _ _).mono ?_; rintro e w1 ⟨rfl, hx0⟩; have hy := Ext.trans (a := w) (by (repeat (first | with_reducible exact hx | with_reducible exact Ext.refl _ | with_reducible refine Ext.alloc ?_ _ | with_reducible refine Ext.drewN ?_ _ | with_reducible refine Ext.drew1 ?_ | ((with_reducible refine Ext.setCell ?_ ?_ _); rotate_left; (focus (first | (dsimp only; omega) | (simp; done) | (simp; omega))))))) hx0; clear hx; have hx := hy; clear hy; skip; (try clear hx0))
  all_goals (go_ret; refine Ret.mk ?_ ?_; (focus (refine congrArg (Value.int .i64) ?_; unfold Pv.whole; repeat' split; all_goals first | rfl | omega | simp_all; done)); (focus ((repeat (first | with_reducible exact hx | with_reducible exact Ext.refl _ | with_reducible refine Ext.alloc ?_ _ | with_reducible refine Ext.drewN ?_ _ | with_reducible refine Ext.drew1 ?_ | ((with_reducible refine Ext.setCell ?_ ?_ _); rotate_left; (focus (first | (dsimp only; omega) | (simp; done) | (simp; omega)))))); done)))

set_option maxHeartbeats 1600000 in
theorem addCheck_any (p : Pv) (w : World) : Calls Tryz.prog 129 #[p.v] w (Ret (.int .i64 p.addCheck) w) := by
  go_enter Tryz.func129, Tryz.ntmps129
  have hx := Ext.refl w
  go_wp2_with (go_at_call 131; refine (whole_any p _ _ _).mono ?_; rintro e w1 ⟨rfl, hx0⟩; have hy := Ext.trans (a := w) (by (repeat (first | with_reducible exact hx | with_reducible exact Ext.refl _ | with_reducible refine Ext.alloc ?_ _ | with_reducible refine Ext.drewN ?_ _ | with_reducible refine Ext.drew1 ?_ | ((with_reducible refine Ext.setCell ?_ ?_ _); rotate_left; (focus (first | (dsimp only; omega) | (simp; done) | (simp; omega))))))) hx0; clear hx; have hx := hy; clear hy; skip; (try clear hx0))
  all_goals (go_ret; refine Ret.mk ?_ ?_; (focus (refine congrArg (Value.int .i64) ?_; unfold Pv.addCheck; repeat' split; all_goals first | rfl | omega | simp_all; done)); (focus ((repeat (first | with_reducible exact hx | with_reducible exact Ext.refl _ | with_reducible refine Ext.alloc ?_ _ | with_reducible refine Ext.drewN ?_ _ | with_reducible refine Ext.drew1 ?_ | ((with_reducible refine Ext.setCell ?_ ?_ _); rotate_left; (focus (first | (dsimp only; omega) | (simp; done) | (simp; omega)))))); done)))

set_option maxHeartbeats 1600000 in
theorem remCheck_any (p : Pv) (w : World) : Calls Tryz.prog 141 #[p.v] w (Ret (.int .i64 p.remCheck) w) := by
  go_enter Tryz.func141, Tryz.ntmps141
  have hx := Ext.refl w
  go_wp2_with (go_at_call 131; refine (whole_any p _ _ _).mono ?_; rintro e w1 ⟨rfl, hx0⟩; have hy := Ext.trans (a := w) (by (repeat (first | with_reducible exact hx | with_reducible exact Ext.refl _ | with_reducible refine Ext.alloc ?_ _ | with_reducible refine Ext.drewN ?_ _ | with_reducible refine Ext.drew1 ?_ | ((with_reducible refine Ext.setCell ?_ ?_ _); rotate_left; (focus (first | (dsimp only; omega) | (simp; done) | (simp; omega))))))) hx0; clear hx; have hx := hy; clear hy; skip; (try clear hx0))
  all_goals (go_ret; refine Ret.mk ?_ ?_; (focus (refine congrArg (Value.int .i64) ?_; unfold Pv.remCheck; repeat' split; all_goals first | rfl | omega | simp_all; done)); (focus ((repeat (first | with_reducible exact hx | with_reducible exact Ext.refl _ | with_reducible refine Ext.alloc ?_ _ | with_reducible refine Ext.drewN ?_ _ | with_reducible refine Ext.drew1 ?_ | ((with_reducible refine Ext.setCell ?_ ?_ _); rotate_left; (focus (first | (dsimp only; omega) | (simp; done) | (simp; omega)))))); done)))

set_option maxHeartbeats 1600000 in
theorem addInv_any (p : Pv) (w : World) : Calls Tryz.prog 130 #[p.v] w (Ret p.addInv.v w) := by
  go_enter Tryz.func130, Tryz.ntmps130
  have hx := Ext.refl w
  go_wp2
  all_goals (refine bodyPost_ret (v := p.addInv.v) ?_ rfl ?_; (focus (simp only [results, Tryz.results130]; go_simp; (try (by_cases hk : p.kind = 3 <;> simp_all [Pv.addInv, Pv.zero])); done)); refine Ret.mk rfl ?_; (focus ((repeat (first | with_reducible exact hx | with_reducible exact Ext.refl _ | with_reducible refine Ext.alloc ?_ _ | with_reducible refine Ext.drewN ?_ _ | with_reducible refine Ext.drew1 ?_ | ((with_reducible refine Ext.setCell ?_ ?_ _); rotate_left; (focus (first | (dsimp only; omega) | (simp; done) | (simp; omega)))))); done)))

set_option maxHeartbeats 1600000 in
theorem remInv_any (p : Pv) (w : World) : Calls Tryz.prog 142 #[p.v] w (Ret p.remInv.v w) := by
  go_enter Tryz.func142, Tryz.ntmps142
  have hx := Ext.refl w
  go_wp2
  all_goals (refine bodyPost_ret (v := p.remInv.v) ?_ rfl ?_; (focus (simp only [results, Tryz.results142]; go_simp; (try (by_cases hk : p.kind = 4 <;> simp_all [Pv.remInv, Pv.zero])); done)); refine Ret.mk rfl ?_; (focus ((repeat (first | with_reducible exact hx | with_reducible exact Ext.refl _ | with_reducible refine Ext.alloc ?_ _ | with_reducible refine Ext.drewN ?_ _ | with_reducible refine Ext.drew1 ?_ | ((with_reducible refine Ext.setCell ?_ ?_ _); rotate_left; (focus (first | (dsimp only; omega) | (simp; done) | (simp; omega)))))); done)))

set_option maxHeartbeats 1600000 in
theorem movInv_any (p : Pv) (w : World) : Calls Tryz.prog 145 #[p.v] w (Ret p.movInv.v w) := by
  go_enter Tryz.func145, Tryz.ntmps145
  have hx := Ext.refl w
  go_wp2
  all_goals (refine bodyPost_ret (v := p.movInv.v) ?_ rfl ?_; (focus (simp only [results, Tryz.results145]; go_simp; (try (simp [Pv.movInv, Pv.zero, *])); done)); refine Ret.mk rfl ?_; (focus ((repeat (first | with_reducible exact hx | with_reducible exact Ext.refl _ | with_reducible refine Ext.alloc ?_ _ | with_reducible refine Ext.drewN ?_ _ | with_reducible refine Ext.drew1 ?_ | ((with_reducible refine Ext.setCell ?_ ?_ _); rotate_left; (focus (first | (dsimp only; omega) | (simp; done) | (simp; omega)))))); done)))
end Go.Proofs.YtgjphfmpodkgeaaGreatDoor
