/- Walks: tidy. -/
import Derived.Test.YtgjphfmpodkgeaaGreatDoorH2
import Derived.Deep.CutBlock
import Derived.Deep.DeepCutAuto
set_option linter.unusedSimpArgs false
set_option linter.unusedVariables false
namespace Go.Proofs.YtgjphfmpodkgeaaGreatDoor
open Go.RowKit

def Pv.noMeta (p : Pv) : Bool := p.om == 0 && p.nm == 0
/-- What tidy leaves out of the patch. -/
def Pv.strip (p : Pv) : Pv :=
  if p.kind = 1 then { p with ty := 0, nm := 0, sn := ⟨#[]⟩ }
  else if p.kind = 2 then { p with ty := 0, om := 0, so := ⟨#[]⟩ }
  else if p.kind = 5 then { p with to_ := ⟨#[]⟩ }
  else if p.kind = 6 then { p with at_ := 0, A1 := none, n1 := 0, c1 := 0, A2 := none, n2 := 0, c2 := 0 }
  else if p.kind = 7 then { p with off := 0, so := ⟨#[]⟩, sn := ⟨#[]⟩ }
  else if p.kind = 8 then { p with om := 0, nm := 0 }
  else p
def Pv.bare (p : Pv) : Bool :=
  p.to_.toList.isEmpty && p.ty == 0 && p.at_ == 0 && ((p.n1 : Int) + p.n2 == 0) && p.off == 0 && p.so.toList.isEmpty && p.sn.toList.isEmpty && p.om == 0 && p.nm == 0
def Pv.tidy (p : Pv) : Bool := p.strip.bare


abbrev Pv.arr (p : Pv) : Array Value :=
  #[.int .i64 p.kind, .string p.path, .string p.to_, .int .i64 p.ty, .int .i64 p.at_, .slice p.A1 p.n1 p.c1, .slice p.A2 p.n2 p.c2, .int .i64 p.off, .string p.so, .string p.sn, .int .i64 p.om, .int .i64 p.nm]

set_option maxHeartbeats 4000000 in
set_option maxRecDepth 100000 in
theorem tidy_any (p : Pv) (w : World) (h1 : p.n1 ≤ 1152921504606846976) (h2 : p.n2 ≤ 1152921504606846976) : Calls Tryz.prog 64 #[p.v] w (Ret (.bool p.tidy) w) := by
  go_enter Tryz.func64, Tryz.ntmps64
  have hx := Ext.refl w
  go_upto_block 0 with fail
  go_cut [] (fun wx => ∃ q : Pv, Hid (q = p.strip) ∧ wx = w.alloc (.cells q.arr 90))
  case first =>
    go_wp2_with fail
    all_goals (go_meet; refine ⟨p.strip, Lib.hid rfl, ?_⟩; simp_all [Pv.strip])
  case rest =>
    obtain ⟨q, hq, rfl⟩ := hcut
    have h3 : q.n1 ≤ 1152921504606846976 ∧ q.n2 ≤ 1152921504606846976 := by
      rw [hq.out]
      unfold Pv.strip
      repeat' split
      all_goals exact ⟨by first | exact h1 | exact Nat.zero_le _, by first | exact h2 | exact Nat.zero_le _⟩
    obtain ⟨h4, h5⟩ := h3
    clear h1 h2
    go_wp2
    all_goals (go_ret; refine Ret.mk ?_ ?_; (focus (refine congrArg Value.bool ?_; rw [Pv.tidy, ← hq.out]; simp [Pv.bare, *]; done)); (focus ((repeat (first | with_reducible exact hx | with_reducible exact Ext.refl _ | with_reducible refine Ext.alloc ?_ _ | with_reducible refine Ext.drewN ?_ _ | with_reducible refine Ext.drew1 ?_ | ((with_reducible refine Ext.setCell ?_ ?_ _); rotate_left; (focus (first | (dsimp only; omega) | (simp; done) | (simp; omega)))))); done)))
end Go.Proofs.YtgjphfmpodkgeaaGreatDoor
