/- Walks: the four actions: check and invert; whole. Walks: the checks of moving and of editing; tidy. Walks: tidy. Walks: the action of a patch. -/
import Derived.Test.YtnjcifppkijanaaGreatDoorF
import Derived.Test.YtnjcifppkijanaaGreatDoorE
import Derived.Deep.CutBlock
import Derived.Deep.DeepCutAuto
set_option linter.unusedSimpArgs false
set_option linter.unusedVariables false
namespace Go.Proofs.YtnjcifppkijanaaGreatDoor
open Go.RowKit

def Pv.whole (p : Pv) (mode : Int) (data : ByteArray) : Int :=
  if p.ty < 1 ∨ 3 < p.ty then 8 else if mode < 0 ∨ 511 < mode then 2 else Qm.content p.ty data
def Pv.addCheck (p : Pv) : Int := if p.kind = 3 then 0 else p.whole p.nm p.sn
def Pv.remCheck (p : Pv) : Int := if p.kind = 4 then 0 else p.whole p.om p.so
def Pv.movCheck (p : Pv) : Int := if Qm.eqB p.to_ p.path = true ∨ Qm.below p.to_ p.path = true ∨ Qm.below p.path p.to_ = true then 20 else 0
def Pv.zero : Pv := ⟨0, ⟨#[]⟩, ⟨#[]⟩, 0, 0, none, 0, 0, none, 0, 0, 0, ⟨#[]⟩, ⟨#[]⟩, 0, 0⟩
set_option maxHeartbeats 1600000 in
theorem whole_any (p : Pv) (m : Int) (d : ByteArray) (w : World) :
    Calls Tryz.prog 201 #[p.v, .int .i64 m, .string d] w (Ret (.int .i64 (p.whole m d)) w) := by
  go_enter Tryz.func201, Tryz.ntmps201
  have hx := Ext.refl w
  go_wp2_with (go_at_call 81; refine (content_any _ _ _).mono ?_; rintro e w1 ⟨rfl, hx0⟩; have hy := Ext.trans (a := w) EX hx0; clear hx; have hx := hy; clear hy; skip; (try clear hx0))
  all_goals (go_ret; refine Ret.mk ?_ ?_; (focus (refine congrArg (Value.int .i64) ?_; unfold Pv.whole; repeat' split; all_goals first | rfl | omega | simp_all; done)); (focus (exact EX; done)))

set_option maxHeartbeats 1600000 in
theorem addCheck_any (p : Pv) (w : World) : Calls Tryz.prog 199 #[p.v] w (Ret (.int .i64 p.addCheck) w) := by
  go_enter Tryz.func199, Tryz.ntmps199
  have hx := Ext.refl w
  go_wp2_with (go_at_call 201; refine (whole_any p _ _ _).mono ?_; rintro e w1 ⟨rfl, hx0⟩; have hy := Ext.trans (a := w) EX hx0; clear hx; have hx := hy; clear hy; skip; (try clear hx0))
  all_goals (go_ret; refine Ret.mk ?_ ?_; (focus (refine congrArg (Value.int .i64) ?_; unfold Pv.addCheck; repeat' split; all_goals first | rfl | omega | simp_all; done)); (focus (exact EX; done)))

set_option maxHeartbeats 1600000 in
theorem remCheck_any (p : Pv) (w : World) : Calls Tryz.prog 203 #[p.v] w (Ret (.int .i64 p.remCheck) w) := by
  go_enter Tryz.func203, Tryz.ntmps203
  have hx := Ext.refl w
  go_wp2_with (go_at_call 201; refine (whole_any p _ _ _).mono ?_; rintro e w1 ⟨rfl, hx0⟩; have hy := Ext.trans (a := w) EX hx0; clear hx; have hx := hy; clear hy; skip; (try clear hx0))
  all_goals (go_ret; refine Ret.mk ?_ ?_; (focus (refine congrArg (Value.int .i64) ?_; unfold Pv.remCheck; repeat' split; all_goals first | rfl | omega | simp_all; done)); (focus (exact EX; done)))

end Go.Proofs.YtnjcifppkijanaaGreatDoor
namespace Go.Proofs.YtnjcifppkijanaaGreatDoor
open Go.RowKit

set_option maxHeartbeats 1600000 in
theorem movCheck_any (p : Pv) (w : World) (h1 : p.path.size ≤ 4611686018427387904) (h2 : p.to_.size ≤ 4611686018427387904) : Calls Tryz.prog 206 #[p.v] w (Ret (.int .i64 p.movCheck) w) := by
  go_enter Tryz.func206, Tryz.ntmps206
  have hx := Ext.refl w
  go_wp2_with (go_at_call 208; refine (pbelow_any _ _ _ (by assumption)).mono ?_; rintro e w1 ⟨rfl, hx0⟩; have hy := Ext.trans (a := w) EX hx0; clear hx; have hx := hy; clear hy; have hn0 := BB hx0 (w.heap.size); (first | simp [↓heap_drew_at, ↓heap_drewN_at, ↓heap_alloc_at, ↓heap_set_at, ne_two, ne_three, ne_two_left, ne_three_left, ↓hb0.eq, hb0.lt, hb0.ne] at hn0 | simp [↓heap_drew_at, ↓heap_drewN_at, ↓heap_alloc_at, ↓heap_set_at, ne_two, ne_three, ne_two_left, ne_three_left] at hn0); (try clear hb0 hc0 hf0 hl0); have hb0 := Blk.mk hn0; clear hn0; obtain ⟨hc0, hf0, hl0⟩ := hb0.all; (try clear hx0))
  all_goals (go_ret; refine Ret.mk ?_ ?_; (focus (refine congrArg (Value.int .i64) ?_; unfold Pv.movCheck; repeat' split; all_goals first | rfl | omega | simp_all [Qm.eqB]; done)); (focus (exact EX; done)))

/-- editing.check, but for the lines. -/
def Pv.edCheck (p : Pv) : Int :=
  if p.kind = 7 then (if p.off < 0 ∨ 65536 < p.off then 2 else if 65536 < p.so.size ∨ 65536 < p.sn.size then 4 else if Qm.eqB p.so p.sn = true then 1 else 0)
  else if p.om < 0 ∨ 511 < p.om ∨ p.nm < 0 ∨ 511 < p.nm then 2 else if p.om = p.nm then 1 else 0

theorem ed_same (p : Pv) (h7 : (p.kind == 7) = true) (d : 0 ≤ p.off ∧ p.off ≤ 65536) (f : (p.so.size : Int) ≤ 65536 ∧ (p.sn.size : Int) ≤ 65536) (g : (p.so.toList == p.sn.toList) = true) : p.edCheck = 1 := by
  unfold Pv.edCheck
  rw [if_pos (by simpa using h7), if_neg (by omega), if_neg (by omega), if_pos (by rw [Qm.eqB]; exact g)]
theorem ed_other (p : Pv) (h7 : (p.kind == 7) = true) (d : 0 ≤ p.off ∧ p.off ≤ 65536) (f : (p.so.size : Int) ≤ 65536 ∧ (p.sn.size : Int) ≤ 65536) (g : (p.so.toList == p.sn.toList) = false) : p.edCheck = 0 := by
  unfold Pv.edCheck
  rw [if_pos (by simpa using h7), if_neg (by omega), if_neg (by omega), if_neg (by rw [Qm.eqB, g]; exact Bool.false_ne_true)]

set_option maxHeartbeats 1600000 in
theorem edCheck_any (p : Pv) (w : World) (h6 : p.kind ≠ 6) : Calls Tryz.prog 210 #[p.v] w (Ret (.int .i64 p.edCheck) w) := by
  go_enter Tryz.func210, Tryz.ntmps210
  have hx := Ext.refl w
  go_wp2
  all_goals (go_ret; refine Ret.mk ?_ ?_; (focus (refine congrArg (Value.int .i64) ?_; first | (refine (ed_same p ?_ ?_ ?_ ?_).symm <;> assumption) | (refine (ed_other p ?_ ?_ ?_ ?_).symm <;> assumption) | (unfold Pv.edCheck; repeat' split; all_goals first | rfl | omega | (simp_all [Qm.eqB]; done)); done)); (focus (exact EX; done)))
end Go.Proofs.YtnjcifppkijanaaGreatDoor
namespace Go.Proofs.YtnjcifppkijanaaGreatDoor
open Go.RowKit

/-- What tidy leaves out of the patch. -/
def Pv.strip (p : Pv) : Pv :=
  if p.kind = 1 then { p with ty := 0, nm := 0, sn := ⟨#[]⟩ }
  else if p.kind = 2 then { p with ty := 0, om := 0, so := ⟨#[]⟩ }
  else if p.kind = 5 then { p with to_ := ⟨#[]⟩ }
  else if p.kind = 6 then { p with at_ := 0, A1 := none, n1 := 0, c1 := 0, A2 := none, n2 := 0, c2 := 0 }
  else if p.kind = 7 then { p with off := 0, so := ⟨#[]⟩, sn := ⟨#[]⟩ }
  else if p.kind = 8 then { p with om := 0, nm := 0 }
  else p
def Pv.bare (p : Pv) : Bool :=
  p.to_.toList.isEmpty && p.ty == 0 && p.at_ == 0 && ((p.n1 : Int) + p.n2 == 0) && p.off == 0 && p.so.toList.isEmpty && p.sn.toList.isEmpty && p.om == 0 && p.nm == 0
def Pv.tidy (p : Pv) : Bool := p.strip.bare

abbrev Pv.arr (p : Pv) : Array Value :=
  #[.int .i64 p.kind, .string p.path, .string p.to_, .int .i64 p.ty, .int .i64 p.at_, .slice p.A1 p.n1 p.c1, .slice p.A2 p.n2 p.c2, .int .i64 p.off, .string p.so, .string p.sn, .int .i64 p.om, .int .i64 p.nm]

set_option maxHeartbeats 4000000 in
set_option maxRecDepth 100000 in
theorem tidy_any (p : Pv) (w : World) (h1 : p.n1 ≤ 1152921504606846976) (h2 : p.n2 ≤ 1152921504606846976) : Calls Tryz.prog 96 #[p.v] w (Ret (.bool p.tidy) w) := by
  go_enter Tryz.func96, Tryz.ntmps96
  have hx := Ext.refl w
  go_upto_block 0 with fail
  go_cut [] (fun wx => ∃ q : Pv, Hid (q = p.strip) ∧ wx = w.alloc (.cells q.arr 128))
  case first =>
    go_wp2_with fail
    all_goals (go_meet; refine ⟨p.strip, Lib.hid rfl, ?_⟩; simp_all [Pv.strip])
  case rest =>
    obtain ⟨q, hq, rfl⟩ := hcut
    have h3 : q.n1 ≤ 1152921504606846976 ∧ q.n2 ≤ 1152921504606846976 := by
      rw [hq.out]
      unfold Pv.strip
      repeat' split
      all_goals exact ⟨by first | exact h1 | exact Nat.zero_le _, by first | exact h2 | exact Nat.zero_le _⟩
    obtain ⟨h4, h5⟩ := h3
    clear h1 h2
    go_wp2
    all_goals (go_ret; refine Ret.mk ?_ ?_; (focus (refine congrArg Value.bool ?_; rw [Pv.tidy, ← hq.out]; simp [Pv.bare, *]; done)); (focus (exact EX; done)))
end Go.Proofs.YtnjcifppkijanaaGreatDoor
namespace Go.Proofs.YtnjcifppkijanaaGreatDoor
open Go.RowKit

/-- The action's type; 0: none. -/
def Pv.act (p : Pv) : Value :=
  if p.kind = 1 ∨ p.kind = 3 then .iface 156 p.v
  else if p.kind = 2 ∨ p.kind = 4 then .iface 157 p.v
  else if p.kind = 5 then .iface 158 p.v
  else if p.kind = 6 ∨ p.kind = 7 ∨ p.kind = 8 then .iface 159 p.v
  else .nilIface

set_option maxHeartbeats 1600000 in
theorem action_any (p : Pv) (w : World) : Calls Tryz.prog 95 #[p.v] w (Ret p.act w) := by
  go_enter Tryz.func95, Tryz.ntmps95
  have hx := Ext.refl w
  go_wp2
  all_goals (go_ret; refine Ret.mk ?_ ?_; (focus (unfold Pv.act; repeat' split; all_goals first | rfl | omega | (simp_all; done); done)); (focus (exact EX; done)))
end Go.Proofs.YtnjcifppkijanaaGreatDoor
