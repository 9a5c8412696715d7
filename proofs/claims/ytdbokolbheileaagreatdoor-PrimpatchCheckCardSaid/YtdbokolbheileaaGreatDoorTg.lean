/- Walks: plain trees: Apply, where it is refused, and at a move. -/
import Derived.Test.YtdbokolbheileaaGreatDoorTf
import Derived.Test.YtdbokolbheileaaGreatDoorO
import Derived.Test.YtdbokolbheileaaGreatDoorAp
set_option linter.unusedSimpArgs false
set_option linter.unusedVariables false
namespace Go.Proofs.YtdbokolbheileaaGreatDoor
open Go Go.RowKit

theorem upon_method1 {P : Program} {o : Oper} {a : Act} {K : Act → World → Prop} {Q : Exit → Act → World → Prop} {k : Nat} {T : TypeId} {v u : Value} {name : String} {w : World} {f : FuncId} (h : (method k T v name).run P w = .ok (f, v) w)
    (hf : (callFunc f #[v, u]).run P w = .ok (.enter f #[v, u]) w) (hc : Oper.upon P o a K Q (.ok (.enter f #[v, u]) w)) : Oper.upon P o a K Q (((method k T v name).run P w).andThen fun a w' => (callFunc a.fst #[a.snd, u]).run P w') := by
  rw [h]
  show Oper.upon P o a K Q ((callFunc f #[v, u]).run P w)
  rw [hf]
  exact hc
/-- A move that is valid by itself. -/
theorem check_mv {q : Qp} (h : q.check = 0) (hK : q.kind = 5) : Qm.isPath q.path = true ∧ Qm.isPath q.to_ = true ∧ ¬ Pa.wi (Pa.L q.to_) (Pa.L q.path) ∧ ¬ Pa.wi (Pa.L q.path) (Pa.L q.to_) := by
  obtain ⟨_, _, hp, _⟩ := check_parts h
  obtain ⟨p1, p2⟩ := path_ok hp
  obtain ⟨m1, m2⟩ := check_move h hK
  exact ⟨p1, p2 hK, m2, m1⟩

set_option maxHeartbeats 4000000 in
set_option maxRecDepth 100000 in
theorem apply_badtree (p : Pv) (A : Option Addr) (n c : Nat) (l : List Pf) (w : World) (h : Trs w A l) (hn : l.length = n) (hb : n ≤ 10000000000000) (hg : Glob w) (hc : Tr.checkTree l ≠ 0) :
    Calls Tryz.prog 17 #[.slice A n c, p.v] w (GivesT ([], Tr.checkTree l) w) := by
  have HC := Lib.hid (fun W (hW : Ext w W) => checktree_any A n c l W (h.ext hW) hn hb (hg.ext hW))
  have hc' : (Tr.checkTree l != 0) = true := by simpa using hc
  clear h hn hg hc
  generalize Tr.checkTree l = r at *
  go_enter Tryz.func17, Tryz.ntmps17
  have hx := Ext.refl w
  go_wp2_with (go_at_call 14; refine (HC.out _ EX).mono ?_; rintro e w1 ⟨rfl, hx0⟩; have hy := Ext.trans (a := w) EX hx0; clear hx; have hx := hy; clear hy hx0)
  go_ret2
  exact GivesT.none EX

set_option maxHeartbeats 4000000 in
set_option maxRecDepth 100000 in
theorem apply_badpatch (p : Pv) (q : Qp) (A : Option Addr) (n c : Nat) (l : List Pf) (w : World) (h : Trs w A l) (hn : l.length = n) (hb : n ≤ 10000000000000) (hg : Glob w) {F : Nat → Prop} (hq : Is w F p q)
    (b1 : q.old.length ≤ 1152921504606846976) (b2 : q.new.length ≤ 1152921504606846976) (b3 : q.path.size ≤ 1152921504606846976) (b4 : q.to_.size ≤ 1152921504606846976) (hc : Tr.checkTree l = 0) (hc2 : q.check ≠ 0) :
    Calls Tryz.prog 17 #[.slice A n c, p.v] w (GivesT ([], q.check) w) := by
  have HC : Hid (∀ W, Ext w W → Calls Tryz.prog 14 #[.slice A n c] W (Ret (.int .i64 0) W)) := Lib.hid (fun W hW => by
    have := checktree_any A n c l W (h.ext hW) hn hb (hg.ext hW)
    rwa [hc] at this)
  have HK := Lib.hid (fun W (hW : Ext w W) => check_q p q W (hg.ext hW) (hq.ext hW) b1 b2 b3 b4)
  have hc' : (q.check != 0) = true := by simpa using hc2
  clear h hn hg hc hc2 hq
  generalize q.check = r at *
  go_enter Tryz.func17, Tryz.ntmps17
  have hx := Ext.refl w
  go_wp2_with (first
    | (go_at_call 14; refine (HC.out _ EX).mono ?_; rintro e w1 ⟨rfl, hx0⟩; have hy := Ext.trans (a := w) EX hx0; clear hx; have hx := hy; clear hy; have hn0 := BB hx0 (w.heap.size); (first | simp [↓heap_drew_at, ↓heap_drewN_at, ↓heap_alloc_at, ↓heap_set_at, ne_two, ne_three, ne_two_left, ne_three_left, ↓hb0.eq, hb0.lt, hb0.ne] at hn0 | simp [↓heap_drew_at, ↓heap_drewN_at, ↓heap_alloc_at, ↓heap_set_at, ne_two, ne_three, ne_two_left, ne_three_left] at hn0); (try clear hb0 hc0 hf0 hl0); have hb0 := Blk.mk hn0; clear hn0; obtain ⟨hc0, hf0, hl0⟩ := hb0.all; (try clear hx0))
    | (go_at_call 20; refine (HK.out _ EX).mono ?_; rintro e w1 ⟨rfl, hx0⟩; have hy := Ext.trans (a := w) EX hx0; clear hx; have hx := hy; clear hy; have hn0 := BB hx0 (w.heap.size); (first | simp [↓heap_drew_at, ↓heap_drewN_at, ↓heap_alloc_at, ↓heap_set_at, ne_two, ne_three, ne_two_left, ne_three_left, ↓hb0.eq, hb0.lt, hb0.ne] at hn0 | simp [↓heap_drew_at, ↓heap_drewN_at, ↓heap_alloc_at, ↓heap_set_at, ne_two, ne_three, ne_two_left, ne_three_left] at hn0); (try clear hb0 hc0 hf0 hl0); have hb0 := Blk.mk hn0; clear hn0; obtain ⟨hc0, hf0, hl0⟩ := hb0.all; (try clear hx0)))
  go_ret2
  exact GivesT.none EX

set_option maxHeartbeats 4000000 in
set_option maxRecDepth 100000 in
theorem apply_mov (p : Pv) (q : Qp) (A : Option Addr) (n c : Nat) (l : List Pf) (w : World) (h : Trs w A l) (hn : l.length = n) (hg : Glob w) {F : Nat → Prop} (hq : Is w F p q)
    (b1 : q.old.length ≤ 1152921504606846976) (b2 : q.new.length ≤ 1152921504606846976) (hc : Tr.checkTree l = 0) (hc2 : q.check = 0) (hK : q.kind = 5) :
    Calls Tryz.prog 17 #[.slice A n c, p.v] w (GivesT (Tr.move l q.path q.to_) w) := by
  have hgood := Tr.good_iff.1 hc
  have hb : n ≤ 200 := by rw [← hn]; exact hgood.len
  obtain ⟨p1, p2, n1, n2⟩ := check_mv hc2 hK
  have sz : ∀ s : ByteArray, Qm.isPath s = true → s.size ≤ 200 := fun s hs => by
    rw [isPath_pieces, Bool.and_eq_true] at hs
    exact of_decide_eq_true hs.1
  have z1 := sz _ p1
  have z2 := sz _ p2
  have HC : Hid (∀ W, Ext w W → Calls Tryz.prog 14 #[.slice A n c] W (Ret (.int .i64 0) W)) := Lib.hid (fun W hW => by
    have := checktree_any A n c l W (h.ext hW) hn (by omega) (hg.ext hW)
    rwa [hc] at this)
  have HK : Hid (∀ W, Ext w W → Calls Tryz.prog 20 #[p.v] W (Ret (.int .i64 0) W)) := Lib.hid (fun W hW => by
    have := check_q p q W (hg.ext hW) (hq.ext hW) b1 b2 (by omega) (by omega)
    rwa [hc2] at this)
  obtain ⟨A1, c1, A2, c2, rfl, _⟩ := hq
  have HM := Lib.hid (fun W (hW : Ext w W) => mapply_any (q.pv A1 c1 A2 c2) A n c l W (h.ext hW) hn hgood p1 p2 n1 n2)
  have ha : (q.pv A1 c1 A2 c2).act = .iface 88 (q.pv A1 c1 A2 c2).v := by rw [Pv.act, if_neg (by dsimp only; omega), if_neg (by dsimp only; omega), if_pos hK]
  have Ha := Lib.hid ha
  clear h hn hg hc hc2 ha hK p1 p2 n1 n2 sz z1 z2 hgood b1 b2
  have HM : Hid (∀ W, Ext w W → Calls Tryz.prog 136 #[(q.pv A1 c1 A2 c2).v, .slice A n c] W (GivesT (Tr.move l q.path q.to_) W)) := HM
  generalize hp : q.pv A1 c1 A2 c2 = p at *
  clear hp
  generalize Tr.move l q.path q.to_ = r at *
  go_enter Tryz.func17, Tryz.ntmps17
  have hx := Ext.refl w
  go_wp2_with (first
    | (go_at_call 14; refine (HC.out _ EX).mono ?_; rintro e w1 ⟨rfl, hx0⟩; have hy := Ext.trans (a := w) EX hx0; clear hx; have hx := hy; clear hy; have hn0 := BB hx0 (w.heap.size); (first | simp [↓heap_drew_at, ↓heap_drewN_at, ↓heap_alloc_at, ↓heap_set_at, ne_two, ne_three, ne_two_left, ne_three_left, ↓hb0.eq, hb0.lt, hb0.ne] at hn0 | simp [↓heap_drew_at, ↓heap_drewN_at, ↓heap_alloc_at, ↓heap_set_at, ne_two, ne_three, ne_two_left, ne_three_left] at hn0); (try clear hb0 hc0 hf0 hl0); have hb0 := Blk.mk hn0; clear hn0; obtain ⟨hc0, hf0, hl0⟩ := hb0.all; (try clear hx0))
    | (go_at_call 20; refine (HK.out _ EX).mono ?_; rintro e w2 ⟨rfl, hx0⟩; have hy := Ext.trans (a := w) EX hx0; clear hx; have hx := hy; clear hy; have hn0 := BB hx0 (w.heap.size); (first | simp [↓heap_drew_at, ↓heap_drewN_at, ↓heap_alloc_at, ↓heap_set_at, ne_two, ne_three, ne_two_left, ne_three_left, ↓hb0.eq, hb0.lt, hb0.ne] at hn0 | simp [↓heap_drew_at, ↓heap_drewN_at, ↓heap_alloc_at, ↓heap_set_at, ne_two, ne_three, ne_two_left, ne_three_left] at hn0); (try clear hb0 hc0 hf0 hl0); have hb0 := Blk.mk hn0; clear hn0; obtain ⟨hc0, hf0, hl0⟩ := hb0.all; (try clear hx0))
    | (go_at_call 36; refine (action_any p _).mono ?_; rintro e w3 ⟨rfl, hx0⟩; rw [Ha.out]; have hy := Ext.trans (a := w) EX hx0; clear hx; have hx := hy; clear hy; have hn0 := BB hx0 (w.heap.size); (first | simp [↓heap_drew_at, ↓heap_drewN_at, ↓heap_alloc_at, ↓heap_set_at, ne_two, ne_three, ne_two_left, ne_three_left, ↓hb0.eq, hb0.lt, hb0.ne] at hn0 | simp [↓heap_drew_at, ↓heap_drewN_at, ↓heap_alloc_at, ↓heap_set_at, ne_two, ne_three, ne_two_left, ne_three_left] at hn0); (try clear hb0 hc0 hf0 hl0); have hb0 := Blk.mk hn0; clear hn0; obtain ⟨hc0, hf0, hl0⟩ := hb0.all; (try clear hx0)))
  refine upon_method1 (f := 136) (by kernel_rfl) (by kernel_rfl) ?_
  rw [Oper.upon_enter]
  have HX3 := Lib.hid hx
  refine (HM.out _ EX).mono ?_
  rintro e w4 ⟨B, m, d, rfl, hm, hT, hx4⟩
  have HX := Lib.hid (Ext.trans (a := w) EX hx4)
  have Hm := Lib.hid hm
  clear hx hx4 hm hb0 hc0 hf0 hl0
  go_wp2_with fail
  go_ret2
  exact ⟨_, _, _, rfl, Hm.out, Lib.hid ⟨hT.out.1, fun a ha => Nat.le_trans HX3.out.size_le (hT.out.2 a ha)⟩, HX.out⟩
end Go.Proofs.YtdbokolbheileaaGreatDoor
