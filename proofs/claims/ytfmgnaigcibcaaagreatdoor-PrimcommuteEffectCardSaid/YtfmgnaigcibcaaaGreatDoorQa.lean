/- Walks: primpatch.Invert, and the inverse of a valid patch. Walks: the paths after a patch. Walks: a patch behind another one. -/
import Derived.Test.YtfmgnaigcibcaaaGreatDoorQ8
import Derived.Test.YtfmgnaigcibcaaaGreatDoorBase
import Derived.Test.YtfmgnaigcibcaaaGreatDoorShelf
set_option linter.unusedSimpArgs false
set_option linter.unusedVariables false
namespace Go.Proofs.YtfmgnaigcibcaaaGreatDoor
open Go.RowKit

/-- A call that hands back a patch that reads as q, and one value more. -/
def GivesP (q : Qp) (v : Value) (w : World) (e : Ending) (w' : World) : Prop := ∃ p, e = .returned (.tuple #[p.v, v]) ∧ Is w' (fun b => w.heap.size ≤ b) p q ∧ Ext w w'
def GivesOne (q : Qp) (w : World) (e : Ending) (w' : World) : Prop := ∃ p, e = .returned p.v ∧ Is w' (fun b => w.heap.size ≤ b) p q ∧ Ext w w'
set_option maxHeartbeats 4000000 in
set_option maxRecDepth 100000 in
theorem inv_bad (p : Pv) (q : Qp) (w : World) (hg : Glob w) {F : Nat → Prop} (h : Is w F p q) (b1 : q.old.length ≤ 1152921504606846976) (b2 : q.new.length ≤ 1152921504606846976) (b3 : q.path.size ≤ 1152921504606846976) (b4 : q.to_.size ≤ 1152921504606846976) (hc : q.check ≠ 0) :
    Calls Tryz.prog 51 #[p.v] w (GivesP Qp.zero (.int .i64 q.check) w) := by
  have H := Lib.hid h
  have Hg := Lib.hid hg
  have hc2 : (q.check != 0) = true := by simpa using hc
  clear h hg hc
  go_enter Tryz.func51, Tryz.ntmps51
  have hx := Ext.refl w
  go_wp2_with (go_at_call 38; refine (check_q p q _ (Hg.out.ext EX) (H.out.ext EX) b1 b2 b3 b4).mono ?_; rintro e w1 ⟨rfl, hx0⟩; have hy := Ext.trans (a := w) EX hx0; clear hx; have hx := hy; clear hy; have hn0 := BB hx0 (w.heap.size); have hn1 := BB hx0 (w.heap.size + 1); (first | simp [↓heap_drew_at, ↓heap_drewN_at, ↓heap_alloc_at, ↓heap_set_at, ne_two, ne_three, ne_two_left, ne_three_left, ↓hb0.eq, hb0.lt, hb0.ne, ↓hb1.eq, hb1.lt, hb1.ne] at hn0 hn1 | simp [↓heap_drew_at, ↓heap_drewN_at, ↓heap_alloc_at, ↓heap_set_at, ne_two, ne_three, ne_two_left, ne_three_left] at hn0 hn1); (try clear hb0 hc0 hf0 hl0); (try clear hb1 hc1 hf1 hl1); have hb0 := Blk.mk hn0; clear hn0; obtain ⟨hc0, hf0, hl0⟩ := hb0.all; have hb1 := Blk.mk hn1; clear hn1; obtain ⟨hc1, hf1, hl1⟩ := hb1.all; (try clear hx0))
  refine bodyPost_ret (v := .tuple #[(Qp.zero.pv none 0 none 0).v, .int .i64 q.check]) ?_ rfl ?_
  · simp only [results, Tryz.results51]
    go_simp
    exact ⟨rfl, rfl, rfl, rfl, rfl, rfl, rfl, rfl, rfl, rfl, rfl, rfl⟩
  · exact ⟨_, rfl, Is.none _ _ Qp.zero rfl rfl, EX⟩

set_option maxHeartbeats 4000000 in
set_option maxRecDepth 100000 in
theorem inv_add (p : Pv) (q : Qp) (w : World) (hg : Glob w) {F : Nat → Prop} (h : Is w F p q) (b1 : q.old.length ≤ 1152921504606846976) (b2 : q.new.length ≤ 1152921504606846976) (b3 : q.path.size ≤ 1152921504606846976) (b4 : q.to_.size ≤ 1152921504606846976) (hc : q.check = 0) (hK : q.kind = 1 ∨ q.kind = 3) :
    Calls Tryz.prog 51 #[p.v] w (GivesP q.inv (.int .i64 0) w) := by
  have H := Lib.hid h
  have Hg := Lib.hid hg
  obtain ⟨A1, c1, A2, c2, rfl, _⟩ := h
  have ha : (q.pv A1 c1 A2 c2).act = .iface 103 (q.pv A1 c1 A2 c2).v := by rw [Pv.act, if_pos hK]
  have hi : (q.pv A1 c1 A2 c2).addInv = q.inv.pv none 0 none 0 := by rcases hK with hK | hK <;> simp [Qp.inv, Pv.addInv, Pv.zero, Qp.zero, hK]
  have ho : q.inv.old = [] ∧ q.inv.new = [] := by rcases hK with hK | hK <;> simp [Qp.inv, Pv.addInv, Pv.zero, Qp.zero, hK]
  have Ha := Lib.hid ha
  have HI := Lib.hid hi
  have Ho := Lib.hid ho
  have Hc := Lib.hid hc
  clear ha hi hg ho hc hK
  generalize hp : q.pv A1 c1 A2 c2 = p at *
  clear hp
  go_enter Tryz.func51, Tryz.ntmps51
  have hx := Ext.refl w
  go_wp2_with fail
  go_at_call 38; refine (check_q p q _ (Hg.out.ext EX) (H.out.ext EX) b1 b2 b3 b4).mono ?_; rintro e w1 ⟨rfl, hx0⟩; have hy := Ext.trans (a := w) EX hx0; clear hx; have hx := hy; clear hy; have hn0 := BB hx0 (w.heap.size); have hn1 := BB hx0 (w.heap.size + 1); (first | simp [↓heap_drew_at, ↓heap_drewN_at, ↓heap_alloc_at, ↓heap_set_at, ne_two, ne_three, ne_two_left, ne_three_left, ↓hb0.eq, hb0.lt, hb0.ne, ↓hb1.eq, hb1.lt, hb1.ne] at hn0 hn1 | simp [↓heap_drew_at, ↓heap_drewN_at, ↓heap_alloc_at, ↓heap_set_at, ne_two, ne_three, ne_two_left, ne_three_left] at hn0 hn1); (try clear hb0 hc0 hf0 hl0); (try clear hb1 hc1 hf1 hl1); have hb0 := Blk.mk hn0; clear hn0; obtain ⟨hc0, hf0, hl0⟩ := hb0.all; have hb1 := Blk.mk hn1; clear hn1; obtain ⟨hc1, hf1, hl1⟩ := hb1.all; (try clear hx0)
  rw [Hc.out]
  go_wp2_with fail
  go_at_call 40; refine (action_any p _).mono ?_; rintro e w1 ⟨rfl, hx0⟩; have hy := Ext.trans (a := w) EX hx0; clear hx; have hx := hy; clear hy; have hn0 := BB hx0 (w.heap.size); have hn1 := BB hx0 (w.heap.size + 1); (first | simp [↓heap_drew_at, ↓heap_drewN_at, ↓heap_alloc_at, ↓heap_set_at, ne_two, ne_three, ne_two_left, ne_three_left, ↓hb0.eq, hb0.lt, hb0.ne, ↓hb1.eq, hb1.lt, hb1.ne] at hn0 hn1 | simp [↓heap_drew_at, ↓heap_drewN_at, ↓heap_alloc_at, ↓heap_set_at, ne_two, ne_three, ne_two_left, ne_three_left] at hn0 hn1); (try clear hb0 hc0 hf0 hl0); (try clear hb1 hc1 hf1 hl1); have hb0 := Blk.mk hn0; clear hn0; obtain ⟨hc0, hf0, hl0⟩ := hb0.all; have hb1 := Blk.mk hn1; clear hn1; obtain ⟨hc1, hf1, hl1⟩ := hb1.all; (try clear hx0)
  rw [Ha.out]
  go_wp2_with fail
  refine upon_method (f := 179) (by kernel_rfl) (by kernel_rfl) ?_
  rw [Oper.upon_enter]
  go_at_call 179; refine (addInv_any p _).mono ?_; rintro e w1 ⟨rfl, hx0⟩; have hy := Ext.trans (a := w) EX hx0; clear hx; have hx := hy; clear hy; have hn0 := BB hx0 (w.heap.size); have hn1 := BB hx0 (w.heap.size + 1); (first | simp [↓heap_drew_at, ↓heap_drewN_at, ↓heap_alloc_at, ↓heap_set_at, ne_two, ne_three, ne_two_left, ne_three_left, ↓hb0.eq, hb0.lt, hb0.ne, ↓hb1.eq, hb1.lt, hb1.ne] at hn0 hn1 | simp [↓heap_drew_at, ↓heap_drewN_at, ↓heap_alloc_at, ↓heap_set_at, ne_two, ne_three, ne_two_left, ne_three_left] at hn0 hn1); (try clear hb0 hc0 hf0 hl0); (try clear hb1 hc1 hf1 hl1); have hb0 := Blk.mk hn0; clear hn0; obtain ⟨hc0, hf0, hl0⟩ := hb0.all; have hb1 := Blk.mk hn1; clear hn1; obtain ⟨hc1, hf1, hl1⟩ := hb1.all; (try clear hx0)
  rw [HI.out]
  go_wp2_with fail
  refine bodyPost_ret (v := .tuple #[(q.inv.pv none 0 none 0).v, .int .i64 0]) ?_ rfl ?_
  · simp only [results, Tryz.results51]
    go_simp
  · exact ⟨_, rfl, Is.none _ _ q.inv Ho.out.1 Ho.out.2, EX⟩

set_option maxHeartbeats 4000000 in
set_option maxRecDepth 100000 in
theorem inv_rem (p : Pv) (q : Qp) (w : World) (hg : Glob w) {F : Nat → Prop} (h : Is w F p q) (b1 : q.old.length ≤ 1152921504606846976) (b2 : q.new.length ≤ 1152921504606846976) (b3 : q.path.size ≤ 1152921504606846976) (b4 : q.to_.size ≤ 1152921504606846976) (hc : q.check = 0) (hK : q.kind = 2 ∨ q.kind = 4) :
    Calls Tryz.prog 51 #[p.v] w (GivesP q.inv (.int .i64 0) w) := by
  have H := Lib.hid h
  have Hg := Lib.hid hg
  obtain ⟨A1, c1, A2, c2, rfl, _⟩ := h
  have ha : (q.pv A1 c1 A2 c2).act = .iface 104 (q.pv A1 c1 A2 c2).v := by rw [Pv.act, if_neg (by dsimp only; omega), if_pos hK]
  have hi : (q.pv A1 c1 A2 c2).remInv = q.inv.pv none 0 none 0 := by rcases hK with hK | hK <;> simp [Qp.inv, Pv.remInv, Pv.zero, Qp.zero, hK]
  have ho : q.inv.old = [] ∧ q.inv.new = [] := by rcases hK with hK | hK <;> simp [Qp.inv, Pv.remInv, Pv.zero, Qp.zero, hK]
  have Ha := Lib.hid ha
  have HI := Lib.hid hi
  have Ho := Lib.hid ho
  have Hc := Lib.hid hc
  clear ha hi hg ho hc hK
  generalize hp : q.pv A1 c1 A2 c2 = p at *
  clear hp
  go_enter Tryz.func51, Tryz.ntmps51
  have hx := Ext.refl w
  go_wp2_with fail
  go_at_call 38; refine (check_q p q _ (Hg.out.ext EX) (H.out.ext EX) b1 b2 b3 b4).mono ?_; rintro e w1 ⟨rfl, hx0⟩; have hy := Ext.trans (a := w) EX hx0; clear hx; have hx := hy; clear hy; have hn0 := BB hx0 (w.heap.size); have hn1 := BB hx0 (w.heap.size + 1); (first | simp [↓heap_drew_at, ↓heap_drewN_at, ↓heap_alloc_at, ↓heap_set_at, ne_two, ne_three, ne_two_left, ne_three_left, ↓hb0.eq, hb0.lt, hb0.ne, ↓hb1.eq, hb1.lt, hb1.ne] at hn0 hn1 | simp [↓heap_drew_at, ↓heap_drewN_at, ↓heap_alloc_at, ↓heap_set_at, ne_two, ne_three, ne_two_left, ne_three_left] at hn0 hn1); (try clear hb0 hc0 hf0 hl0); (try clear hb1 hc1 hf1 hl1); have hb0 := Blk.mk hn0; clear hn0; obtain ⟨hc0, hf0, hl0⟩ := hb0.all; have hb1 := Blk.mk hn1; clear hn1; obtain ⟨hc1, hf1, hl1⟩ := hb1.all; (try clear hx0)
  rw [Hc.out]
  go_wp2_with fail
  go_at_call 40; refine (action_any p _).mono ?_; rintro e w1 ⟨rfl, hx0⟩; have hy := Ext.trans (a := w) EX hx0; clear hx; have hx := hy; clear hy; have hn0 := BB hx0 (w.heap.size); have hn1 := BB hx0 (w.heap.size + 1); (first | simp [↓heap_drew_at, ↓heap_drewN_at, ↓heap_alloc_at, ↓heap_set_at, ne_two, ne_three, ne_two_left, ne_three_left, ↓hb0.eq, hb0.lt, hb0.ne, ↓hb1.eq, hb1.lt, hb1.ne] at hn0 hn1 | simp [↓heap_drew_at, ↓heap_drewN_at, ↓heap_alloc_at, ↓heap_set_at, ne_two, ne_three, ne_two_left, ne_three_left] at hn0 hn1); (try clear hb0 hc0 hf0 hl0); (try clear hb1 hc1 hf1 hl1); have hb0 := Blk.mk hn0; clear hn0; obtain ⟨hc0, hf0, hl0⟩ := hb0.all; have hb1 := Blk.mk hn1; clear hn1; obtain ⟨hc1, hf1, hl1⟩ := hb1.all; (try clear hx0)
  rw [Ha.out]
  go_wp2_with fail
  refine upon_method (f := 202) (by kernel_rfl) (by kernel_rfl) ?_
  rw [Oper.upon_enter]
  go_at_call 202; refine (remInv_any p _).mono ?_; rintro e w1 ⟨rfl, hx0⟩; have hy := Ext.trans (a := w) EX hx0; clear hx; have hx := hy; clear hy; have hn0 := BB hx0 (w.heap.size); have hn1 := BB hx0 (w.heap.size + 1); (first | simp [↓heap_drew_at, ↓heap_drewN_at, ↓heap_alloc_at, ↓heap_set_at, ne_two, ne_three, ne_two_left, ne_three_left, ↓hb0.eq, hb0.lt, hb0.ne, ↓hb1.eq, hb1.lt, hb1.ne] at hn0 hn1 | simp [↓heap_drew_at, ↓heap_drewN_at, ↓heap_alloc_at, ↓heap_set_at, ne_two, ne_three, ne_two_left, ne_three_left] at hn0 hn1); (try clear hb0 hc0 hf0 hl0); (try clear hb1 hc1 hf1 hl1); have hb0 := Blk.mk hn0; clear hn0; obtain ⟨hc0, hf0, hl0⟩ := hb0.all; have hb1 := Blk.mk hn1; clear hn1; obtain ⟨hc1, hf1, hl1⟩ := hb1.all; (try clear hx0)
  rw [HI.out]
  go_wp2_with fail
  refine bodyPost_ret (v := .tuple #[(q.inv.pv none 0 none 0).v, .int .i64 0]) ?_ rfl ?_
  · simp only [results, Tryz.results51]
    go_simp
  · exact ⟨_, rfl, Is.none _ _ q.inv Ho.out.1 Ho.out.2, EX⟩

set_option maxHeartbeats 4000000 in
set_option maxRecDepth 100000 in
theorem inv_mov (p : Pv) (q : Qp) (w : World) (hg : Glob w) {F : Nat → Prop} (h : Is w F p q) (b1 : q.old.length ≤ 1152921504606846976) (b2 : q.new.length ≤ 1152921504606846976) (b3 : q.path.size ≤ 1152921504606846976) (b4 : q.to_.size ≤ 1152921504606846976) (hc : q.check = 0) (hK : q.kind = 5) :
    Calls Tryz.prog 51 #[p.v] w (GivesP q.inv (.int .i64 0) w) := by
  have H := Lib.hid h
  have Hg := Lib.hid hg
  obtain ⟨A1, c1, A2, c2, rfl, _⟩ := h
  have ha : (q.pv A1 c1 A2 c2).act = .iface 105 (q.pv A1 c1 A2 c2).v := by rw [Pv.act, if_neg (by dsimp only; omega), if_neg (by dsimp only; omega), if_pos hK]
  have hi : (q.pv A1 c1 A2 c2).movInv = q.inv.pv none 0 none 0 := by simp [Qp.inv, Pv.movInv, Pv.zero, Qp.zero, hK]
  have ho : q.inv.old = [] ∧ q.inv.new = [] := by simp [Qp.inv, Pv.movInv, Pv.zero, Qp.zero, hK]
  have Ha := Lib.hid ha
  have HI := Lib.hid hi
  have Ho := Lib.hid ho
  have Hc := Lib.hid hc
  clear ha hi hg ho hc hK
  generalize hp : q.pv A1 c1 A2 c2 = p at *
  clear hp
  go_enter Tryz.func51, Tryz.ntmps51
  have hx := Ext.refl w
  go_wp2_with fail
  go_at_call 38; refine (check_q p q _ (Hg.out.ext EX) (H.out.ext EX) b1 b2 b3 b4).mono ?_; rintro e w1 ⟨rfl, hx0⟩; have hy := Ext.trans (a := w) EX hx0; clear hx; have hx := hy; clear hy; have hn0 := BB hx0 (w.heap.size); have hn1 := BB hx0 (w.heap.size + 1); (first | simp [↓heap_drew_at, ↓heap_drewN_at, ↓heap_alloc_at, ↓heap_set_at, ne_two, ne_three, ne_two_left, ne_three_left, ↓hb0.eq, hb0.lt, hb0.ne, ↓hb1.eq, hb1.lt, hb1.ne] at hn0 hn1 | simp [↓heap_drew_at, ↓heap_drewN_at, ↓heap_alloc_at, ↓heap_set_at, ne_two, ne_three, ne_two_left, ne_three_left] at hn0 hn1); (try clear hb0 hc0 hf0 hl0); (try clear hb1 hc1 hf1 hl1); have hb0 := Blk.mk hn0; clear hn0; obtain ⟨hc0, hf0, hl0⟩ := hb0.all; have hb1 := Blk.mk hn1; clear hn1; obtain ⟨hc1, hf1, hl1⟩ := hb1.all; (try clear hx0)
  rw [Hc.out]
  go_wp2_with fail
  go_at_call 40; refine (action_any p _).mono ?_; rintro e w1 ⟨rfl, hx0⟩; have hy := Ext.trans (a := w) EX hx0; clear hx; have hx := hy; clear hy; have hn0 := BB hx0 (w.heap.size); have hn1 := BB hx0 (w.heap.size + 1); (first | simp [↓heap_drew_at, ↓heap_drewN_at, ↓heap_alloc_at, ↓heap_set_at, ne_two, ne_three, ne_two_left, ne_three_left, ↓hb0.eq, hb0.lt, hb0.ne, ↓hb1.eq, hb1.lt, hb1.ne] at hn0 hn1 | simp [↓heap_drew_at, ↓heap_drewN_at, ↓heap_alloc_at, ↓heap_set_at, ne_two, ne_three, ne_two_left, ne_three_left] at hn0 hn1); (try clear hb0 hc0 hf0 hl0); (try clear hb1 hc1 hf1 hl1); have hb0 := Blk.mk hn0; clear hn0; obtain ⟨hc0, hf0, hl0⟩ := hb0.all; have hb1 := Blk.mk hn1; clear hn1; obtain ⟨hc1, hf1, hl1⟩ := hb1.all; (try clear hx0)
  rw [Ha.out]
  go_wp2_with fail
  refine upon_method (f := 207) (by kernel_rfl) (by kernel_rfl) ?_
  rw [Oper.upon_enter]
  go_at_call 207; refine (movInv_any p _).mono ?_; rintro e w1 ⟨rfl, hx0⟩; have hy := Ext.trans (a := w) EX hx0; clear hx; have hx := hy; clear hy; have hn0 := BB hx0 (w.heap.size); have hn1 := BB hx0 (w.heap.size + 1); (first | simp [↓heap_drew_at, ↓heap_drewN_at, ↓heap_alloc_at, ↓heap_set_at, ne_two, ne_three, ne_two_left, ne_three_left, ↓hb0.eq, hb0.lt, hb0.ne, ↓hb1.eq, hb1.lt, hb1.ne] at hn0 hn1 | simp [↓heap_drew_at, ↓heap_drewN_at, ↓heap_alloc_at, ↓heap_set_at, ne_two, ne_three, ne_two_left, ne_three_left] at hn0 hn1); (try clear hb0 hc0 hf0 hl0); (try clear hb1 hc1 hf1 hl1); have hb0 := Blk.mk hn0; clear hn0; obtain ⟨hc0, hf0, hl0⟩ := hb0.all; have hb1 := Blk.mk hn1; clear hn1; obtain ⟨hc1, hf1, hl1⟩ := hb1.all; (try clear hx0)
  rw [HI.out]
  go_wp2_with fail
  refine bodyPost_ret (v := .tuple #[(q.inv.pv none 0 none 0).v, .int .i64 0]) ?_ rfl ?_
  · simp only [results, Tryz.results51]
    go_simp
  · exact ⟨_, rfl, Is.none _ _ q.inv Ho.out.1 Ho.out.2, EX⟩

set_option maxHeartbeats 4000000 in
set_option maxRecDepth 100000 in
theorem inv_ed (p : Pv) (q : Qp) (w : World) (hg : Glob w) {F : Nat → Prop} (h : Is w F p q) (b1 : q.old.length ≤ 1152921504606846976) (b2 : q.new.length ≤ 1152921504606846976) (b3 : q.path.size ≤ 1152921504606846976) (b4 : q.to_.size ≤ 1152921504606846976) (hc : q.check = 0) (hK : q.kind = 6 ∨ q.kind = 7 ∨ q.kind = 8) :
    Calls Tryz.prog 51 #[p.v] w (GivesP q.inv (.int .i64 0) w) := by
  have hsm := Qp.small hc
  have m1 : q.old.length ≤ 4194304 := by omega
  have m2 : q.new.length ≤ 4194304 := by omega
  clear hsm
  have H := Lib.hid h
  have Hg := Lib.hid hg
  obtain ⟨A1, c1, A2, c2, rfl, ⟨s1, s2⟩, _⟩ := h
  have ha : (q.pv A1 c1 A2 c2).act = .iface 106 (q.pv A1 c1 A2 c2).v := by rw [Pv.act, if_neg (by dsimp only; omega), if_neg (by dsimp only; omega), if_neg (by dsimp only; omega), if_pos hK]
  have hi : q.inv = { q with old := q.new, new := q.old, so := q.sn, sn := q.so, om := q.nm, nm := q.om } := by rw [Qp.inv, if_neg (by omega), if_neg (by omega), if_neg (by omega), if_neg (by omega), if_neg (by omega)]
  have Ha := Lib.hid ha
  have HI := Lib.hid hi
  have Hc := Lib.hid hc
  have S1 := Lib.hid s1
  have S2 := Lib.hid s2
  clear ha hi hg hc hK s1 s2
  go_enter Tryz.func51, Tryz.ntmps51
  have hx := Ext.refl w
  go_wp2_with fail
  go_at_call 38; refine (check_q (q.pv A1 c1 A2 c2) q _ (Hg.out.ext EX) (H.out.ext EX) b1 b2 b3 b4).mono ?_; rintro e w1 ⟨rfl, hx0⟩; have hy := Ext.trans (a := w) EX hx0; clear hx; have hx := hy; clear hy; have hn0 := BB hx0 (w.heap.size); have hn1 := BB hx0 (w.heap.size + 1); (first | simp [↓heap_drew_at, ↓heap_drewN_at, ↓heap_alloc_at, ↓heap_set_at, ne_two, ne_three, ne_two_left, ne_three_left, ↓hb0.eq, hb0.lt, hb0.ne, ↓hb1.eq, hb1.lt, hb1.ne] at hn0 hn1 | simp [↓heap_drew_at, ↓heap_drewN_at, ↓heap_alloc_at, ↓heap_set_at, ne_two, ne_three, ne_two_left, ne_three_left] at hn0 hn1); (try clear hb0 hc0 hf0 hl0); (try clear hb1 hc1 hf1 hl1); have hb0 := Blk.mk hn0; clear hn0; obtain ⟨hc0, hf0, hl0⟩ := hb0.all; have hb1 := Blk.mk hn1; clear hn1; obtain ⟨hc1, hf1, hl1⟩ := hb1.all; (try clear hx0)
  rw [Hc.out]
  go_wp2_with fail
  go_at_call 40; refine (action_any (q.pv A1 c1 A2 c2) _).mono ?_; rintro e w1 ⟨rfl, hx0⟩; have hy := Ext.trans (a := w) EX hx0; clear hx; have hx := hy; clear hy; have hn0 := BB hx0 (w.heap.size); have hn1 := BB hx0 (w.heap.size + 1); (first | simp [↓heap_drew_at, ↓heap_drewN_at, ↓heap_alloc_at, ↓heap_set_at, ne_two, ne_three, ne_two_left, ne_three_left, ↓hb0.eq, hb0.lt, hb0.ne, ↓hb1.eq, hb1.lt, hb1.ne] at hn0 hn1 | simp [↓heap_drew_at, ↓heap_drewN_at, ↓heap_alloc_at, ↓heap_set_at, ne_two, ne_three, ne_two_left, ne_three_left] at hn0 hn1); (try clear hb0 hc0 hf0 hl0); (try clear hb1 hc1 hf1 hl1); have hb0 := Blk.mk hn0; clear hn0; obtain ⟨hc0, hf0, hl0⟩ := hb0.all; have hb1 := Blk.mk hn1; clear hn1; obtain ⟨hc1, hf1, hl1⟩ := hb1.all; (try clear hx0)
  rw [Ha.out]
  go_wp2_with fail
  refine upon_method (f := 230) (by kernel_rfl) (by kernel_rfl) ?_
  rw [Oper.upon_enter]
  refine (edInv_any (q.pv A1 c1 A2 c2) q.old q.new _ (S1.out.ext EX) (S2.out.ext EX) m1 m2).mono ?_
  rintro e w1 ⟨B1, d1, B2, d2, rfl, t1, t2, i1, i2, hx0⟩
  replace i1 : Hi (w.heap.size + 1 + 1) B1 := i1.le (by first | exact hl1 | omega)
  replace i2 : Hi (w.heap.size + 1 + 1) B2 := i2.le (by first | exact hl1 | omega)
  have hy := Ext.trans (a := w) EX hx0; clear hx; have hx := hy; clear hy; have hn0 := BB hx0 (w.heap.size); have hn1 := BB hx0 (w.heap.size + 1); (first | simp [↓heap_drew_at, ↓heap_drewN_at, ↓heap_alloc_at, ↓heap_set_at, ne_two, ne_three, ne_two_left, ne_three_left, ↓hb0.eq, hb0.lt, hb0.ne, ↓hb1.eq, hb1.lt, hb1.ne] at hn0 hn1 | simp [↓heap_drew_at, ↓heap_drewN_at, ↓heap_alloc_at, ↓heap_set_at, ne_two, ne_three, ne_two_left, ne_three_left] at hn0 hn1); (try clear hb0 hc0 hf0 hl0); (try clear hb1 hc1 hf1 hl1); have hb0 := Blk.mk hn0; clear hn0; obtain ⟨hc0, hf0, hl0⟩ := hb0.all; have hb1 := Blk.mk hn1; clear hn1; obtain ⟨hc1, hf1, hl1⟩ := hb1.all; (try clear hx0)
  have T1 := Lib.hid t1
  have T2 := Lib.hid t2
  clear t1 t2
  go_wp2_with fail
  refine bodyPost_ret (v := .tuple #[(Pv.v ⟨q.kind, q.path, q.to_, q.ty, q.at_, B1, q.new.length, d1, B2, q.old.length, d2, q.off, q.sn, q.so, q.nm, q.om⟩), .int .i64 0]) ?_ rfl ?_
  · simp only [results, Tryz.results51]
    go_simp
  · refine ⟨_, rfl, ?_, ?_⟩
    · rw [HI.out]
      refine ⟨B1, d1, B2, d2, rfl, ⟨?_, ?_⟩, (i1.le (by omega)).fp _, (i2.le (by omega)).fp _⟩
      · repeat (first | with_reducible exact T1.out | with_reducible refine Sl.set ?_ i1 _)
      · repeat (first | with_reducible exact T2.out | with_reducible refine Sl.set ?_ i2 _)
    · exact EX

theorem Qp.kinds {q : Qp} (h : q.check = 0) : (q.kind = 1 ∨ q.kind = 3) ∨ (q.kind = 2 ∨ q.kind = 4) ∨ q.kind = 5 ∨ (q.kind = 6 ∨ q.kind = 7 ∨ q.kind = 8) := by
  have := Qp.small h
  omega
theorem inv_good (p : Pv) (q : Qp) (w : World) (hg : Glob w) {F : Nat → Prop} (h : Is w F p q) (b1 : q.old.length ≤ 1152921504606846976) (b2 : q.new.length ≤ 1152921504606846976) (b3 : q.path.size ≤ 1152921504606846976) (b4 : q.to_.size ≤ 1152921504606846976) (hc : q.check = 0) :
    Calls Tryz.prog 51 #[p.v] w (GivesP q.inv (.int .i64 0) w) := by
  rcases Qp.kinds hc with k | k | k | k
  · exact inv_add p q w hg h b1 b2 b3 b4 hc k
  · exact inv_rem p q w hg h b1 b2 b3 b4 hc k
  · exact inv_mov p q w hg h b1 b2 b3 b4 hc k
  · exact inv_ed p q w hg h b1 b2 b3 b4 hc k

set_option maxHeartbeats 4000000 in
set_option maxRecDepth 100000 in
theorem inverse_any (p : Pv) (q : Qp) (w : World) (hg : Glob w) {F : Nat → Prop} (h : Is w F p q) (b1 : q.old.length ≤ 1152921504606846976) (b2 : q.new.length ≤ 1152921504606846976) (b3 : q.path.size ≤ 1152921504606846976) (b4 : q.to_.size ≤ 1152921504606846976) (hc : q.check = 0) :
    Calls Tryz.prog 114 #[p.v] w (GivesOne q.inv w) := by
  have H := Lib.hid h
  have Hg := Lib.hid hg
  have Hc := Lib.hid hc
  clear h hg hc
  go_enter Tryz.func114, Tryz.ntmps114
  have hx := Ext.refl w
  go_wp2_with fail
  refine (inv_good p q _ (Hg.out.ext EX) (H.out.ext EX) b1 b2 b3 b4 Hc.out).mono ?_
  rintro e w1 ⟨p', rfl, t1, hx0⟩
  have T1 := Lib.hid t1
  clear t1
  have hy := Ext.trans (a := w) EX hx0; clear hx; have hx := hy; clear hy; have hn0 := BB hx0 (w.heap.size); have hn1 := BB hx0 (w.heap.size + 1); (first | simp [↓heap_drew_at, ↓heap_drewN_at, ↓heap_alloc_at, ↓heap_set_at, ne_two, ne_three, ne_two_left, ne_three_left, ↓hb0.eq, hb0.lt, hb0.ne, ↓hb1.eq, hb1.lt, hb1.ne] at hn0 hn1 | simp [↓heap_drew_at, ↓heap_drewN_at, ↓heap_alloc_at, ↓heap_set_at, ne_two, ne_three, ne_two_left, ne_three_left] at hn0 hn1); (try clear hb0 hc0 hf0 hl0); (try clear hb1 hc1 hf1 hl1); have hb0 := Blk.mk hn0; clear hn0; obtain ⟨hc0, hf0, hl0⟩ := hb0.all; have hb1 := Blk.mk hn1; clear hn1; obtain ⟨hc1, hf1, hl1⟩ := hb1.all; (try clear hx0)
  go_wp2_with fail
  refine bodyPost_ret (v := p'.v) ?_ rfl ?_
  · simp only [results, Tryz.results114]
    go_simp
  · have T : Is w1 (fun b => w.heap.size + 1 + 1 ≤ b) p' q.inv := T1.out.mono (fun b hb => by simpa using hb)
    have n1 : ¬ (w.heap.size + 1 + 1 ≤ w.heap.size + 1) := by omega
    refine ⟨p', rfl, Is.mono (F := fun b => w.heap.size + 1 + 1 ≤ b) ?_ ?_, ?_⟩
    · repeat (first | with_reducible exact T | with_reducible refine Is.alloc ?_ _ | refine Is.put ?_ n1 _)
    · intro b hb
      omega
    · exact EX
end Go.Proofs.YtfmgnaigcibcaaaGreatDoor
namespace Go.Proofs.YtfmgnaigcibcaaaGreatDoor
open Go.RowKit

set_option maxHeartbeats 400000 in
theorem below_any (s t : ByteArray) (w : World) (ht : t.size ≤ 4611686018427387904) :
    Calls Tryz.prog 118 #[.string s, .string t] w (Ret (.bool (Qm.below s t)) w) := by
  go_enter Tryz.func118, Tryz.ntmps118
  go_wp2_with (go_at_call 132; refine (Tryz.strings_HasPrefix _ _ _).mono ?_; rintro e w1 ⟨rfl, rfl⟩)
  go_ret
  exact Ret.mk rfl (Ext.refl _)

set_option maxHeartbeats 400000 in
theorem within_any (s t : ByteArray) (w : World) (ht : t.size ≤ 4611686018427387904) :
    Calls Tryz.prog 142 #[.string s, .string t] w (Ret (.bool (Qm.within s t)) w) := by
  go_enter Tryz.func142, Tryz.ntmps142
  go_wp2_with (go_at_call 118; refine (below_any _ _ _ ht).mono ?_; rintro e w1 ⟨rfl, hx⟩)
  · rename_i h
    go_ret
    exact Ret.mk (by simp [Qm.within, Qm.eqB, h]) (Ext.refl _)
  · rename_i h
    go_ret
    exact Ret.mk (by simp [Qm.within, Qm.eqB, h]) hx

set_option maxHeartbeats 400000 in
theorem adds_any (p : Pv) (w : World) :
    Calls Tryz.prog 119 #[p.v] w (Ret (.bool (Qm.adds p.kind)) w) := by
  go_enter Tryz.func119, Tryz.ntmps119
  go_wp2
  all_goals go_ret
  all_goals exact Ret.mk (by simp [Qm.adds, *]) ((Ext.refl w).alloc _)
 
set_option maxHeartbeats 400000 in
theorem frees_any (p : Pv) (w : World) :
    Calls Tryz.prog 117 #[p.v] w (Ret (.bool (Qm.frees p.kind)) w) := by
  go_enter Tryz.func117, Tryz.ntmps117
  go_wp2
  all_goals go_ret
  all_goals exact Ret.mk (by simp [Qm.frees, *]) ((Ext.refl w).alloc _)
  
set_option maxHeartbeats 400000 in
theorem newPath_any (p : Pv) (w : World) :
    Calls Tryz.prog 116 #[p.v] w (Ret (.tuple #[.string (Qm.newPath p.kind p.path p.to_).1, .bool (Qm.newPath p.kind p.path p.to_).2]) w) := by
  go_enter Tryz.func116, Tryz.ntmps116
  have hx := Ext.refl w
  cases ha : Qm.adds p.kind
  all_goals
    have Ha := Lib.hid ha; clear ha
    go_wp2_with (go_at_call 119; refine (adds_any p _).mono ?_; rintro e w1 ⟨rfl, hx0⟩; have hy := Ext.trans (a := w) EX hx0; clear hx; have hx := hy; clear hy; have hn0 := BB hx0 (w.heap.size); (first | simp [↓heap_drew_at, ↓heap_drewN_at, ↓heap_alloc_at, ↓heap_set_at, ne_two, ne_three, ne_two_left, ne_three_left, ↓hb0.eq, hb0.lt, hb0.ne] at hn0 | simp [↓heap_drew_at, ↓heap_drewN_at, ↓heap_alloc_at, ↓heap_set_at, ne_two, ne_three, ne_two_left, ne_three_left] at hn0); (try clear hb0 hc0 hf0 hl0); have hb0 := Blk.mk hn0; clear hn0; obtain ⟨hc0, hf0, hl0⟩ := hb0.all; (try clear hx0); rw [Ha.out])
  · go_quiet (fail)
    go_wp2
    go_ret2
    exact Ret.mk (by simp [Qm.newPath, Ha.out]) EX
  · go_ret2
    exact Ret.mk (by simp [Qm.newPath, Ha.out]) EX

set_option maxHeartbeats 1000000 in
theorem after_any (p : Pv) (s : ByteArray) (w : World) (h1 : p.path.size ≤ 1152921504606846976) (h2 : p.to_.size ≤ 1152921504606846976) (hs : s.size ≤ 1152921504606846976) :
    Calls Tryz.prog 131 #[p.v, .string s] w (Ret (.tuple #[.string (Qm.after p.kind p.path p.to_ s).1, .bool (Qm.after p.kind p.path p.to_ s).2]) w) := by
  go_enter Tryz.func131, Tryz.ntmps131
  have hx := Ext.refl w
  go_wp2_with (first
    | (go_at_call 142; refine (within_any _ _ _ (by omega)).mono ?_; rintro e w1 ⟨rfl, hx0⟩; have hy := Ext.trans (a := w) EX hx0; clear hx; have hx := hy; clear hy; have hn0 := BB hx0 (w.heap.size); (first | simp [↓heap_drew_at, ↓heap_drewN_at, ↓heap_alloc_at, ↓heap_set_at, ne_two, ne_three, ne_two_left, ne_three_left, ↓hb0.eq, hb0.lt, hb0.ne] at hn0 | simp [↓heap_drew_at, ↓heap_drewN_at, ↓heap_alloc_at, ↓heap_set_at, ne_two, ne_three, ne_two_left, ne_three_left] at hn0); (try clear hb0 hc0 hf0 hl0); have hb0 := Blk.mk hn0; clear hn0; obtain ⟨hc0, hf0, hl0⟩ := hb0.all; (try clear hx0))
    | (go_at_call 118; refine (below_any _ _ _ (by omega)).mono ?_; rintro e w1 ⟨rfl, hx0⟩; have hy := Ext.trans (a := w) EX hx0; clear hx; have hx := hy; clear hy; have hn0 := BB hx0 (w.heap.size); (first | simp [↓heap_drew_at, ↓heap_drewN_at, ↓heap_alloc_at, ↓heap_set_at, ne_two, ne_three, ne_two_left, ne_three_left, ↓hb0.eq, hb0.lt, hb0.ne] at hn0 | simp [↓heap_drew_at, ↓heap_drewN_at, ↓heap_alloc_at, ↓heap_set_at, ne_two, ne_three, ne_two_left, ne_three_left] at hn0); (try clear hb0 hc0 hf0 hl0); have hb0 := Blk.mk hn0; clear hn0; obtain ⟨hc0, hf0, hl0⟩ := hb0.all; (try clear hx0)))
  all_goals first
    | (go_ret2; exact Ret.mk (by simp [Qm.after, *]) EX)
    | skip
  have hle := Qm.size_of_within (by assumption : Qm.within s p.path = true)
  go_quiet (fail)
  go_wp2
  go_ret2
  exact Ret.mk (by simp [Qm.after, *]) EX

set_option maxHeartbeats 1000000 in
set_option maxRecDepth 100000 in
theorem newAfter_any (p : Pv) (s : ByteArray) (w : World) (h1 : p.path.size ≤ 1152921504606846976) (h2 : p.to_.size ≤ 1152921504606846976) (hs : s.size ≤ 1152921504606846976) :
    Calls Tryz.prog 130 #[p.v, .string s] w (Ret (.tuple #[.string (Qm.newAfter p.kind p.path p.to_ s).1, .bool (Qm.newAfter p.kind p.path p.to_ s).2]) w) := by
  go_enter Tryz.func130, Tryz.ntmps130
  have hx := Ext.refl w
  go_wp2_with (first
    | (go_at_call 118; refine (below_any _ _ _ (by omega)).mono ?_; rintro e w1 ⟨rfl, hx0⟩; have hy := Ext.trans (a := w) EX hx0; clear hx; have hx := hy; clear hy; have hn0 := BB hx0 (w.heap.size); (first | simp [↓heap_drew_at, ↓heap_drewN_at, ↓heap_alloc_at, ↓heap_set_at, ne_two, ne_three, ne_two_left, ne_three_left, ↓hb0.eq, hb0.lt, hb0.ne] at hn0 | simp [↓heap_drew_at, ↓heap_drewN_at, ↓heap_alloc_at, ↓heap_set_at, ne_two, ne_three, ne_two_left, ne_three_left] at hn0); (try clear hb0 hc0 hf0 hl0); have hb0 := Blk.mk hn0; clear hn0; obtain ⟨hc0, hf0, hl0⟩ := hb0.all; (try clear hx0))
    | (go_at_call 104; refine (Tryz.strings_LastIndexByte _ _ (by omega) _).mono ?_; rintro e w1 ⟨rfl, rfl⟩))
  all_goals first
    | (go_ret2; refine Ret.mk ?_ ?_; (focus (simp [Qm.newAfter, *]; done)); (focus (exact EX; done)))
    | (go_ret2; refine Ret.mk ?_ ?_; (focus (have hk : ¬ 6 ≤ p.kind := (by omega); simp [Qm.newAfter, hk, *]; done)); (focus (exact EX; done)))
    | skip
  all_goals
    have hlt := Qm.lastIndex_lt s
    have h0 : 0 ≤ Lib.lastIndexByte s 47 := by assumption
    obtain ⟨i, hi⟩ := Int.eq_ofNat_of_zero_le h0
    have Hi := Lib.hid hi
    rw [hi] at hlt h0 ⊢
    clear hi
    have hle1 : (i : Int) ≤ s.size := by omega
    have hle2 : i ≤ s.size := by omega
    have hle3 : i < s.size := by omega
    refine wp_region_ext (by kernel_rfl) (by kernel_rfl) ?_
    repeat (first | go_big_quiet_skip | (go_big_quiet_want; first | (go_big_quiet_op; go_big_quiet_on) | (apply quiet_at; intro W hW; have hxW := Ext.trans (a := w) EX hW; have hn0 := BB hW (w.heap.size); (first | simp [↓heap_drew_at, ↓heap_drewN_at, ↓heap_alloc_at, ↓heap_set_at, ne_two, ne_three, ne_two_left, ne_three_left, ↓hb0.eq, hb0.lt, hb0.ne] at hn0 | simp [↓heap_drew_at, ↓heap_drewN_at, ↓heap_alloc_at, ↓heap_set_at, ne_two, ne_three, ne_two_left, ne_three_left] at hn0); (try clear hb0 hc0 hf0 hl0); have hb0 := Blk.mk hn0; clear hn0; obtain ⟨hc0, hf0, hl0⟩ := hb0.all; go_simp; (first | exact rfl | (simp only [Oper.quietUpon, true_and]; first | exact rfl | (go_at_call 131; exact quiet_call hW (after_any p _ _ h1 h2 (by simp only [ByteArray.size_extract]; omega)) (fun _ _ h => h))) | (go_at_call 131; exact quiet_call hW (after_any p _ _ h1 h2 (by simp only [ByteArray.size_extract]; omega)) (fun _ _ h => h))); go_big_quiet_on; simp only [Act.put, sA, s0, sS])))
    refine wpQuiet_nil ?_
    intro w1 hx0
    have hy := Ext.trans (a := w) EX hx0; clear hx; have hx := hy; clear hy; have hn0 := BB hx0 (w.heap.size); (first | simp [↓heap_drew_at, ↓heap_drewN_at, ↓heap_alloc_at, ↓heap_set_at, ne_two, ne_three, ne_two_left, ne_three_left, ↓hb0.eq, hb0.lt, hb0.ne] at hn0 | simp [↓heap_drew_at, ↓heap_drewN_at, ↓heap_alloc_at, ↓heap_set_at, ne_two, ne_three, ne_two_left, ne_three_left] at hn0); (try clear hb0 hc0 hf0 hl0); have hb0 := Blk.mk hn0; clear hn0; obtain ⟨hc0, hf0, hl0⟩ := hb0.all; (try clear hx0)
    have hle := Qm.after_size p.kind p.path p.to_ (s.extract 0 i)
    simp only [ByteArray.size_extract] at hle
    go_wp2
    have hn : ¬ ((i : Int) < 0) := by omega
    first
      | (go_ret2; refine Ret.mk ?_ ?_; (focus (simp [Qm.newAfter, Hi.out, hn, *]; done)); (focus (exact EX; done)))
      | (go_ret2; refine Ret.mk ?_ ?_; (focus (have hk : ¬ 6 ≤ p.kind := (by omega); simp [Qm.newAfter, Hi.out, hn, hk, *]; done)); (focus (exact EX; done)))

end Go.Proofs.YtfmgnaigcibcaaaGreatDoor
namespace Go.Proofs.YtfmgnaigcibcaaaGreatDoor
open Go.RowKit

set_option maxHeartbeats 2000000 in
set_option maxRecDepth 100000 in
theorem through_any (p q : Pv) (w : World) (h1 : p.path.size ≤ 1152921504606846976) (h2 : p.to_.size ≤ 1152921504606846976) (h3 : q.path.size ≤ 1152921504606846976) (h4 : q.to_.size ≤ 1152921504606846976) :
    Calls Tryz.prog 113 #[p.v, q.v] w (Ret (.tuple #[(Pv.through p q).1.v, .bool (Pv.through p q).2]) w) := by
  go_enter Tryz.func113, Tryz.ntmps113
  have hx := Ext.refl w
  cases ha : Qm.adds p.kind
  all_goals
    have Ha := Lib.hid ha; clear ha
    cases hk : (p.kind == 5)
  all_goals
    go_wp2_with (first
      | (go_at_call 119; refine (adds_any p _).mono ?_; rintro e w1 ⟨rfl, hx0⟩; have hy := Ext.trans (a := w) EX hx0; clear hx; have hx := hy; clear hy; have hn0 := BB hx0 (w.heap.size); have hn1 := BB hx0 (w.heap.size + 1); have hn2 := BB hx0 (w.heap.size + 1 + 1); (first | simp [↓heap_drew_at, ↓heap_drewN_at, ↓heap_alloc_at, ↓heap_set_at, ne_two, ne_three, ne_two_left, ne_three_left, ↓hb0.eq, hb0.lt, hb0.ne, ↓hb1.eq, hb1.lt, hb1.ne, ↓hb2.eq, hb2.lt, hb2.ne] at hn0 hn1 hn2 | simp [↓heap_drew_at, ↓heap_drewN_at, ↓heap_alloc_at, ↓heap_set_at, ne_two, ne_three, ne_two_left, ne_three_left] at hn0 hn1 hn2); (try clear hb0 hc0 hf0 hl0); (try clear hb1 hc1 hf1 hl1); (try clear hb2 hc2 hf2 hl2); have hb0 := Blk.mk hn0; clear hn0; obtain ⟨hc0, hf0, hl0⟩ := hb0.all; have hb1 := Blk.mk hn1; clear hn1; obtain ⟨hc1, hf1, hl1⟩ := hb1.all; have hb2 := Blk.mk hn2; clear hn2; obtain ⟨hc2, hf2, hl2⟩ := hb2.all; (try clear hx0); rw [Ha.out])
      | (go_at_call 130; refine (newAfter_any q _ _ (by omega) (by omega) (by omega)).mono ?_; rintro e w1 ⟨rfl, hx0⟩; have hy := Ext.trans (a := w) EX hx0; clear hx; have hx := hy; clear hy; have hn0 := BB hx0 (w.heap.size); have hn1 := BB hx0 (w.heap.size + 1); have hn2 := BB hx0 (w.heap.size + 1 + 1); (first | simp [↓heap_drew_at, ↓heap_drewN_at, ↓heap_alloc_at, ↓heap_set_at, ne_two, ne_three, ne_two_left, ne_three_left, ↓hb0.eq, hb0.lt, hb0.ne, ↓hb1.eq, hb1.lt, hb1.ne, ↓hb2.eq, hb2.lt, hb2.ne] at hn0 hn1 hn2 | simp [↓heap_drew_at, ↓heap_drewN_at, ↓heap_alloc_at, ↓heap_set_at, ne_two, ne_three, ne_two_left, ne_three_left] at hn0 hn1 hn2); (try clear hb0 hc0 hf0 hl0); (try clear hb1 hc1 hf1 hl1); (try clear hb2 hc2 hf2 hl2); have hb0 := Blk.mk hn0; clear hn0; obtain ⟨hc0, hf0, hl0⟩ := hb0.all; have hb1 := Blk.mk hn1; clear hn1; obtain ⟨hc1, hf1, hl1⟩ := hb1.all; have hb2 := Blk.mk hn2; clear hn2; obtain ⟨hc2, hf2, hl2⟩ := hb2.all; (try clear hx0))
      | (go_at_call 131; refine (after_any q _ _ (by omega) (by omega) (by omega)).mono ?_; rintro e w1 ⟨rfl, hx0⟩; have hy := Ext.trans (a := w) EX hx0; clear hx; have hx := hy; clear hy; have hn0 := BB hx0 (w.heap.size); have hn1 := BB hx0 (w.heap.size + 1); have hn2 := BB hx0 (w.heap.size + 1 + 1); (first | simp [↓heap_drew_at, ↓heap_drewN_at, ↓heap_alloc_at, ↓heap_set_at, ne_two, ne_three, ne_two_left, ne_three_left, ↓hb0.eq, hb0.lt, hb0.ne, ↓hb1.eq, hb1.lt, hb1.ne, ↓hb2.eq, hb2.lt, hb2.ne] at hn0 hn1 hn2 | simp [↓heap_drew_at, ↓heap_drewN_at, ↓heap_alloc_at, ↓heap_set_at, ne_two, ne_three, ne_two_left, ne_three_left] at hn0 hn1 hn2); (try clear hb0 hc0 hf0 hl0); (try clear hb1 hc1 hf1 hl1); (try clear hb2 hc2 hf2 hl2); have hb0 := Blk.mk hn0; clear hn0; obtain ⟨hc0, hf0, hl0⟩ := hb0.all; have hb1 := Blk.mk hn1; clear hn1; obtain ⟨hc1, hf1, hl1⟩ := hb1.all; have hb2 := Blk.mk hn2; clear hn2; obtain ⟨hc2, hf2, hl2⟩ := hb2.all; (try clear hx0)))
    all_goals (refine bodyPost_ret (v := .tuple #[(Pv.through p q).1.v, .bool (Pv.through p q).2]) ?_ rfl ?_; (focus (simp only [results, Tryz.results113]; go_simp; (try (simp [Pv.through, Ha.out, *])); done)); refine Ret.mk rfl ?_; (focus (exact EX; done)))
end Go.Proofs.YtfmgnaigcibcaaaGreatDoor
