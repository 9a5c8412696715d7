/- Walks: the check of a patch. -/
import Derived.Test.YtnjcifppkijanaaGreatDoorH
import Derived.Test.YtnjcifppkijanaaGreatDoorK
import Derived.Test.YtnjcifppkijanaaGreatDoorE
set_option linter.unusedSimpArgs false
set_option linter.unusedVariables false
namespace Go.Proofs.YtnjcifppkijanaaGreatDoor
open Go.RowKit

def Pv.edCheck6 (p : Pv) (o n : List ByteArray) : Int := if p.kind = 6 then p.linesCheck o n else p.edCheck
def Pv.actCheck (p : Pv) (o n : List ByteArray) : Int :=
  if p.kind = 1 ∨ p.kind = 3 then p.addCheck else if p.kind = 2 ∨ p.kind = 4 then p.remCheck else if p.kind = 5 then p.movCheck else p.edCheck6 o n
def Pv.known (p : Pv) : Bool := decide (1 ≤ p.kind) && decide (p.kind ≤ 8)
def Pv.pathsOk (p : Pv) : Bool := Qm.isPath p.path && (!(p.kind == 5) || Qm.isPath p.to_)
/-- primpatch.Check. -/
def Pv.check (p : Pv) (o n : List ByteArray) : Int :=
  if p.known = false then 8 else if p.tidy = false then 1 else if p.pathsOk = false then 5 else p.actCheck o n

set_option maxHeartbeats 1600000 in
theorem edCheck6_any (p : Pv) (o n : List ByteArray) (w : World) (h1 : Sl w p.A1 p.n1 p.c1 o) (h2 : Sl w p.A2 p.n2 p.c2 n) (b1 : p.n1 ≤ 1152921504606846976) (b2 : p.n2 ≤ 1152921504606846976) :
    Calls Tryz.prog 210 #[p.v] w (Ret (.int .i64 (p.edCheck6 o n)) w) := by
  by_cases h6 : p.kind = 6
  · have hv : p.edCheck6 o n = p.linesCheck o n := by rw [Pv.edCheck6, if_pos h6]
    have hk : (p.kind == 6) = true := by simpa using h6
    rw [hv]
    clear hv h6
    have H1 := Lib.hid h1
    have H2 := Lib.hid h2
    clear h1 h2
    go_enter Tryz.func210, Tryz.ntmps210
    have hx := Ext.refl w
    go_wp2_with (go_at_call 212; refine (checkLines_any p o n _ (H1.out.ext EX) (H2.out.ext EX) (by omega) (by omega)).mono ?_; rintro e w1 ⟨rfl, hx0⟩; have hy := Ext.trans (a := w) EX hx0; clear hx; have hx := hy; clear hy; skip; (try clear hx0))
    (go_ret; refine Ret.mk ?_ ?_; (focus (rfl; done)); (focus (exact EX; done)))
  · have hv : p.edCheck6 o n = p.edCheck := by rw [Pv.edCheck6, if_neg h6]
    rw [hv]
    exact edCheck_any p w h6

theorem upon_method {P : Program} {o : Oper} {a : Act} {K : Act → World → Prop} {Q : Exit → Act → World → Prop} {k : Nat} {T : TypeId} {v : Value} {name : String} {w : World} {f : FuncId} (h : (method k T v name).run P w = .ok (f, v) w)
    (hf : (callFunc f #[v]).run P w = .ok (.enter f #[v]) w) (hc : Oper.upon P o a K Q (.ok (.enter f #[v]) w)) : Oper.upon P o a K Q (((method k T v name).run P w).andThen fun a w' => (callFunc a.fst #[a.snd]).run P w') := by
  rw [h]
  show Oper.upon P o a K Q ((callFunc f #[v]).run P w)
  rw [hf]
  exact hc

theorem act_known {p : Pv} (h : p.known = true) : ∃ T, p.act = .iface T p.v := by
  simp only [Pv.known, Bool.and_eq_true, decide_eq_true_eq] at h
  unfold Pv.act
  repeat' split
  all_goals first | exact ⟨_, rfl⟩ | omega
theorem act_unknown {p : Pv} (h : p.known = false) : p.act = .nilIface := by
  have h' : ¬ (1 ≤ p.kind ∧ p.kind ≤ 8) := by
    intro hh
    have : p.known = true := by simp [Pv.known, hh]
    rw [h] at this
    cases this
  unfold Pv.act
  repeat' split
  all_goals first | rfl | omega

set_option maxHeartbeats 4000000 in
set_option maxRecDepth 100000 in
theorem check_unknown (p : Pv) (o n : List ByteArray) (w : World) (hg : Glob w) (h1 : Sl w p.A1 p.n1 p.c1 o) (h2 : Sl w p.A2 p.n2 p.c2 n) (b1 : p.n1 ≤ 1152921504606846976) (b2 : p.n2 ≤ 1152921504606846976) (b3 : p.path.size ≤ 1152921504606846976) (b4 : p.to_.size ≤ 1152921504606846976) (hk : p.known = false) :
    Calls Tryz.prog 74 #[p.v] w (Ret (.int .i64 (p.check o n)) w) := by
  have hv : p.check o n = 8 := by rw [Pv.check, if_pos hk]
  rw [hv]
  have Ha := Lib.hid (act_unknown hk)
  clear h1 h2 hg hk hv
  go_enter Tryz.func74, Tryz.ntmps74
  have hx := Ext.refl w
  go_wp2_with (go_at_call 95; refine (action_any p _).mono ?_; rintro e w1 ⟨rfl, hx0⟩; have hy := Ext.trans (a := w) EX hx0; clear hx; have hx := hy; clear hy; have hn0 := BB hx0 (w.heap.size); (first | simp [↓heap_drew_at, ↓heap_drewN_at, ↓heap_alloc_at, ↓heap_set_at, ne_two, ne_three, ne_two_left, ne_three_left, ↓hb0.eq, hb0.lt, hb0.ne] at hn0 | simp [↓heap_drew_at, ↓heap_drewN_at, ↓heap_alloc_at, ↓heap_set_at, ne_two, ne_three, ne_two_left, ne_three_left] at hn0); (try clear hb0 hc0 hf0 hl0); have hb0 := Blk.mk hn0; clear hn0; obtain ⟨hc0, hf0, hl0⟩ := hb0.all; (try clear hx0); rw [Ha.out])
  (go_ret; refine Ret.mk ?_ ?_; (focus (rfl; done)); (focus (exact EX; done)))

set_option maxHeartbeats 4000000 in
set_option maxRecDepth 100000 in
theorem check_untidy (p : Pv) (o n : List ByteArray) (w : World) (hg : Glob w) (h1 : Sl w p.A1 p.n1 p.c1 o) (h2 : Sl w p.A2 p.n2 p.c2 n) (b1 : p.n1 ≤ 1152921504606846976) (b2 : p.n2 ≤ 1152921504606846976) (b3 : p.path.size ≤ 1152921504606846976) (b4 : p.to_.size ≤ 1152921504606846976) (hk : p.known = true) (ht : p.tidy = false) :
    Calls Tryz.prog 74 #[p.v] w (Ret (.int .i64 (p.check o n)) w) := by
  have hv : p.check o n = 1 := by rw [Pv.check, if_neg (by rw [hk]; exact Bool.noConfusion), if_pos ht]
  rw [hv]
  obtain ⟨T, ha⟩ := act_known hk
  have Ha := Lib.hid ha
  have Ht := Lib.hid ht
  clear h1 h2 hg hk hv ha ht
  go_enter Tryz.func74, Tryz.ntmps74
  have hx := Ext.refl w
  go_wp2_with (first
    | (go_at_call 95; refine (action_any p _).mono ?_; rintro e w1 ⟨rfl, hx0⟩; have hy := Ext.trans (a := w) EX hx0; clear hx; have hx := hy; clear hy; have hn0 := BB hx0 (w.heap.size); (first | simp [↓heap_drew_at, ↓heap_drewN_at, ↓heap_alloc_at, ↓heap_set_at, ne_two, ne_three, ne_two_left, ne_three_left, ↓hb0.eq, hb0.lt, hb0.ne] at hn0 | simp [↓heap_drew_at, ↓heap_drewN_at, ↓heap_alloc_at, ↓heap_set_at, ne_two, ne_three, ne_two_left, ne_three_left] at hn0); (try clear hb0 hc0 hf0 hl0); have hb0 := Blk.mk hn0; clear hn0; obtain ⟨hc0, hf0, hl0⟩ := hb0.all; (try clear hx0); rw [Ha.out])
    | (go_at_call 96; refine (tidy_any p _ (by omega) (by omega)).mono ?_; rintro e w1 ⟨rfl, hx0⟩; have hy := Ext.trans (a := w) EX hx0; clear hx; have hx := hy; clear hy; have hn0 := BB hx0 (w.heap.size); (first | simp [↓heap_drew_at, ↓heap_drewN_at, ↓heap_alloc_at, ↓heap_set_at, ne_two, ne_three, ne_two_left, ne_three_left, ↓hb0.eq, hb0.lt, hb0.ne] at hn0 | simp [↓heap_drew_at, ↓heap_drewN_at, ↓heap_alloc_at, ↓heap_set_at, ne_two, ne_three, ne_two_left, ne_three_left] at hn0); (try clear hb0 hc0 hf0 hl0); have hb0 := Blk.mk hn0; clear hn0; obtain ⟨hc0, hf0, hl0⟩ := hb0.all; (try clear hx0); rw [Ht.out]))
  (go_ret; refine Ret.mk ?_ ?_; (focus (rfl; done)); (focus (exact EX; done)))

set_option maxHeartbeats 4000000 in
set_option maxRecDepth 100000 in
theorem check_badpath (p : Pv) (o n : List ByteArray) (w : World) (hg : Glob w) (h1 : Sl w p.A1 p.n1 p.c1 o) (h2 : Sl w p.A2 p.n2 p.c2 n) (b1 : p.n1 ≤ 1152921504606846976) (b2 : p.n2 ≤ 1152921504606846976) (b3 : p.path.size ≤ 1152921504606846976) (b4 : p.to_.size ≤ 1152921504606846976) (hk : p.known = true) (ht : p.tidy = true) (hp : Qm.isPath p.path = false) :
    Calls Tryz.prog 74 #[p.v] w (Ret (.int .i64 (p.check o n)) w) := by
  have hv : p.check o n = 5 := by rw [Pv.check, if_neg (by rw [hk]; exact Bool.noConfusion), if_neg (by rw [ht]; exact Bool.noConfusion), if_pos (by rw [Pv.pathsOk, hp]; rfl)]
  rw [hv]
  obtain ⟨T, ha⟩ := act_known hk
  have Ha := Lib.hid ha
  have Ht := Lib.hid ht
  have Hp := Lib.hid hp
  have Hg := Lib.hid hg
  clear h1 h2 hg hk hv ha ht hp
  go_enter Tryz.func74, Tryz.ntmps74
  have hx := Ext.refl w
  go_wp2_with (first
    | (go_at_call 95; refine (action_any p _).mono ?_; rintro e w1 ⟨rfl, hx0⟩; have hy := Ext.trans (a := w) EX hx0; clear hx; have hx := hy; clear hy; have hn0 := BB hx0 (w.heap.size); (first | simp [↓heap_drew_at, ↓heap_drewN_at, ↓heap_alloc_at, ↓heap_set_at, ne_two, ne_three, ne_two_left, ne_three_left, ↓hb0.eq, hb0.lt, hb0.ne] at hn0 | simp [↓heap_drew_at, ↓heap_drewN_at, ↓heap_alloc_at, ↓heap_set_at, ne_two, ne_three, ne_two_left, ne_three_left] at hn0); (try clear hb0 hc0 hf0 hl0); have hb0 := Blk.mk hn0; clear hn0; obtain ⟨hc0, hf0, hl0⟩ := hb0.all; (try clear hx0); rw [Ha.out])
    | (go_at_call 96; refine (tidy_any p _ (by omega) (by omega)).mono ?_; rintro e w1 ⟨rfl, hx0⟩; have hy := Ext.trans (a := w) EX hx0; clear hx; have hx := hy; clear hy; have hn0 := BB hx0 (w.heap.size); (first | simp [↓heap_drew_at, ↓heap_drewN_at, ↓heap_alloc_at, ↓heap_set_at, ne_two, ne_three, ne_two_left, ne_three_left, ↓hb0.eq, hb0.lt, hb0.ne] at hn0 | simp [↓heap_drew_at, ↓heap_drewN_at, ↓heap_alloc_at, ↓heap_set_at, ne_two, ne_three, ne_two_left, ne_three_left] at hn0); (try clear hb0 hc0 hf0 hl0); have hb0 := Blk.mk hn0; clear hn0; obtain ⟨hc0, hf0, hl0⟩ := hb0.all; (try clear hx0); rw [Ht.out])
    | (go_at_call 80; refine (isPath_any _ _ (Hg.out.ext EX)).mono ?_; rintro e w1 ⟨rfl, hx0⟩; have hy := Ext.trans (a := w) EX hx0; clear hx; have hx := hy; clear hy; have hn0 := BB hx0 (w.heap.size); (first | simp [↓heap_drew_at, ↓heap_drewN_at, ↓heap_alloc_at, ↓heap_set_at, ne_two, ne_three, ne_two_left, ne_three_left, ↓hb0.eq, hb0.lt, hb0.ne] at hn0 | simp [↓heap_drew_at, ↓heap_drewN_at, ↓heap_alloc_at, ↓heap_set_at, ne_two, ne_three, ne_two_left, ne_three_left] at hn0); (try clear hb0 hc0 hf0 hl0); have hb0 := Blk.mk hn0; clear hn0; obtain ⟨hc0, hf0, hl0⟩ := hb0.all; (try clear hx0); rw [Hp.out]))
  (go_ret; refine Ret.mk ?_ ?_; (focus (rfl; done)); (focus (exact EX; done)))

set_option maxHeartbeats 4000000 in
set_option maxRecDepth 100000 in
theorem check_badto (p : Pv) (o n : List ByteArray) (w : World) (hg : Glob w) (h1 : Sl w p.A1 p.n1 p.c1 o) (h2 : Sl w p.A2 p.n2 p.c2 n) (b1 : p.n1 ≤ 1152921504606846976) (b2 : p.n2 ≤ 1152921504606846976) (b3 : p.path.size ≤ 1152921504606846976) (b4 : p.to_.size ≤ 1152921504606846976) (hk : p.known = true) (ht : p.tidy = true) (hp : Qm.isPath p.path = true) (h5 : (p.kind == 5) = true) (hq : Qm.isPath p.to_ = false) :
    Calls Tryz.prog 74 #[p.v] w (Ret (.int .i64 (p.check o n)) w) := by
  have hv : p.check o n = 5 := by rw [Pv.check, if_neg (by rw [hk]; exact Bool.noConfusion), if_neg (by rw [ht]; exact Bool.noConfusion), if_pos (by rw [Pv.pathsOk, hp, h5, hq]; rfl)]
  rw [hv]
  obtain ⟨T, ha⟩ := act_known hk
  have Ha := Lib.hid ha
  have Ht := Lib.hid ht
  have Hp := Lib.hid hp
  have Hq := Lib.hid hq
  have Hg := Lib.hid hg
  clear h1 h2 hg hk hv ha ht hp hq
  go_enter Tryz.func74, Tryz.ntmps74
  have hx := Ext.refl w
  go_wp2_with fail
  go_at_call 95; refine (action_any p _).mono ?_; rintro e w1 ⟨rfl, hx0⟩; have hy := Ext.trans (a := w) EX hx0; clear hx; have hx := hy; clear hy; have hn0 := BB hx0 (w.heap.size); (first | simp [↓heap_drew_at, ↓heap_drewN_at, ↓heap_alloc_at, ↓heap_set_at, ne_two, ne_three, ne_two_left, ne_three_left, ↓hb0.eq, hb0.lt, hb0.ne] at hn0 | simp [↓heap_drew_at, ↓heap_drewN_at, ↓heap_alloc_at, ↓heap_set_at, ne_two, ne_three, ne_two_left, ne_three_left] at hn0); (try clear hb0 hc0 hf0 hl0); have hb0 := Blk.mk hn0; clear hn0; obtain ⟨hc0, hf0, hl0⟩ := hb0.all; (try clear hx0); rw [Ha.out]
  go_wp2_with fail
  go_at_call 96; refine (tidy_any p _ (by omega) (by omega)).mono ?_; rintro e w1 ⟨rfl, hx0⟩; have hy := Ext.trans (a := w) EX hx0; clear hx; have hx := hy; clear hy; have hn0 := BB hx0 (w.heap.size); (first | simp [↓heap_drew_at, ↓heap_drewN_at, ↓heap_alloc_at, ↓heap_set_at, ne_two, ne_three, ne_two_left, ne_three_left, ↓hb0.eq, hb0.lt, hb0.ne] at hn0 | simp [↓heap_drew_at, ↓heap_drewN_at, ↓heap_alloc_at, ↓heap_set_at, ne_two, ne_three, ne_two_left, ne_three_left] at hn0); (try clear hb0 hc0 hf0 hl0); have hb0 := Blk.mk hn0; clear hn0; obtain ⟨hc0, hf0, hl0⟩ := hb0.all; (try clear hx0); rw [Ht.out]
  go_wp2_with fail
  go_at_call 80; refine (isPath_any p.path _ (Hg.out.ext EX)).mono ?_; rintro e w1 ⟨rfl, hx0⟩; have hy := Ext.trans (a := w) EX hx0; clear hx; have hx := hy; clear hy; have hn0 := BB hx0 (w.heap.size); (first | simp [↓heap_drew_at, ↓heap_drewN_at, ↓heap_alloc_at, ↓heap_set_at, ne_two, ne_three, ne_two_left, ne_three_left, ↓hb0.eq, hb0.lt, hb0.ne] at hn0 | simp [↓heap_drew_at, ↓heap_drewN_at, ↓heap_alloc_at, ↓heap_set_at, ne_two, ne_three, ne_two_left, ne_three_left] at hn0); (try clear hb0 hc0 hf0 hl0); have hb0 := Blk.mk hn0; clear hn0; obtain ⟨hc0, hf0, hl0⟩ := hb0.all; (try clear hx0); rw [Hp.out]
  go_wp2_with fail
  go_at_call 80; refine (isPath_any p.to_ _ (Hg.out.ext EX)).mono ?_; rintro e w1 ⟨rfl, hx0⟩; have hy := Ext.trans (a := w) EX hx0; clear hx; have hx := hy; clear hy; have hn0 := BB hx0 (w.heap.size); (first | simp [↓heap_drew_at, ↓heap_drewN_at, ↓heap_alloc_at, ↓heap_set_at, ne_two, ne_three, ne_two_left, ne_three_left, ↓hb0.eq, hb0.lt, hb0.ne] at hn0 | simp [↓heap_drew_at, ↓heap_drewN_at, ↓heap_alloc_at, ↓heap_set_at, ne_two, ne_three, ne_two_left, ne_three_left] at hn0); (try clear hb0 hc0 hf0 hl0); have hb0 := Blk.mk hn0; clear hn0; obtain ⟨hc0, hf0, hl0⟩ := hb0.all; (try clear hx0); rw [Hq.out]
  go_wp2_with fail
  (go_ret; refine Ret.mk ?_ ?_; (focus (rfl; done)); (focus (exact EX; done)))

set_option maxHeartbeats 4000000 in
set_option maxRecDepth 100000 in
theorem check_add (p : Pv) (o n : List ByteArray) (w : World) (hg : Glob w) (h1 : Sl w p.A1 p.n1 p.c1 o) (h2 : Sl w p.A2 p.n2 p.c2 n) (b1 : p.n1 ≤ 1152921504606846976) (b2 : p.n2 ≤ 1152921504606846976) (b3 : p.path.size ≤ 1152921504606846976) (b4 : p.to_.size ≤ 1152921504606846976) (hK : p.kind = 1 ∨ p.kind = 3) (hk : p.known = true) (ht : p.tidy = true) (hp : p.pathsOk = true) :
    Calls Tryz.prog 74 #[p.v] w (Ret (.int .i64 (p.check o n)) w) := by
  have hv : p.check o n = p.addCheck := by rw [Pv.check, if_neg (by rw [hk]; exact Bool.noConfusion), if_neg (by rw [ht]; exact Bool.noConfusion), if_neg (by rw [hp]; exact Bool.noConfusion)]; rw [Pv.actCheck, if_pos hK]
  rw [hv]
  have ha : p.act = .iface 156 p.v := by rw [Pv.act, if_pos hK]
  have h5 : (p.kind == 5) = false := by simp; omega
  rw [Pv.pathsOk, h5] at hp
  simp only [Bool.not_true, Bool.not_false, Bool.true_or, Bool.false_or, Bool.and_true, Bool.and_eq_true] at hp
  have Ha := Lib.hid ha
  have Ht := Lib.hid ht
  have Hp := Lib.hid hp
  have Hg := Lib.hid hg
  have H1 := Lib.hid h1
  have H2 := Lib.hid h2
  clear h1 h2 hg hk hv ha ht hp hK
  go_enter Tryz.func74, Tryz.ntmps74
  have hx := Ext.refl w
  go_wp2_with fail
  go_at_call 95; refine (action_any p _).mono ?_; rintro e w1 ⟨rfl, hx0⟩; have hy := Ext.trans (a := w) EX hx0; clear hx; have hx := hy; clear hy; have hn0 := BB hx0 (w.heap.size); (first | simp [↓heap_drew_at, ↓heap_drewN_at, ↓heap_alloc_at, ↓heap_set_at, ne_two, ne_three, ne_two_left, ne_three_left, ↓hb0.eq, hb0.lt, hb0.ne] at hn0 | simp [↓heap_drew_at, ↓heap_drewN_at, ↓heap_alloc_at, ↓heap_set_at, ne_two, ne_three, ne_two_left, ne_three_left] at hn0); (try clear hb0 hc0 hf0 hl0); have hb0 := Blk.mk hn0; clear hn0; obtain ⟨hc0, hf0, hl0⟩ := hb0.all; (try clear hx0); rw [Ha.out]
  go_wp2_with fail
  go_at_call 96; refine (tidy_any p _ (by omega) (by omega)).mono ?_; rintro e w1 ⟨rfl, hx0⟩; have hy := Ext.trans (a := w) EX hx0; clear hx; have hx := hy; clear hy; have hn0 := BB hx0 (w.heap.size); (first | simp [↓heap_drew_at, ↓heap_drewN_at, ↓heap_alloc_at, ↓heap_set_at, ne_two, ne_three, ne_two_left, ne_three_left, ↓hb0.eq, hb0.lt, hb0.ne] at hn0 | simp [↓heap_drew_at, ↓heap_drewN_at, ↓heap_alloc_at, ↓heap_set_at, ne_two, ne_three, ne_two_left, ne_three_left] at hn0); (try clear hb0 hc0 hf0 hl0); have hb0 := Blk.mk hn0; clear hn0; obtain ⟨hc0, hf0, hl0⟩ := hb0.all; (try clear hx0); rw [Ht.out]
  go_wp2_with fail
  go_at_call 80; refine (isPath_any p.path _ (Hg.out.ext EX)).mono ?_; rintro e w1 ⟨rfl, hx0⟩; have hy := Ext.trans (a := w) EX hx0; clear hx; have hx := hy; clear hy; have hn0 := BB hx0 (w.heap.size); (first | simp [↓heap_drew_at, ↓heap_drewN_at, ↓heap_alloc_at, ↓heap_set_at, ne_two, ne_three, ne_two_left, ne_three_left, ↓hb0.eq, hb0.lt, hb0.ne] at hn0 | simp [↓heap_drew_at, ↓heap_drewN_at, ↓heap_alloc_at, ↓heap_set_at, ne_two, ne_three, ne_two_left, ne_three_left] at hn0); (try clear hb0 hc0 hf0 hl0); have hb0 := Blk.mk hn0; clear hn0; obtain ⟨hc0, hf0, hl0⟩ := hb0.all; (try clear hx0); rw [Hp.out]
  go_wp2_with fail
  refine upon_method (f := 199) (by kernel_rfl) (by kernel_rfl) ?_
  rw [Oper.upon_enter]
  go_at_call 199; refine (addCheck_any p _).mono ?_; rintro e w1 ⟨rfl, hx0⟩; have hy := Ext.trans (a := w) EX hx0; clear hx; have hx := hy; clear hy; have hn0 := BB hx0 (w.heap.size); (first | simp [↓heap_drew_at, ↓heap_drewN_at, ↓heap_alloc_at, ↓heap_set_at, ne_two, ne_three, ne_two_left, ne_three_left, ↓hb0.eq, hb0.lt, hb0.ne] at hn0 | simp [↓heap_drew_at, ↓heap_drewN_at, ↓heap_alloc_at, ↓heap_set_at, ne_two, ne_three, ne_two_left, ne_three_left] at hn0); (try clear hb0 hc0 hf0 hl0); have hb0 := Blk.mk hn0; clear hn0; obtain ⟨hc0, hf0, hl0⟩ := hb0.all; (try clear hx0)
  go_wp2_with fail
  (go_ret; refine Ret.mk ?_ ?_; (focus (rfl; done)); (focus (exact EX; done)))

set_option maxHeartbeats 4000000 in
set_option maxRecDepth 100000 in
theorem check_rem (p : Pv) (o n : List ByteArray) (w : World) (hg : Glob w) (h1 : Sl w p.A1 p.n1 p.c1 o) (h2 : Sl w p.A2 p.n2 p.c2 n) (b1 : p.n1 ≤ 1152921504606846976) (b2 : p.n2 ≤ 1152921504606846976) (b3 : p.path.size ≤ 1152921504606846976) (b4 : p.to_.size ≤ 1152921504606846976) (hK : p.kind = 2 ∨ p.kind = 4) (hk : p.known = true) (ht : p.tidy = true) (hp : p.pathsOk = true) :
    Calls Tryz.prog 74 #[p.v] w (Ret (.int .i64 (p.check o n)) w) := by
  have hv : p.check o n = p.remCheck := by rw [Pv.check, if_neg (by rw [hk]; exact Bool.noConfusion), if_neg (by rw [ht]; exact Bool.noConfusion), if_neg (by rw [hp]; exact Bool.noConfusion)]; rw [Pv.actCheck, if_neg (by omega), if_pos hK]
  rw [hv]
  have ha : p.act = .iface 157 p.v := by rw [Pv.act, if_neg (by omega), if_pos hK]
  have h5 : (p.kind == 5) = false := by simp; omega
  rw [Pv.pathsOk, h5] at hp
  simp only [Bool.not_true, Bool.not_false, Bool.true_or, Bool.false_or, Bool.and_true, Bool.and_eq_true] at hp
  have Ha := Lib.hid ha
  have Ht := Lib.hid ht
  have Hp := Lib.hid hp
  have Hg := Lib.hid hg
  have H1 := Lib.hid h1
  have H2 := Lib.hid h2
  clear h1 h2 hg hk hv ha ht hp hK
  go_enter Tryz.func74, Tryz.ntmps74
  have hx := Ext.refl w
  go_wp2_with fail
  go_at_call 95; refine (action_any p _).mono ?_; rintro e w1 ⟨rfl, hx0⟩; have hy := Ext.trans (a := w) EX hx0; clear hx; have hx := hy; clear hy; have hn0 := BB hx0 (w.heap.size); (first | simp [↓heap_drew_at, ↓heap_drewN_at, ↓heap_alloc_at, ↓heap_set_at, ne_two, ne_three, ne_two_left, ne_three_left, ↓hb0.eq, hb0.lt, hb0.ne] at hn0 | simp [↓heap_drew_at, ↓heap_drewN_at, ↓heap_alloc_at, ↓heap_set_at, ne_two, ne_three, ne_two_left, ne_three_left] at hn0); (try clear hb0 hc0 hf0 hl0); have hb0 := Blk.mk hn0; clear hn0; obtain ⟨hc0, hf0, hl0⟩ := hb0.all; (try clear hx0); rw [Ha.out]
  go_wp2_with fail
  go_at_call 96; refine (tidy_any p _ (by omega) (by omega)).mono ?_; rintro e w1 ⟨rfl, hx0⟩; have hy := Ext.trans (a := w) EX hx0; clear hx; have hx := hy; clear hy; have hn0 := BB hx0 (w.heap.size); (first | simp [↓heap_drew_at, ↓heap_drewN_at, ↓heap_alloc_at, ↓heap_set_at, ne_two, ne_three, ne_two_left, ne_three_left, ↓hb0.eq, hb0.lt, hb0.ne] at hn0 | simp [↓heap_drew_at, ↓heap_drewN_at, ↓heap_alloc_at, ↓heap_set_at, ne_two, ne_three, ne_two_left, ne_three_left] at hn0); (try clear hb0 hc0 hf0 hl0); have hb0 := Blk.mk hn0; clear hn0; obtain ⟨hc0, hf0, hl0⟩ := hb0.all; (try clear hx0); rw [Ht.out]
  go_wp2_with fail
  go_at_call 80; refine (isPath_any p.path _ (Hg.out.ext EX)).mono ?_; rintro e w1 ⟨rfl, hx0⟩; have hy := Ext.trans (a := w) EX hx0; clear hx; have hx := hy; clear hy; have hn0 := BB hx0 (w.heap.size); (first | simp [↓heap_drew_at, ↓heap_drewN_at, ↓heap_alloc_at, ↓heap_set_at, ne_two, ne_three, ne_two_left, ne_three_left, ↓hb0.eq, hb0.lt, hb0.ne] at hn0 | simp [↓heap_drew_at, ↓heap_drewN_at, ↓heap_alloc_at, ↓heap_set_at, ne_two, ne_three, ne_two_left, ne_three_left] at hn0); (try clear hb0 hc0 hf0 hl0); have hb0 := Blk.mk hn0; clear hn0; obtain ⟨hc0, hf0, hl0⟩ := hb0.all; (try clear hx0); rw [Hp.out]
  go_wp2_with fail
  refine upon_method (f := 203) (by kernel_rfl) (by kernel_rfl) ?_
  rw [Oper.upon_enter]
  go_at_call 203; refine (remCheck_any p _).mono ?_; rintro e w1 ⟨rfl, hx0⟩; have hy := Ext.trans (a := w) EX hx0; clear hx; have hx := hy; clear hy; have hn0 := BB hx0 (w.heap.size); (first | simp [↓heap_drew_at, ↓heap_drewN_at, ↓heap_alloc_at, ↓heap_set_at, ne_two, ne_three, ne_two_left, ne_three_left, ↓hb0.eq, hb0.lt, hb0.ne] at hn0 | simp [↓heap_drew_at, ↓heap_drewN_at, ↓heap_alloc_at, ↓heap_set_at, ne_two, ne_three, ne_two_left, ne_three_left] at hn0); (try clear hb0 hc0 hf0 hl0); have hb0 := Blk.mk hn0; clear hn0; obtain ⟨hc0, hf0, hl0⟩ := hb0.all; (try clear hx0)
  go_wp2_with fail
  (go_ret; refine Ret.mk ?_ ?_; (focus (rfl; done)); (focus (exact EX; done)))

set_option maxHeartbeats 4000000 in
set_option maxRecDepth 100000 in
theorem check_mov (p : Pv) (o n : List ByteArray) (w : World) (hg : Glob w) (h1 : Sl w p.A1 p.n1 p.c1 o) (h2 : Sl w p.A2 p.n2 p.c2 n) (b1 : p.n1 ≤ 1152921504606846976) (b2 : p.n2 ≤ 1152921504606846976) (b3 : p.path.size ≤ 1152921504606846976) (b4 : p.to_.size ≤ 1152921504606846976) (hK : p.kind = 5) (hk : p.known = true) (ht : p.tidy = true) (hp : p.pathsOk = true) :
    Calls Tryz.prog 74 #[p.v] w (Ret (.int .i64 (p.check o n)) w) := by
  have hv : p.check o n = p.movCheck := by rw [Pv.check, if_neg (by rw [hk]; exact Bool.noConfusion), if_neg (by rw [ht]; exact Bool.noConfusion), if_neg (by rw [hp]; exact Bool.noConfusion)]; rw [Pv.actCheck, if_neg (by omega), if_neg (by omega), if_pos hK]
  rw [hv]
  have ha : p.act = .iface 158 p.v := by rw [Pv.act, if_neg (by omega), if_neg (by omega), if_pos hK]
  have h5 : (p.kind == 5) = true := by simpa using hK
  rw [Pv.pathsOk, h5] at hp
  simp only [Bool.not_true, Bool.not_false, Bool.true_or, Bool.false_or, Bool.and_true, Bool.and_eq_true] at hp
  have Ha := Lib.hid ha
  have Ht := Lib.hid ht
  have Hp := Lib.hid hp
  have Hg := Lib.hid hg
  have H1 := Lib.hid h1
  have H2 := Lib.hid h2
  clear h1 h2 hg hk hv ha ht hp hK
  go_enter Tryz.func74, Tryz.ntmps74
  have hx := Ext.refl w
  go_wp2_with fail
  go_at_call 95; refine (action_any p _).mono ?_; rintro e w1 ⟨rfl, hx0⟩; have hy := Ext.trans (a := w) EX hx0; clear hx; have hx := hy; clear hy; have hn0 := BB hx0 (w.heap.size); (first | simp [↓heap_drew_at, ↓heap_drewN_at, ↓heap_alloc_at, ↓heap_set_at, ne_two, ne_three, ne_two_left, ne_three_left, ↓hb0.eq, hb0.lt, hb0.ne] at hn0 | simp [↓heap_drew_at, ↓heap_drewN_at, ↓heap_alloc_at, ↓heap_set_at, ne_two, ne_three, ne_two_left, ne_three_left] at hn0); (try clear hb0 hc0 hf0 hl0); have hb0 := Blk.mk hn0; clear hn0; obtain ⟨hc0, hf0, hl0⟩ := hb0.all; (try clear hx0); rw [Ha.out]
  go_wp2_with fail
  go_at_call 96; refine (tidy_any p _ (by omega) (by omega)).mono ?_; rintro e w1 ⟨rfl, hx0⟩; have hy := Ext.trans (a := w) EX hx0; clear hx; have hx := hy; clear hy; have hn0 := BB hx0 (w.heap.size); (first | simp [↓heap_drew_at, ↓heap_drewN_at, ↓heap_alloc_at, ↓heap_set_at, ne_two, ne_three, ne_two_left, ne_three_left, ↓hb0.eq, hb0.lt, hb0.ne] at hn0 | simp [↓heap_drew_at, ↓heap_drewN_at, ↓heap_alloc_at, ↓heap_set_at, ne_two, ne_three, ne_two_left, ne_three_left] at hn0); (try clear hb0 hc0 hf0 hl0); have hb0 := Blk.mk hn0; clear hn0; obtain ⟨hc0, hf0, hl0⟩ := hb0.all; (try clear hx0); rw [Ht.out]
  go_wp2_with fail
  go_at_call 80; refine (isPath_any p.path _ (Hg.out.ext EX)).mono ?_; rintro e w1 ⟨rfl, hx0⟩; have hy := Ext.trans (a := w) EX hx0; clear hx; have hx := hy; clear hy; have hn0 := BB hx0 (w.heap.size); (first | simp [↓heap_drew_at, ↓heap_drewN_at, ↓heap_alloc_at, ↓heap_set_at, ne_two, ne_three, ne_two_left, ne_three_left, ↓hb0.eq, hb0.lt, hb0.ne] at hn0 | simp [↓heap_drew_at, ↓heap_drewN_at, ↓heap_alloc_at, ↓heap_set_at, ne_two, ne_three, ne_two_left, ne_three_left] at hn0); (try clear hb0 hc0 hf0 hl0); have hb0 := Blk.mk hn0; clear hn0; obtain ⟨hc0, hf0, hl0⟩ := hb0.all; (try clear hx0); rw [Hp.out.1]
  go_wp2_with fail
  go_at_call 80; refine (isPath_any p.to_ _ (Hg.out.ext EX)).mono ?_; rintro e w1 ⟨rfl, hx0⟩; have hy := Ext.trans (a := w) EX hx0; clear hx; have hx := hy; clear hy; have hn0 := BB hx0 (w.heap.size); (first | simp [↓heap_drew_at, ↓heap_drewN_at, ↓heap_alloc_at, ↓heap_set_at, ne_two, ne_three, ne_two_left, ne_three_left, ↓hb0.eq, hb0.lt, hb0.ne] at hn0 | simp [↓heap_drew_at, ↓heap_drewN_at, ↓heap_alloc_at, ↓heap_set_at, ne_two, ne_three, ne_two_left, ne_three_left] at hn0); (try clear hb0 hc0 hf0 hl0); have hb0 := Blk.mk hn0; clear hn0; obtain ⟨hc0, hf0, hl0⟩ := hb0.all; (try clear hx0); rw [Hp.out.2]
  go_wp2_with fail
  refine upon_method (f := 206) (by kernel_rfl) (by kernel_rfl) ?_
  rw [Oper.upon_enter]
  go_at_call 206; refine (movCheck_any p _ (by omega) (by omega)).mono ?_; rintro e w1 ⟨rfl, hx0⟩; have hy := Ext.trans (a := w) EX hx0; clear hx; have hx := hy; clear hy; have hn0 := BB hx0 (w.heap.size); (first | simp [↓heap_drew_at, ↓heap_drewN_at, ↓heap_alloc_at, ↓heap_set_at, ne_two, ne_three, ne_two_left, ne_three_left, ↓hb0.eq, hb0.lt, hb0.ne] at hn0 | simp [↓heap_drew_at, ↓heap_drewN_at, ↓heap_alloc_at, ↓heap_set_at, ne_two, ne_three, ne_two_left, ne_three_left] at hn0); (try clear hb0 hc0 hf0 hl0); have hb0 := Blk.mk hn0; clear hn0; obtain ⟨hc0, hf0, hl0⟩ := hb0.all; (try clear hx0)
  go_wp2_with fail
  (go_ret; refine Ret.mk ?_ ?_; (focus (rfl; done)); (focus (exact EX; done)))

set_option maxHeartbeats 4000000 in
set_option maxRecDepth 100000 in
theorem check_ed (p : Pv) (o n : List ByteArray) (w : World) (hg : Glob w) (h1 : Sl w p.A1 p.n1 p.c1 o) (h2 : Sl w p.A2 p.n2 p.c2 n) (b1 : p.n1 ≤ 1152921504606846976) (b2 : p.n2 ≤ 1152921504606846976) (b3 : p.path.size ≤ 1152921504606846976) (b4 : p.to_.size ≤ 1152921504606846976) (hK : p.kind = 6 ∨ p.kind = 7 ∨ p.kind = 8) (hk : p.known = true) (ht : p.tidy = true) (hp : p.pathsOk = true) :
    Calls Tryz.prog 74 #[p.v] w (Ret (.int .i64 (p.check o n)) w) := by
  have hv : p.check o n = (p.edCheck6 o n) := by rw [Pv.check, if_neg (by rw [hk]; exact Bool.noConfusion), if_neg (by rw [ht]; exact Bool.noConfusion), if_neg (by rw [hp]; exact Bool.noConfusion)]; rw [Pv.actCheck, if_neg (by omega), if_neg (by omega), if_neg (by omega)]
  rw [hv]
  have ha : p.act = .iface 159 p.v := by rw [Pv.act, if_neg (by omega), if_neg (by omega), if_neg (by omega), if_pos hK]
  have h5 : (p.kind == 5) = false := by simp; omega
  rw [Pv.pathsOk, h5] at hp
  simp only [Bool.not_true, Bool.not_false, Bool.true_or, Bool.false_or, Bool.and_true, Bool.and_eq_true] at hp
  have Ha := Lib.hid ha
  have Ht := Lib.hid ht
  have Hp := Lib.hid hp
  have Hg := Lib.hid hg
  have H1 := Lib.hid h1
  have H2 := Lib.hid h2
  clear h1 h2 hg hk hv ha ht hp hK
  go_enter Tryz.func74, Tryz.ntmps74
  have hx := Ext.refl w
  go_wp2_with fail
  go_at_call 95; refine (action_any p _).mono ?_; rintro e w1 ⟨rfl, hx0⟩; have hy := Ext.trans (a := w) EX hx0; clear hx; have hx := hy; clear hy; have hn0 := BB hx0 (w.heap.size); (first | simp [↓heap_drew_at, ↓heap_drewN_at, ↓heap_alloc_at, ↓heap_set_at, ne_two, ne_three, ne_two_left, ne_three_left, ↓hb0.eq, hb0.lt, hb0.ne] at hn0 | simp [↓heap_drew_at, ↓heap_drewN_at, ↓heap_alloc_at, ↓heap_set_at, ne_two, ne_three, ne_two_left, ne_three_left] at hn0); (try clear hb0 hc0 hf0 hl0); have hb0 := Blk.mk hn0; clear hn0; obtain ⟨hc0, hf0, hl0⟩ := hb0.all; (try clear hx0); rw [Ha.out]
  go_wp2_with fail
  go_at_call 96; refine (tidy_any p _ (by omega) (by omega)).mono ?_; rintro e w1 ⟨rfl, hx0⟩; have hy := Ext.trans (a := w) EX hx0; clear hx; have hx := hy; clear hy; have hn0 := BB hx0 (w.heap.size); (first | simp [↓heap_drew_at, ↓heap_drewN_at, ↓heap_alloc_at, ↓heap_set_at, ne_two, ne_three, ne_two_left, ne_three_left, ↓hb0.eq, hb0.lt, hb0.ne] at hn0 | simp [↓heap_drew_at, ↓heap_drewN_at, ↓heap_alloc_at, ↓heap_set_at, ne_two, ne_three, ne_two_left, ne_three_left] at hn0); (try clear hb0 hc0 hf0 hl0); have hb0 := Blk.mk hn0; clear hn0; obtain ⟨hc0, hf0, hl0⟩ := hb0.all; (try clear hx0); rw [Ht.out]
  go_wp2_with fail
  go_at_call 80; refine (isPath_any p.path _ (Hg.out.ext EX)).mono ?_; rintro e w1 ⟨rfl, hx0⟩; have hy := Ext.trans (a := w) EX hx0; clear hx; have hx := hy; clear hy; have hn0 := BB hx0 (w.heap.size); (first | simp [↓heap_drew_at, ↓heap_drewN_at, ↓heap_alloc_at, ↓heap_set_at, ne_two, ne_three, ne_two_left, ne_three_left, ↓hb0.eq, hb0.lt, hb0.ne] at hn0 | simp [↓heap_drew_at, ↓heap_drewN_at, ↓heap_alloc_at, ↓heap_set_at, ne_two, ne_three, ne_two_left, ne_three_left] at hn0); (try clear hb0 hc0 hf0 hl0); have hb0 := Blk.mk hn0; clear hn0; obtain ⟨hc0, hf0, hl0⟩ := hb0.all; (try clear hx0); rw [Hp.out]
  go_wp2_with fail
  refine upon_method (f := 210) (by kernel_rfl) (by kernel_rfl) ?_
  rw [Oper.upon_enter]
  go_at_call 210; refine (edCheck6_any p o n _ (H1.out.ext EX) (H2.out.ext EX) (by omega) (by omega)).mono ?_; rintro e w1 ⟨rfl, hx0⟩; have hy := Ext.trans (a := w) EX hx0; clear hx; have hx := hy; clear hy; have hn0 := BB hx0 (w.heap.size); (first | simp [↓heap_drew_at, ↓heap_drewN_at, ↓heap_alloc_at, ↓heap_set_at, ne_two, ne_three, ne_two_left, ne_three_left, ↓hb0.eq, hb0.lt, hb0.ne] at hn0 | simp [↓heap_drew_at, ↓heap_drewN_at, ↓heap_alloc_at, ↓heap_set_at, ne_two, ne_three, ne_two_left, ne_three_left] at hn0); (try clear hb0 hc0 hf0 hl0); have hb0 := Blk.mk hn0; clear hn0; obtain ⟨hc0, hf0, hl0⟩ := hb0.all; (try clear hx0)
  go_wp2_with fail
  (go_ret; refine Ret.mk ?_ ?_; (focus (rfl; done)); (focus (exact EX; done)))

theorem check_any (p : Pv) (o n : List ByteArray) (w : World) (hg : Glob w) (h1 : Sl w p.A1 p.n1 p.c1 o) (h2 : Sl w p.A2 p.n2 p.c2 n) (b1 : p.n1 ≤ 1152921504606846976) (b2 : p.n2 ≤ 1152921504606846976) (b3 : p.path.size ≤ 1152921504606846976) (b4 : p.to_.size ≤ 1152921504606846976) :
    Calls Tryz.prog 74 #[p.v] w (Ret (.int .i64 (p.check o n)) w) := by
  cases hk : p.known
  · exact check_unknown p o n w hg h1 h2 b1 b2 b3 b4 hk
  cases ht : p.tidy
  · exact check_untidy p o n w hg h1 h2 b1 b2 b3 b4 hk ht
  cases hp : p.pathsOk
  · cases hq : Qm.isPath p.path
    · exact check_badpath p o n w hg h1 h2 b1 b2 b3 b4 hk ht hq
    · rw [Pv.pathsOk, hq] at hp
      simp only [Bool.true_and, Bool.or_eq_false_iff, Bool.not_eq_false'] at hp
      exact check_badto p o n w hg h1 h2 b1 b2 b3 b4 hk ht hq hp.1 hp.2
  have hr : 1 ≤ p.kind ∧ p.kind ≤ 8 := by simpa [Pv.known] using hk
  by_cases k1 : p.kind = 1 ∨ p.kind = 3
  · exact check_add p o n w hg h1 h2 b1 b2 b3 b4 k1 hk ht hp
  by_cases k2 : p.kind = 2 ∨ p.kind = 4
  · exact check_rem p o n w hg h1 h2 b1 b2 b3 b4 k2 hk ht hp
  by_cases k3 : p.kind = 5
  · exact check_mov p o n w hg h1 h2 b1 b2 b3 b4 k3 hk ht hp
  · exact check_ed p o n w hg h1 h2 b1 b2 b3 b4 (by omega) hk ht hp
end Go.Proofs.YtnjcifppkijanaaGreatDoor
