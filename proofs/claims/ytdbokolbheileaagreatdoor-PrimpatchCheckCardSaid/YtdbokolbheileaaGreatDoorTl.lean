/- Walks: the paths that a patch concerns. -/
import Derived.Test.YtdbokolbheileaaGreatDoorYu
import Derived.Test.YtdbokolbheileaaGreatDoorTp
import Derived.Test.YtdbokolbheileaaGreatDoorTg
import Derived.Lib.MinMaxS
set_option linter.unusedSimpArgs false
set_option linter.unusedVariables false
namespace Go.Proofs.YtdbokolbheileaaGreatDoor
open Go Go.RowKit

/-- The paths that a patch concerns. -/
def Qp.touches (q : Qp) : List ByteArray :=
  if q.check ≠ 0 then [] else if q.kind ≠ 5 then [q.path] else if Tr.lt q.to_ q.path then [q.to_, q.path] else [q.path, q.to_]
def GivesL (l : List ByteArray) (w : World) (e : Ending) (w' : World) : Prop := ∃ A c, e = .returned (.slice A l.length c) ∧ Hid (Lst w' A l.length l ∧ l.length ≤ c ∧ Hi w.heap.size A) ∧ Ext w w'
theorem Blk.lst {W : World} {g : Nat} {t : TypeId} {l : List ByteArray} (h : Blk W g t (l.map Value.string).toArray) : Lst W (some ⟨g, 0, none⟩) l.length l :=
  ⟨rfl, fun _ => ⟨g, 0, rfl, h.lt, fun j hj => by
    rw [h.cell, List.getElem?_toArray, Nat.zero_add, List.getElem?_map, List.getD_eq_getElem?_getD, List.getElem?_eq_getElem hj]
    rfl⟩⟩
theorem minmax {s t : ByteArray} (h : s ≠ t) : Lib.minS s t = (if Tr.lt t s then t else s) ∧ Lib.maxS s t = (if Tr.lt t s then s else t) := by
  unfold Lib.minS Lib.maxS
  rcases Tr.lt_or s t with k | k | k
  · have k' := Tr.lt_iff.1 k
    rw [Tr.lt_asymm k, if_pos (.inl k'), if_pos k']
    exact ⟨rfl, rfl⟩
  · exact (h k).elim
  · have k1 : ¬ s.data.toList < t.data.toList := fun k' => by
      have := Tr.lt_asymm k
      rw [Tr.lt_iff.2 k'] at this
      cases this
    rw [k, if_neg (by rintro (k2 | k2); exact k1 k2; exact h (Pa.L_inj k2)), if_neg k1]
    exact ⟨rfl, rfl⟩

set_option maxHeartbeats 8000000 in
set_option maxRecDepth 100000 in
theorem touches_any (p : Pv) (q : Qp) (w : World) (hg : Glob w) {F : Nat → Prop} (h : Is w F p q) (b1 : q.old.length ≤ 1152921504606846976) (b2 : q.new.length ≤ 1152921504606846976) (b3 : q.path.size ≤ 1152921504606846976) (b4 : q.to_.size ≤ 1152921504606846976) :
    Calls Tryz.prog 28 #[p.v] w (GivesL q.touches w) := by
  have HK := Lib.hid (fun W (hW : Ext w W) => check_q p q W (hg.ext hW) (h.ext hW) b1 b2 b3 b4)
  obtain ⟨A1, c1, A2, c2, rfl, _⟩ := h
  by_cases hc : q.check = 0
  · have Hc := Lib.hid hc
    by_cases hK : q.kind = 5
    · obtain ⟨_, _, n1, n2⟩ := check_mv hc hK
      have hne : q.path ≠ q.to_ := fun e => n1 (by rw [e]; exact Pa.wi.refl _)
      obtain ⟨m1, m2⟩ := minmax hne
      have hmin := fun w ts t => Lib.run_min_strs (P := Tryz.prog) w ts t q.path q.to_
      have hmax := fun w ts t => Lib.run_max_strs (P := Tryz.prog) w ts t q.path q.to_
      have HV : Hid (q.touches = [Lib.minS q.path q.to_, Lib.maxS q.path q.to_]) := Lib.hid (by
        unfold Qp.touches
        rw [if_neg (by simpa using hc), if_neg (by simpa using hK), m1, m2]
        cases Tr.lt q.to_ q.path <;> rfl)
      rw [HV.out]
      have h5 : (q.kind != 5) = false := by simpa using hK
      clear hK
      clear m1 m2 n1 n2 hne hc
      generalize Lib.minS q.path q.to_ = x at *
      generalize Lib.maxS q.path q.to_ = y at *
      go_enter Tryz.func28, Tryz.ntmps28
      have hx := Ext.refl w
      go_wp2_with (go_at_call 20; refine (HK.out _ EX).mono ?_; rintro e w1 ⟨rfl, hx0⟩; rw [Hc.out]; have hy := Ext.trans (a := w) EX hx0; clear hx; have hx := hy; clear hy; have hn0 := BB hx0 (w.heap.size); (first | simp [↓heap_drew_at, ↓heap_drewN_at, ↓heap_alloc_at, ↓heap_set_at, ne_two, ne_three, ne_two_left, ne_three_left, ↓hb0.eq, hb0.lt, hb0.ne] at hn0 | simp [↓heap_drew_at, ↓heap_drewN_at, ↓heap_alloc_at, ↓heap_set_at, ne_two, ne_three, ne_two_left, ne_three_left] at hn0); (try clear hb0 hc0 hf0 hl0); have hb0 := Blk.mk hn0; clear hn0; obtain ⟨hc0, hf0, hl0⟩ := hb0.all; (try clear hx0))
      go_ret
      exact ⟨_, _, rfl, Lib.hid ⟨Blk.lst (Blk.new' rfl), Nat.le_refl _, fun a ha => by cases ha; exact hx.size_le⟩, EX⟩
    · have h5 : (q.kind != 5) = true := by simpa using hK
      have HV : Hid (q.touches = [q.path]) := Lib.hid (by unfold Qp.touches; rw [if_neg (by simpa using hc), if_pos hK])
      rw [HV.out]
      clear hc hK
      go_enter Tryz.func28, Tryz.ntmps28
      have hx := Ext.refl w
      go_wp2_with (go_at_call 20; refine (HK.out _ EX).mono ?_; rintro e w1 ⟨rfl, hx0⟩; rw [Hc.out]; have hy := Ext.trans (a := w) EX hx0; clear hx; have hx := hy; clear hy; have hn0 := BB hx0 (w.heap.size); (first | simp [↓heap_drew_at, ↓heap_drewN_at, ↓heap_alloc_at, ↓heap_set_at, ne_two, ne_three, ne_two_left, ne_three_left, ↓hb0.eq, hb0.lt, hb0.ne] at hn0 | simp [↓heap_drew_at, ↓heap_drewN_at, ↓heap_alloc_at, ↓heap_set_at, ne_two, ne_three, ne_two_left, ne_three_left] at hn0); (try clear hb0 hc0 hf0 hl0); have hb0 := Blk.mk hn0; clear hn0; obtain ⟨hc0, hf0, hl0⟩ := hb0.all; (try clear hx0))
      go_ret
      exact ⟨_, _, rfl, Lib.hid ⟨Blk.lst (Blk.new' rfl), Nat.le_refl _, fun a ha => by cases ha; exact hx.size_le⟩, EX⟩
  · have hc' : (q.check != 0) = true := by simpa using hc
    have HV : Hid (q.touches = []) := Lib.hid (by unfold Qp.touches; rw [if_pos hc])
    rw [HV.out]
    clear hc
    generalize q.check = r at *
    go_enter Tryz.func28, Tryz.ntmps28
    have hx := Ext.refl w
    go_wp2_with (go_at_call 20; refine (HK.out _ EX).mono ?_; rintro e w1 ⟨rfl, hx0⟩; have hy := Ext.trans (a := w) EX hx0; clear hx; have hx := hy; clear hy; have hn0 := BB hx0 (w.heap.size); (first | simp [↓heap_drew_at, ↓heap_drewN_at, ↓heap_alloc_at, ↓heap_set_at, ne_two, ne_three, ne_two_left, ne_three_left, ↓hb0.eq, hb0.lt, hb0.ne] at hn0 | simp [↓heap_drew_at, ↓heap_drewN_at, ↓heap_alloc_at, ↓heap_set_at, ne_two, ne_three, ne_two_left, ne_three_left] at hn0); (try clear hb0 hc0 hf0 hl0); have hb0 := Blk.mk hn0; clear hn0; obtain ⟨hc0, hf0, hl0⟩ := hb0.all; (try clear hx0))
    go_ret
    exact ⟨_, _, rfl, Lib.hid ⟨Lst.nil _ _, Nat.le_refl _, fun a ha => nomatch ha⟩, EX⟩

set_option maxHeartbeats 8000000 in
set_option maxRecDepth 100000 in
theorem rtouches_q (p : Pv) (q : Qp) (w : World) {F : Nat → Prop} (h : Is w F p q) (b1 : q.old.length ≤ 1152921504606846976) (b2 : q.new.length ≤ 1152921504606846976) (b3 : q.path.size ≤ 1152921504606846976) (b4 : q.to_.size ≤ 1152921504606846976)
    (z1 : ∀ x ∈ q.old, x.size ≤ 4611686018427387904) (z2 : ∀ x ∈ q.new, x.size ≤ 4611686018427387904) :
    Calls Tryz.prog 29 #[p.v] w (GivesL q.touches w) := by
  have HK : Hid (∀ W, Ext w W → Calls Tryz.prog 26 #[p.v] W (Ret (.int .i64 q.check) W)) := Lib.hid (fun W hW => by
    obtain ⟨A1, c1, A2, c2, rfl, ⟨h1, h2⟩, _⟩ := h.ext hW
    rw [← check_pv q A1 c1 A2 c2]
    exact rcheck_any (q.pv A1 c1 A2 c2) q.old q.new W h1 h2 b1 b2 (by show q.path.size ≤ _; omega) (by show q.to_.size ≤ _; omega) z1 z2)
  obtain ⟨A1, c1, A2, c2, rfl, _⟩ := h
  clear z1 z2
  by_cases hc : q.check = 0
  · have Hc := Lib.hid hc
    by_cases hK : q.kind = 5
    · have h5 : (q.kind != 5) = false := by simpa using hK
      cases hl : Tr.lt q.to_ q.path
      · have hl' : Op.bytesLess q.to_.toList q.path.toList = false := hl
        have HV : Hid (q.touches = [q.path, q.to_]) := Lib.hid (by unfold Qp.touches; rw [if_neg (by simpa using hc), if_neg (by simpa using hK), hl]; rfl)
        rw [HV.out]
        clear hc hK hl
        go_enter Tryz.func29, Tryz.ntmps29
        have hx := Ext.refl w
        go_wp2_with (go_at_call 26; refine (HK.out _ EX).mono ?_; rintro e w1 ⟨rfl, hx0⟩; rw [Hc.out]; have hy := Ext.trans (a := w) EX hx0; clear hx; have hx := hy; clear hy; have hn0 := BB hx0 (w.heap.size); (first | simp [↓heap_drew_at, ↓heap_drewN_at, ↓heap_alloc_at, ↓heap_set_at, ne_two, ne_three, ne_two_left, ne_three_left, ↓hb0.eq, hb0.lt, hb0.ne] at hn0 | simp [↓heap_drew_at, ↓heap_drewN_at, ↓heap_alloc_at, ↓heap_set_at, ne_two, ne_three, ne_two_left, ne_three_left] at hn0); (try clear hb0 hc0 hf0 hl0); have hb0 := Blk.mk hn0; clear hn0; obtain ⟨hc0, hf0, hl0⟩ := hb0.all; (try clear hx0))
        go_ret
        exact ⟨_, _, rfl, Lib.hid ⟨Blk.lst (Blk.new' rfl), Nat.le_refl _, fun a ha => by cases ha; exact hx.size_le⟩, EX⟩
      · have hl' : Op.bytesLess q.to_.toList q.path.toList = true := hl
        have HV : Hid (q.touches = [q.to_, q.path]) := Lib.hid (by unfold Qp.touches; rw [if_neg (by simpa using hc), if_neg (by simpa using hK), hl]; rfl)
        rw [HV.out]
        clear hc hK hl
        go_enter Tryz.func29, Tryz.ntmps29
        have hx := Ext.refl w
        go_wp2_with (go_at_call 26; refine (HK.out _ EX).mono ?_; rintro e w1 ⟨rfl, hx0⟩; rw [Hc.out]; have hy := Ext.trans (a := w) EX hx0; clear hx; have hx := hy; clear hy; have hn0 := BB hx0 (w.heap.size); (first | simp [↓heap_drew_at, ↓heap_drewN_at, ↓heap_alloc_at, ↓heap_set_at, ne_two, ne_three, ne_two_left, ne_three_left, ↓hb0.eq, hb0.lt, hb0.ne] at hn0 | simp [↓heap_drew_at, ↓heap_drewN_at, ↓heap_alloc_at, ↓heap_set_at, ne_two, ne_three, ne_two_left, ne_three_left] at hn0); (try clear hb0 hc0 hf0 hl0); have hb0 := Blk.mk hn0; clear hn0; obtain ⟨hc0, hf0, hl0⟩ := hb0.all; (try clear hx0))
        go_ret
        exact ⟨_, _, rfl, Lib.hid ⟨Blk.lst (Blk.new' rfl), Nat.le_refl _, fun a ha => by cases ha; exact hx.size_le⟩, EX⟩
    · have h5 : (q.kind != 5) = true := by simpa using hK
      have HV : Hid (q.touches = [q.path]) := Lib.hid (by unfold Qp.touches; rw [if_neg (by simpa using hc), if_pos hK])
      rw [HV.out]
      clear hc hK
      go_enter Tryz.func29, Tryz.ntmps29
      have hx := Ext.refl w
      go_wp2_with (go_at_call 26; refine (HK.out _ EX).mono ?_; rintro e w1 ⟨rfl, hx0⟩; rw [Hc.out]; have hy := Ext.trans (a := w) EX hx0; clear hx; have hx := hy; clear hy; have hn0 := BB hx0 (w.heap.size); (first | simp [↓heap_drew_at, ↓heap_drewN_at, ↓heap_alloc_at, ↓heap_set_at, ne_two, ne_three, ne_two_left, ne_three_left, ↓hb0.eq, hb0.lt, hb0.ne] at hn0 | simp [↓heap_drew_at, ↓heap_drewN_at, ↓heap_alloc_at, ↓heap_set_at, ne_two, ne_three, ne_two_left, ne_three_left] at hn0); (try clear hb0 hc0 hf0 hl0); have hb0 := Blk.mk hn0; clear hn0; obtain ⟨hc0, hf0, hl0⟩ := hb0.all; (try clear hx0))
      go_ret
      exact ⟨_, _, rfl, Lib.hid ⟨Blk.lst (Blk.new' rfl), Nat.le_refl _, fun a ha => by cases ha; exact hx.size_le⟩, EX⟩
  · have hc' : (q.check != 0) = true := by simpa using hc
    have HV : Hid (q.touches = []) := Lib.hid (by unfold Qp.touches; rw [if_pos hc])
    rw [HV.out]
    clear hc
    generalize q.check = r at *
    go_enter Tryz.func29, Tryz.ntmps29
    have hx := Ext.refl w
    go_wp2_with (go_at_call 26; refine (HK.out _ EX).mono ?_; rintro e w1 ⟨rfl, hx0⟩; have hy := Ext.trans (a := w) EX hx0; clear hx; have hx := hy; clear hy; have hn0 := BB hx0 (w.heap.size); (first | simp [↓heap_drew_at, ↓heap_drewN_at, ↓heap_alloc_at, ↓heap_set_at, ne_two, ne_three, ne_two_left, ne_three_left, ↓hb0.eq, hb0.lt, hb0.ne] at hn0 | simp [↓heap_drew_at, ↓heap_drewN_at, ↓heap_alloc_at, ↓heap_set_at, ne_two, ne_three, ne_two_left, ne_three_left] at hn0); (try clear hb0 hc0 hf0 hl0); have hb0 := Blk.mk hn0; clear hn0; obtain ⟨hc0, hf0, hl0⟩ := hb0.all; (try clear hx0))
    go_ret
    exact ⟨_, _, rfl, Lib.hid ⟨Lst.nil _ _, Nat.le_refl _, fun a ha => by cases ha; exact hx.size_le⟩, EX⟩
end Go.Proofs.YtdbokolbheileaaGreatDoor
