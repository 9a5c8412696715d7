/- Walks: the paths that a patch concerns. Walks: PrimpatchLocal. -/
import Derived.Test.YtdbokolbheileaaGreatDoorYu
import Derived.Test.YtdbokolbheileaaGreatDoorTp
import Derived.Test.YtdbokolbheileaaGreatDoorJe
import Derived.Lib.MinMaxS
import Derived.Test.YtdbokolbheileaaGreatDoorLd
import Derived.Test.YtdbokolbheileaaGreatDoorYj
set_option linter.unusedSimpArgs false
set_option linter.unusedVariables false
namespace Go.Proofs.YtdbokolbheileaaGreatDoor
open Go Go.RowKit

/-- The paths that a patch concerns. -/
def Qp.touches (q : Qp) : List ByteArray :=
  if q.check ≠ 0 then [] else if q.kind ≠ 5 then [q.path] else if Tr.lt q.to_ q.path then [q.to_, q.path] else [q.path, q.to_]
def GivesL (l : List ByteArray) (w : World) (e : Ending) (w' : World) : Prop := ∃ A c, e = .returned (.slice A l.length c) ∧ Hid (Lst w' A l.length l ∧ l.length ≤ c ∧ Hi w.heap.size A) ∧ Ext w w'
theorem Blk.lst {W : World} {g : Nat} {t : TypeId} {l : List ByteArray} (h : Blk W g t (l.map Value.string).toArray) : Lst W (some ⟨g, 0, none⟩) l.length l :=
  ⟨rfl, fun _ => ⟨g, 0, rfl, h.lt, fun j hj => by
    rw [h.cell, List.getElem?_toArray, Nat.zero_add, List.getElem?_map, List.getD_eq_getElem?_getD, List.getElem?_eq_getElem hj]
    rfl⟩⟩
theorem minmax {s t : ByteArray} (h : s ≠ t) : Lib.minS s t = (if Tr.lt t s then t else s) ∧ Lib.maxS s t = (if Tr.lt t s then s else t) := by
  unfold Lib.minS Lib.maxS
  rcases Tr.lt_or s t with k | k | k
  · have k' := Tr.lt_iff.1 k
    rw [Tr.lt_asymm k, if_pos (.inl k'), if_pos k']
    exact ⟨rfl, rfl⟩
  · exact (h k).elim
  · have k1 : ¬ s.data.toList < t.data.toList := fun k' => by
      have := Tr.lt_asymm k
      rw [Tr.lt_iff.2 k'] at this
      cases this
    rw [k, if_neg (by rintro (k2 | k2); exact k1 k2; exact h (Pa.L_inj k2)), if_neg k1]
    exact ⟨rfl, rfl⟩

set_option maxHeartbeats 8000000 in
set_option maxRecDepth 100000 in
theorem touches_any (p : Pv) (q : Qp) (w : World) (hg : Glob w) {F : Nat → Prop} (h : Is w F p q) (b1 : q.old.length ≤ 1152921504606846976) (b2 : q.new.length ≤ 1152921504606846976) (b3 : q.path.size ≤ 1152921504606846976) (b4 : q.to_.size ≤ 1152921504606846976) :
    Calls Tryz.prog 28 #[p.v] w (GivesL q.touches w) := by
  have HK := Lib.hid (fun W (hW : Ext w W) => check_q p q W (hg.ext hW) (h.ext hW) b1 b2 b3 b4)
  obtain ⟨A1, c1, A2, c2, rfl, _⟩ := h
  by_cases hc : q.check = 0
  · have Hc := Lib.hid hc
    by_cases hK : q.kind = 5
    · obtain ⟨_, _, n1, n2⟩ := check_mv hc hK
      have hne : q.path ≠ q.to_ := fun e => n1 (by rw [e]; exact Pa.wi.refl _)
      obtain ⟨m1, m2⟩ := minmax hne
      have hmin := fun w ts t => Lib.run_min_strs (P := Tryz.prog) w ts t q.path q.to_
      have hmax := fun w ts t => Lib.run_max_strs (P := Tryz.prog) w ts t q.path q.to_
      have HV : Hid (q.touches = [Lib.minS q.path q.to_, Lib.maxS q.path q.to_]) := Lib.hid (by
        unfold Qp.touches
        rw [if_neg (by simpa using hc), if_neg (by simpa using hK), m1, m2]
        cases Tr.lt q.to_ q.path <;> rfl)
      rw [HV.out]
      have h5 : (q.kind != 5) = false := by simpa using hK
      clear hK
      clear m1 m2 n1 n2 hne hc
      generalize Lib.minS q.path q.to_ = x at *
      generalize Lib.maxS q.path q.to_ = y at *
      go_enter Tryz.func28, Tryz.ntmps28
      have hx := Ext.refl w
      go_wp2_with (go_at_call 20; refine (HK.out _ EX).mono ?_; rintro e w1 ⟨rfl, hx0⟩; rw [Hc.out]; have hy := Ext.trans (a := w) EX hx0; clear hx; have hx := hy; clear hy; have hn0 := BB hx0 (w.heap.size); (first | simp [↓heap_drew_at, ↓heap_drewN_at, ↓heap_alloc_at, ↓heap_set_at, ne_two, ne_three, ne_two_left, ne_three_left, ↓hb0.eq, hb0.lt, hb0.ne] at hn0 | simp [↓heap_drew_at, ↓heap_drewN_at, ↓heap_alloc_at, ↓heap_set_at, ne_two, ne_three, ne_two_left, ne_three_left] at hn0); (try clear hb0 hc0 hf0 hl0); have hb0 := Blk.mk hn0; clear hn0; obtain ⟨hc0, hf0, hl0⟩ := hb0.all; (try clear hx0))
      go_ret
      exact ⟨_, _, rfl, Lib.hid ⟨Blk.lst (Blk.new' rfl), Nat.le_refl _, fun a ha => by cases ha; exact hx.size_le⟩, EX⟩
    · have h5 : (q.kind != 5) = true := by simpa using hK
      have HV : Hid (q.touches = [q.path]) := Lib.hid (by unfold Qp.touches; rw [if_neg (by simpa using hc), if_pos hK])
      rw [HV.out]
      clear hc hK
      go_enter Tryz.func28, Tryz.ntmps28
      have hx := Ext.refl w
      go_wp2_with (go_at_call 20; refine (HK.out _ EX).mono ?_; rintro e w1 ⟨rfl, hx0⟩; rw [Hc.out]; have hy := Ext.trans (a := w) EX hx0; clear hx; have hx := hy; clear hy; have hn0 := BB hx0 (w.heap.size); (first | simp [↓heap_drew_at, ↓heap_drewN_at, ↓heap_alloc_at, ↓heap_set_at, ne_two, ne_three, ne_two_left, ne_three_left, ↓hb0.eq, hb0.lt, hb0.ne] at hn0 | simp [↓heap_drew_at, ↓heap_drewN_at, ↓heap_alloc_at, ↓heap_set_at, ne_two, ne_three, ne_two_left, ne_three_left] at hn0); (try clear hb0 hc0 hf0 hl0); have hb0 := Blk.mk hn0; clear hn0; obtain ⟨hc0, hf0, hl0⟩ := hb0.all; (try clear hx0))
      go_ret
      exact ⟨_, _, rfl, Lib.hid ⟨Blk.lst (Blk.new' rfl), Nat.le_refl _, fun a ha => by cases ha; exact hx.size_le⟩, EX⟩
  · have hc' : (q.check != 0) = true := by simpa using hc
    have HV : Hid (q.touches = []) := Lib.hid (by unfold Qp.touches; rw [if_pos hc])
    rw [HV.out]
    clear hc
    generalize q.check = r at *
    go_enter Tryz.func28, Tryz.ntmps28
    have hx := Ext.refl w
    go_wp2_with (go_at_call 20; refine (HK.out _ EX).mono ?_; rintro e w1 ⟨rfl, hx0⟩; have hy := Ext.trans (a := w) EX hx0; clear hx; have hx := hy; clear hy; have hn0 := BB hx0 (w.heap.size); (first | simp [↓heap_drew_at, ↓heap_drewN_at, ↓heap_alloc_at, ↓heap_set_at, ne_two, ne_three, ne_two_left, ne_three_left, ↓hb0.eq, hb0.lt, hb0.ne] at hn0 | simp [↓heap_drew_at, ↓heap_drewN_at, ↓heap_alloc_at, ↓heap_set_at, ne_two, ne_three, ne_two_left, ne_three_left] at hn0); (try clear hb0 hc0 hf0 hl0); have hb0 := Blk.mk hn0; clear hn0; obtain ⟨hc0, hf0, hl0⟩ := hb0.all; (try clear hx0))
    go_ret
    exact ⟨_, _, rfl, Lib.hid ⟨Lst.nil _ _, Nat.le_refl _, fun a ha => nomatch ha⟩, EX⟩

set_option maxHeartbeats 8000000 in
set_option maxRecDepth 100000 in
theorem rtouches_q (p : Pv) (q : Qp) (w : World) {F : Nat → Prop} (h : Is w F p q) (b1 : q.old.length ≤ 1152921504606846976) (b2 : q.new.length ≤ 1152921504606846976) (b3 : q.path.size ≤ 1152921504606846976) (b4 : q.to_.size ≤ 1152921504606846976)
    (z1 : ∀ x ∈ q.old, x.size ≤ 4611686018427387904) (z2 : ∀ x ∈ q.new, x.size ≤ 4611686018427387904) :
    Calls Tryz.prog 29 #[p.v] w (GivesL q.touches w) := by
  have HK : Hid (∀ W, Ext w W → Calls Tryz.prog 26 #[p.v] W (Ret (.int .i64 q.check) W)) := Lib.hid (fun W hW => by
    obtain ⟨A1, c1, A2, c2, rfl, ⟨h1, h2⟩, _⟩ := h.ext hW
    rw [← check_pv q A1 c1 A2 c2]
    exact rcheck_any (q.pv A1 c1 A2 c2) q.old q.new W h1 h2 b1 b2 (by show q.path.size ≤ _; omega) (by show q.to_.size ≤ _; omega) z1 z2)
  obtain ⟨A1, c1, A2, c2, rfl, _⟩ := h
  clear z1 z2
  by_cases hc : q.check = 0
  · have Hc := Lib.hid hc
    by_cases hK : q.kind = 5
    · have h5 : (q.kind != 5) = false := by simpa using hK
      cases hl : Tr.lt q.to_ q.path
      · have hl' : Op.bytesLess q.to_.toList q.path.toList = false := hl
        have HV : Hid (q.touches = [q.path, q.to_]) := Lib.hid (by unfold Qp.touches; rw [if_neg (by simpa using hc), if_neg (by simpa using hK), hl]; rfl)
        rw [HV.out]
        clear hc hK hl
        go_enter Tryz.func29, Tryz.ntmps29
        have hx := Ext.refl w
        go_wp2_with (go_at_call 26; refine (HK.out _ EX).mono ?_; rintro e w1 ⟨rfl, hx0⟩; rw [Hc.out]; have hy := Ext.trans (a := w) EX hx0; clear hx; have hx := hy; clear hy; have hn0 := BB hx0 (w.heap.size); (first | simp [↓heap_drew_at, ↓heap_drewN_at, ↓heap_alloc_at, ↓heap_set_at, ne_two, ne_three, ne_two_left, ne_three_left, ↓hb0.eq, hb0.lt, hb0.ne] at hn0 | simp [↓heap_drew_at, ↓heap_drewN_at, ↓heap_alloc_at, ↓heap_set_at, ne_two, ne_three, ne_two_left, ne_three_left] at hn0); (try clear hb0 hc0 hf0 hl0); have hb0 := Blk.mk hn0; clear hn0; obtain ⟨hc0, hf0, hl0⟩ := hb0.all; (try clear hx0))
        go_ret
        exact ⟨_, _, rfl, Lib.hid ⟨Blk.lst (Blk.new' rfl), Nat.le_refl _, fun a ha => by cases ha; exact hx.size_le⟩, EX⟩
      · have hl' : Op.bytesLess q.to_.toList q.path.toList = true := hl
        have HV : Hid (q.touches = [q.to_, q.path]) := Lib.hid (by unfold Qp.touches; rw [if_neg (by simpa using hc), if_neg (by simpa using hK), hl]; rfl)
        rw [HV.out]
        clear hc hK hl
        go_enter Tryz.func29, Tryz.ntmps29
        have hx := Ext.refl w
        go_wp2_with (go_at_call 26; refine (HK.out _ EX).mono ?_; rintro e w1 ⟨rfl, hx0⟩; rw [Hc.out]; have hy := Ext.trans (a := w) EX hx0; clear hx; have hx := hy; clear hy; have hn0 := BB hx0 (w.heap.size); (first | simp [↓heap_drew_at, ↓heap_drewN_at, ↓heap_alloc_at, ↓heap_set_at, ne_two, ne_three, ne_two_left, ne_three_left, ↓hb0.eq, hb0.lt, hb0.ne] at hn0 | simp [↓heap_drew_at, ↓heap_drewN_at, ↓heap_alloc_at, ↓heap_set_at, ne_two, ne_three, ne_two_left, ne_three_left] at hn0); (try clear hb0 hc0 hf0 hl0); have hb0 := Blk.mk hn0; clear hn0; obtain ⟨hc0, hf0, hl0⟩ := hb0.all; (try clear hx0))
        go_ret
        exact ⟨_, _, rfl, Lib.hid ⟨Blk.lst (Blk.new' rfl), Nat.le_refl _, fun a ha => by cases ha; exact hx.size_le⟩, EX⟩
    · have h5 : (q.kind != 5) = true := by simpa using hK
      have HV : Hid (q.touches = [q.path]) := Lib.hid (by unfold Qp.touches; rw [if_neg (by simpa using hc), if_pos hK])
      rw [HV.out]
      clear hc hK
      go_enter Tryz.func29, Tryz.ntmps29
      have hx := Ext.refl w
      go_wp2_with (go_at_call 26; refine (HK.out _ EX).mono ?_; rintro e w1 ⟨rfl, hx0⟩; rw [Hc.out]; have hy := Ext.trans (a := w) EX hx0; clear hx; have hx := hy; clear hy; have hn0 := BB hx0 (w.heap.size); (first | simp [↓heap_drew_at, ↓heap_drewN_at, ↓heap_alloc_at, ↓heap_set_at, ne_two, ne_three, ne_two_left, ne_three_left, ↓hb0.eq, hb0.lt, hb0.ne] at hn0 | simp [↓heap_drew_at, ↓heap_drewN_at, ↓heap_alloc_at, ↓heap_set_at, ne_two, ne_three, ne_two_left, ne_three_left] at hn0); (try clear hb0 hc0 hf0 hl0); have hb0 := Blk.mk hn0; clear hn0; obtain ⟨hc0, hf0, hl0⟩ := hb0.all; (try clear hx0))
      go_ret
      exact ⟨_, _, rfl, Lib.hid ⟨Blk.lst (Blk.new' rfl), Nat.le_refl _, fun a ha => by cases ha; exact hx.size_le⟩, EX⟩
  · have hc' : (q.check != 0) = true := by simpa using hc
    have HV : Hid (q.touches = []) := Lib.hid (by unfold Qp.touches; rw [if_pos hc])
    rw [HV.out]
    clear hc
    generalize q.check = r at *
    go_enter Tryz.func29, Tryz.ntmps29
    have hx := Ext.refl w
    go_wp2_with (go_at_call 26; refine (HK.out _ EX).mono ?_; rintro e w1 ⟨rfl, hx0⟩; have hy := Ext.trans (a := w) EX hx0; clear hx; have hx := hy; clear hy; have hn0 := BB hx0 (w.heap.size); (first | simp [↓heap_drew_at, ↓heap_drewN_at, ↓heap_alloc_at, ↓heap_set_at, ne_two, ne_three, ne_two_left, ne_three_left, ↓hb0.eq, hb0.lt, hb0.ne] at hn0 | simp [↓heap_drew_at, ↓heap_drewN_at, ↓heap_alloc_at, ↓heap_set_at, ne_two, ne_three, ne_two_left, ne_three_left] at hn0); (try clear hb0 hc0 hf0 hl0); have hb0 := Blk.mk hn0; clear hn0; obtain ⟨hc0, hf0, hl0⟩ := hb0.all; (try clear hx0))
    go_ret
    exact ⟨_, _, rfl, Lib.hid ⟨Lst.nil _ _, Nat.le_refl _, fun a ha => by cases ha; exact hx.size_le⟩, EX⟩
end Go.Proofs.YtdbokolbheileaaGreatDoor
namespace Go.Proofs.YtdbokolbheileaaGreatDoor
open Go Go.RowKit

theorem inv_tc2 {q : Qp} {s : ByteArray} (h : Tc q.inv s) : Tc q s := by
  by_cases hk : q.kind = 5
  · have hp := inv_paths hk
    rcases h with rfl | ⟨_, rfl⟩
    · exact .inr ⟨hk, hp.1⟩
    · exact .inl hp.2
  · have hp : q.inv.path = q.path := by
      unfold Qp.inv
      repeat' split
      all_goals first | rfl | (exfalso; omega)
    rcases h with rfl | ⟨h5, _⟩
    · exact .inl hp
    · exact (hk (inv_kind5.1 h5)).elim
theorem touches_two (q : Qp) : q.touches.length ≤ 2 := by
  unfold Qp.touches
  repeat' split
  all_goals simp
/-- Whether a path is one that a patch concerns, or below it. -/
def Qp.touched (q : Qp) (s : ByteArray) : Bool := q.touches.any fun t => Qm.eqB s t || Qm.below s t
theorem touched_false {q : Qp} (h : q.check = 0) {s : ByteArray} (k : q.touched s = false) : ∀ t, Tc q t → ¬ Pa.wi (Pa.L s) (Pa.L t) := by
  intro t ht hw
  have hm : t ∈ q.touches := by
    unfold Qp.touches
    rw [if_neg (by simpa using h)]
    rcases ht with rfl | ⟨hk, rfl⟩
    · by_cases hk : q.kind = 5
      · rw [if_neg (by simpa using hk)]
        split <;> simp
      · rw [if_pos hk]
        simp
    · rw [if_neg (by simpa using hk)]
      split <;> simp
  have h1 := List.any_eq_false.1 k t hm
  have h2 : Qm.within s t = true := Pa.within_iff.2 hw
  unfold Qm.within at h2
  exact h1 h2
theorem Does_far {q : Qp} {l r : List Pf} (hg : Tr.Good l) (hc : q.check = 0) (h : Tr.Does q l r) :
    (∀ f ∈ l, q.touched f.path = false → Tr.find r f.path = some f) ∧ (∀ f ∈ r, q.touched f.path = false → Tr.find l f.path = some f) := by
  have hgr := h.good hg hc
  have hb := h.back hg hc
  have hci := inv_check hc
  refine ⟨fun f hf k => ?_, fun f hf k => ?_⟩
  · have hu := touched_false hc k
    exact hgr.srt.find.2 ⟨h.still hg hc hf (hu _ (.inl rfl)) (fun k5 => hu _ (.inr ⟨k5, rfl⟩)), rfl⟩
  · have hu := touched_false hc k
    exact hg.srt.find.2 ⟨hb.still hgr hci hf (hu _ (inv_tc2 (.inl rfl))) (fun k5 => hu _ (inv_tc2 (.inr ⟨k5, rfl⟩))), rfl⟩
theorem found_cases (l : List Pf) (s : ByteArray) : ∃ (g : Pf) (b : Bool), Tr.found l s = .tuple #[g.v, .bool b] ∧ ∀ f, Tr.find l s = some f → g = f ∧ b = true := by
  refine ⟨(Tr.find l s).getD Pf.zero, (Tr.find l s).isSome, rfl, fun f h => ?_⟩
  rw [h]
  exact ⟨rfl, rfl⟩

set_option maxHeartbeats 8000000 in
set_option maxRecDepth 100000 in
theorem touched_any (p : Pv) (q : Qp) (s : ByteArray) (w : World) (hg : Glob w) {F : Nat → Prop} (h : Is w F p q) (b1 : q.old.length ≤ 1152921504606846976) (b2 : q.new.length ≤ 1152921504606846976) (b3 : q.path.size ≤ 1152921504606846976) (b4 : q.to_.size ≤ 1152921504606846976) (hs : s.size ≤ 4611686018427387904) :
    Calls Tryz.prog 22 #[p.v, .string s] w (Ret (.bool (q.touched s)) w) := by
  have HT := Lib.hid (fun W (hW : Ext w W) => touches_any p q W (hg.ext hW) (h.ext hW) b1 b2 b3 b4)
  have HV : Hid (q.touched s = q.touches.any fun t => Qm.eqB s t || Qm.below s t) := Lib.hid rfl
  have htl := touches_two q
  generalize q.touched s = R at HV ⊢
  generalize q.touches = tl at HT HV htl
  clear hg h b1 b2 b3 b4
  go_enter Tryz.func22, Tryz.ntmps22
  have hx := Ext.refl w
  go_wp2_with fail
  refine (HT.out _ EX).mono ?_
  rintro e w1 ⟨A, cA, rfl, hL, hx0⟩
  have HL := Lib.hid hL.out.1
  have HX1 := Lib.hid (Ext.trans (a := w) EX hx0)
  clear hL hx hx0 HT
  go_wp2_with fail
  go_loopw [10] (fun i wr => ∃ k : Nat, k ≤ tl.length ∧ i = .int .i64 k ∧ Hid ((tl.take k).any (fun t => Qm.eqB s t || Qm.below s t) = false) ∧ Hid (Ext w1 wr)) (fun i wr => tl.length - (intOf i).toNat)
  case atStart => exact ⟨0, Nat.zero_le _, rfl, Lib.hid rfl, Lib.hid (Ext.refl _)⟩
  case round =>
    obtain ⟨k, hk, rfl, HN, HX⟩ := hrel
    by_cases hlt : k < tl.length
    · obtain ⟨b, o, x, rfl, hbl, hgx, c0⟩ := lst_at (HL.out.ext HX.out) hlt
      have hm := List.mem_of_getElem? hgx
      have ht : tl.take (k + 1) = tl.take k ++ [x] := by rw [List.take_add_one, hgx]; rfl
      have HNX : Hid ((Qm.eqB s x || Qm.below s x) = false → (tl.take (k + 1)).any (fun t => Qm.eqB s t || Qm.below s t) = false) := Lib.hid (fun e => by
        rw [ht, List.any_append, HN.out]
        simp [e])
      have HYS : Hid ((Qm.eqB s x || Qm.below s x) = true → R = true) := Lib.hid (fun e => by rw [HV.out]; exact List.any_eq_true.2 ⟨x, hm, e⟩)
      clear hgx hm ht
      cases e1 : Qm.eqB s x
      · have e1' : (s.toList == x.toList) = false := e1
        cases e2 : Qm.below s x
        · have E2 := Lib.hid e2
          have HN2 := Lib.hid (HNX.out (by rw [e1, e2]; rfl))
          clear e1 e2 HNX HYS HN
          go_wp2_with (go_at_call 21; refine (rbelow_same s x _ (by omega)).mono ?_; rintro e w4 ⟨rfl, rfl⟩; rw [E2.out])
          go_roundw
          case rel => exact ⟨k + 1, by omega, rfl, HN2, HX⟩
          case measure => simp [intOf]; omega
        · have E2 := Lib.hid e2
          obtain rfl := HYS.out (by rw [e1, e2]; rfl)
          clear e1 e2 HNX HYS HN HV
          go_wp2_with (go_at_call 21; refine (rbelow_same s x _ (by omega)).mono ?_; rintro e w4 ⟨rfl, rfl⟩; rw [E2.out])
          go_ret
          exact ⟨rfl, HX1.out.trans HX.out⟩
      · have e1' : (s.toList == x.toList) = true := e1
        obtain rfl := HYS.out (by rw [e1]; rfl)
        clear e1 HNX HYS HN HV
        go_wp2_with fail
        go_ret
        exact ⟨rfl, HX1.out.trans HX.out⟩
    · obtain rfl : k = tl.length := by omega
      obtain rfl : R = false := by
        rw [HV.out]
        have := HN.out
        rwa [List.take_length] at this
      clear HV HN
      go_wp2_with fail
      go_ret
      exact ⟨rfl, HX1.out.trans HX.out⟩

set_option maxHeartbeats 16000000 in
set_option maxRecDepth 100000 in
theorem local_walk (p : Pv) (q : Qp) (A : Option Addr) (n c : Nat) (l : List Pf) (w : World) (h : Trs w A l) (hn : l.length = n) (hb : n ≤ 10000000000000) (hz : ∀ f ∈ l, f.path.size ≤ 140737488355328 ∧ f.data.size ≤ 140737488355328) (hg : Glob w) {F : Nat → Prop} (hq : Is w F p q)
    (b1 : q.old.length ≤ 1152921504606846976) (b2 : q.new.length ≤ 1152921504606846976) :
    Calls Tryz.prog 7 #[.slice A n c, p.v] w (Ret (.bool true) w) := by
  have HG := Lib.hid (fun W (hW : Ext w W) => greattree_any A n c l W (h.ext hW) hn (by omega) hz)
  have HAW := Lib.hid (fun W (hW : Ext w W) => awake12_any W (hg.ext hW))
  have HGR := Lib.hid (fun W (hW : Ext w W) => pgreat_any p q W (hq.ext hW) b1 b2)
  have HAP := Lib.hid (fun (m : q.Mild) W (hW : Ext w W) => apply_mild p q A n c l W (h.ext hW) hn hb (hg.ext hW) (hq.ext hW) b1 b2 m)
  have HTO := Lib.hid (fun (m : q.Mild) (s : ByteArray) (hs : s.size ≤ 200) W (hW : Ext w W) => touched_any p q s W (hg.ext hW) (hq.ext hW) b1 b2 (by have := m.path; omega) (by have := m.to_; omega) (by omega))
  have HQ := Lib.hid h
  have HN := Lib.hid hn
  clear h hn hz hg hq
  cases hgr : Tr.great l
  rotate_left
  · have HGr := Lib.hid hgr
    clear hgr
    go_enter Tryz.func7, Tryz.ntmps7
    have hx := Ext.refl w
    go_wp2_with (first
      | (go_at_call 10; refine (HG.out _ EX).mono ?_; rintro e w1 ⟨rfl, hx0⟩; rw [HGr.out]; have hy := Ext.trans (a := w) EX hx0; clear hx; have hx := hy; clear hy hx0)
      | (go_at_call 11; refine (HAW.out _ EX).mono ?_; rintro e w2 ⟨rfl, hx0⟩; skip; have hy := Ext.trans (a := w) EX hx0; clear hx; have hx := hy; clear hy hx0))
    (go_ret; refine Ret.mk ?_ ?_; (focus (rfl; done)); (focus (exact EX; done)))
  have HGr := Lib.hid hgr
  clear hgr
  go_enter Tryz.func7, Tryz.ntmps7
  have hx := Ext.refl w
  go_wp2_with (go_at_call 10; refine (HG.out _ EX).mono ?_; rintro e w1 ⟨rfl, hx0⟩; rw [HGr.out]; have hy := Ext.trans (a := w) EX hx0; clear hx; have hx := hy; clear hy; have hn0 := BB hx0 (w.heap.size); (first | simp [↓heap_drew_at, ↓heap_drewN_at, ↓heap_alloc_at, ↓heap_set_at, ne_two, ne_three, ne_two_left, ne_three_left, ↓hb0.eq, hb0.lt, hb0.ne] at hn0 | simp [↓heap_drew_at, ↓heap_drewN_at, ↓heap_alloc_at, ↓heap_set_at, ne_two, ne_three, ne_two_left, ne_three_left] at hn0); (try clear hb0 hc0 hf0 hl0); have hb0 := Blk.mk hn0; clear hn0; obtain ⟨hc0, hf0, hl0⟩ := hb0.all; (try clear hx0))
  refine (HGR.out _ EX).mono ?_
  rintro e w2 ⟨v, rfl, hm, hx0⟩
  have HM := Lib.hid hm
  clear hm HGR HG
  have hy := Ext.trans (a := w) EX hx0; clear hx; have hx := hy; clear hy; have hn0 := BB hx0 (w.heap.size); (first | simp [↓heap_drew_at, ↓heap_drewN_at, ↓heap_alloc_at, ↓heap_set_at, ne_two, ne_three, ne_two_left, ne_three_left, ↓hb0.eq, hb0.lt, hb0.ne] at hn0 | simp [↓heap_drew_at, ↓heap_drewN_at, ↓heap_alloc_at, ↓heap_set_at, ne_two, ne_three, ne_two_left, ne_three_left] at hn0); (try clear hb0 hc0 hf0 hl0); have hb0 := Blk.mk hn0; clear hn0; obtain ⟨hc0, hf0, hl0⟩ := hb0.all; (try clear hx0)
  cases v
  rotate_left
  · clear HAP HTO HM
    go_wp2_with (go_at_call 11; refine (HAW.out _ EX).mono ?_; rintro e w3 ⟨rfl, hx0⟩; skip; have hy := Ext.trans (a := w) EX hx0; clear hx; have hx := hy; clear hy hx0)
    (go_ret; refine Ret.mk ?_ ?_; (focus (rfl; done)); (focus (exact EX; done)))
  have hM := HM.out rfl
  have HAP := Lib.hid (HAP.out hM)
  have HTO := Lib.hid (HTO.out hM)
  clear hM HM
  by_cases he : (Tr.apply l q).2 = 0
  rotate_left
  · have he2 : ((Tr.apply l q).2 != 0) = true := by simpa using he
    clear he HTO
    generalize Tr.apply l q = r at *
    go_wp2_with fail
    refine (HAP.out _ EX).mono ?_
    rintro e w3 ⟨B, m, d, rfl, hm, hT, hx0⟩
    clear hm hT
    have hy := Ext.trans (a := w) EX hx0
    clear hx hx0 hb0 hc0 hf0 hl0
    have hx := hy
    clear hy
    go_wp2_with (go_at_call 11; refine (HAW.out _ EX).mono ?_; rintro e w4 ⟨rfl, hx0⟩; skip; have hy := Ext.trans (a := w) EX hx0; clear hx; have hx := hy; clear hy hx0)
    (go_ret; refine Ret.mk ?_ ?_; (focus (rfl; done)); (focus (exact EX; done)))
  obtain ⟨hgood, hck, hdo⟩ := Tr.apply_iff.1 (show Tr.apply l q = ((Tr.apply l q).1, 0) from Prod.ext rfl he)
  have hgr := hdo.good hgood hck
  obtain ⟨hu1, hu2⟩ := Does_far hgood hck hdo
  have HU1 := Lib.hid hu1
  have HU2 := Lib.hid hu2
  have HSZ : Hid (∀ f ∈ l, f.path.size ≤ 200) := Lib.hid (fun f hf => path_small (Tr.element_path (hgood.el f hf)))
  have HSR : Hid (∀ f ∈ (Tr.apply l q).1, f.path.size ≤ 200) := Lib.hid (fun f hf => path_small (Tr.element_path (hgr.el f hf)))
  have hlr := hgr.len
  have HAP : Hid (∀ W, Ext w W → Calls Tryz.prog 17 #[.slice A n c, p.v] W (GivesT ((Tr.apply l q).1, 0) W)) := Lib.hid (fun W hW => by
    have := HAP.out W hW
    rwa [show Tr.apply l q = ((Tr.apply l q).1, 0) from Prod.ext rfl he] at this)
  clear he hgood hck hdo hgr hu1 hu2
  generalize (Tr.apply l q).1 = r at *
  go_wp2_with fail
  refine (HAP.out _ EX).mono ?_
  rintro e w3 ⟨B, m, d, rfl, hm, hT, hx0⟩
  have HX3 := Lib.hid (Ext.trans (a := w) EX hx0)
  have HT := Lib.hid hT.out.1
  have HML : Hid (r.length = m) := Lib.hid hm.symm
  have hml : m ≤ 200 := hm ▸ hlr
  have HF1 := Lib.hid (fun u W (hW : Ext w3 W) => find_any B m d u r W (HT.out.ext hW) HML.out (by omega))
  have HF2 := Lib.hid (fun u W (hW : Ext w3 W) => find_any A n c u l W (HQ.out.ext (HX3.out.trans hW)) HN.out hb)
  have HTO : Hid (∀ s : ByteArray, s.size ≤ 200 → ∀ W, Ext w3 W → Calls Tryz.prog 22 #[p.v, .string s] W (Ret (.bool (q.touched s)) W)) := Lib.hid (fun s hs W hW => HTO.out s hs W (HX3.out.trans hW))
  have HB3 : Hid (Blk w3 w.heap.size 37 (parr p)) := Lib.hid (hb0.ext hx0)
  have hq0 := fun f : Pf => eqlIn_pf f f
  have HE := Lib.hid hq0
  have hgu := guard_pf
  clear hx hx0 hb0 hc0 hf0 hl0 hm hT hlr HAP hq0
  have hx := Ext.refl w3
  go_wp2_with fail
  clear hx
  go_loopw [33] (fun i wr => ∃ k : Nat, k ≤ n ∧ i = .int .i64 k ∧ Hid (Ext w3 wr)) (fun i wr => n - (intOf i).toNat)
  case atStart => exact ⟨0, Nat.zero_le _, rfl, Lib.hid (Ext.refl _)⟩
  case round =>
    obtain ⟨k, hk, rfl, HXr⟩ := hrel
    by_cases hlt : k < n
    · have hkl : k < l.length := by rw [HN.out]; exact hlt
      have hf : l[k]? = some (l[k]'hkl) := List.getElem?_eq_getElem hkl
      have hmem := List.getElem_mem hkl
      have hu := HU1.out _ hmem
      have hsz : (l[k]'hkl).path.size ≤ 200 := HSZ.out _ hmem
      generalize l[k]'hkl = f at hf hu hsz
      obtain ⟨b, o, rfl, hbl, c0, c1, c2, c3⟩ := (HQ.out.ext (HX3.out.trans HXr.out)).get hf
      clear hf hkl hmem
      obtain ⟨g, is, hfd, hfs⟩ := found_cases r f.path
      have HFD := Lib.hid hfd
      have HFS := Lib.hid hfs
      have HU := Lib.hid hu
      have HX3r := Lib.hid (HXr.out)
      clear hfd hfs hu
      have hx := Ext.refl wr
      have hb0r := HB3.out.ext HX3r.out
      obtain ⟨hc0, hf0, hl0⟩ := hb0r.all
      go_wp2_with fail
      refine (HF1.out f.path _ (HXr.out.trans EX)).mono ?_
      rintro e wF ⟨rfl, hx0⟩
      rw [HFD.out]
      have hxF := Ext.trans (a := wr) EX hx0
      have hbf : Blk wF wr.heap.size 27 f.arr := Blk.ext hx0 (Blk.new' rfl)
      have hb0F := hb0r.ext hxF
      have HXF := Lib.hid hxF
      have HBf := Lib.hid hbf
      have HB0F := Lib.hid hb0F
      clear hx hx0 hc0 hf0 hl0 c0 c1 c2 c3 hb0r
      have hx := Ext.refl wF
      obtain ⟨hc0, hf0, hl0⟩ := hb0F.all
      obtain ⟨hc1, hf1, hl1⟩ := hbf.all
      clear hxF hbf hb0F
      go_wp2_with fail
      refine (HTO.out f.path (by omega) _ (HX3r.out.trans (HXF.out.trans EX))).mono ?_
      rintro e wT ⟨rfl, hx0⟩
      have hxT := Ext.trans (a := wF) EX hx0
      have hbg : Blk wT wF.heap.size 27 g.arr := Blk.ext hx0 (Blk.new' rfl)
      have hbf2 := HBf.out.ext hxT
      have HXT := Lib.hid (HXF.out.trans hxT)
      clear hx hx0 hc0 hf0 hl0 hc1 hf1 hl1 hxT
      obtain ⟨hc1, hf1, hl1⟩ := hbf2.all
      obtain ⟨hc2, hf2, hl2⟩ := hbg.all
      clear hbf2 hbg
      cases ht : q.touched f.path
      · obtain ⟨rfl, rfl⟩ := HFS.out f (HU.out ht)
        have hq := HE.out g
        rw [Pf.same_iff.2 rfl] at hq
        clear ht HFS HFD HU HBf HB0F
        go_wp2_with fail
        go_roundw
        case rel => exact ⟨k + 1, by omega, rfl, Lib.hid (HXr.out.trans HXT.out)⟩
        case measure => simp [intOf]; omega
      · clear ht HFS HFD HU HBf HB0F
        go_wp2_with fail
        go_roundw
        case rel => exact ⟨k + 1, by omega, rfl, Lib.hid (HXr.out.trans HXT.out)⟩
        case measure => simp [intOf]; omega
    · obtain rfl : k = n := by omega
      clear HU1 HSZ HF1
      obtain ⟨w5, rfl⟩ : ∃ w5, w5 = wr := ⟨_, rfl⟩
      have HXw := Lib.hid HXr.out
      clear HXr
      have hx := Ext.refl w5
      go_wp2_with fail
      clear hx
      go_loopw [61] (fun i wr => ∃ k : Nat, k ≤ m ∧ i = .int .i64 k ∧ Hid (Ext w5 wr)) (fun i wr => m - (intOf i).toNat)
      case atStart => exact ⟨0, Nat.zero_le _, rfl, Lib.hid (Ext.refl _)⟩
      case round =>
        obtain ⟨k, hk, rfl, HXr⟩ := hrel
        by_cases hlt : k < m
        · have hkl : k < r.length := by rw [HML.out]; exact hlt
          have hf : r[k]? = some (r[k]'hkl) := List.getElem?_eq_getElem hkl
          have hmem := List.getElem_mem hkl
          have hu := HU2.out _ hmem
          have hsz : (r[k]'hkl).path.size ≤ 200 := HSR.out _ hmem
          generalize r[k]'hkl = f at hf hu hsz
          obtain ⟨b, o, rfl, hbl, c0, c1, c2, c3⟩ := (HT.out.ext (HXw.out.trans HXr.out)).get hf
          clear hf hkl hmem
          obtain ⟨g, is, hfd, hfs⟩ := found_cases l f.path
          have HFD := Lib.hid hfd
          have HFS := Lib.hid hfs
          have HU := Lib.hid hu
          have HX3r := Lib.hid (HXw.out.trans HXr.out)
          clear hfd hfs hu
          have hx := Ext.refl wr
          have hb0r := HB3.out.ext HX3r.out
          obtain ⟨hc0, hf0, hl0⟩ := hb0r.all
          go_wp2_with fail
          refine (HF2.out f.path _ (HXw.out.trans (HXr.out.trans EX))).mono ?_
          rintro e wF ⟨rfl, hx0⟩
          rw [HFD.out]
          have hxF := Ext.trans (a := wr) EX hx0
          have hbf : Blk wF wr.heap.size 27 f.arr := Blk.ext hx0 (Blk.new' rfl)
          have hb0F := hb0r.ext hxF
          have HXF := Lib.hid hxF
          have HBf := Lib.hid hbf
          have HB0F := Lib.hid hb0F
          clear hx hx0 hc0 hf0 hl0 c0 c1 c2 c3 hb0r
          have hx := Ext.refl wF
          obtain ⟨hc0, hf0, hl0⟩ := hb0F.all
          obtain ⟨hc1, hf1, hl1⟩ := hbf.all
          clear hxF hbf hb0F
          go_wp2_with fail
          refine (HTO.out f.path (by omega) _ (HX3r.out.trans (HXF.out.trans EX))).mono ?_
          rintro e wT ⟨rfl, hx0⟩
          have hxT := Ext.trans (a := wF) EX hx0
          have hbg : Blk wT wF.heap.size 27 g.arr := Blk.ext hx0 (Blk.new' rfl)
          have hbf2 := HBf.out.ext hxT
          have HXT := Lib.hid (HXF.out.trans hxT)
          clear hx hx0 hc0 hf0 hl0 hc1 hf1 hl1 hxT
          obtain ⟨hc1, hf1, hl1⟩ := hbf2.all
          obtain ⟨hc2, hf2, hl2⟩ := hbg.all
          clear hbf2 hbg
          cases ht : q.touched f.path
          · obtain ⟨rfl, rfl⟩ := HFS.out f (HU.out ht)
            have hq := HE.out g
            rw [Pf.same_iff.2 rfl] at hq
            clear ht HFS HFD HU HBf HB0F
            go_wp2_with fail
            go_roundw
            case rel => exact ⟨k + 1, by omega, rfl, Lib.hid (HXr.out.trans HXT.out)⟩
            case measure => simp [intOf]; omega
          · clear ht HFS HFD HU HBf HB0F
            go_wp2_with fail
            go_roundw
            case rel => exact ⟨k + 1, by omega, rfl, Lib.hid (HXr.out.trans HXT.out)⟩
            case measure => simp [intOf]; omega
        · obtain rfl : k = m := by omega
          have hx := Ext.refl wr
          go_wp2_with (go_at_call 11; refine (HAW.out _ (HX3.out.trans (HXw.out.trans (HXr.out.trans EX)))).mono ?_; rintro e w9 ⟨rfl, hx4⟩; have HX9 := Lib.hid (HX3.out.trans (HXw.out.trans (HXr.out.trans (Ext.trans (a := wr) EX hx4)))); clear hx hx4)
          go_ret
          exact ⟨rfl, HX9.out⟩
end Go.Proofs.YtdbokolbheileaaGreatDoor
