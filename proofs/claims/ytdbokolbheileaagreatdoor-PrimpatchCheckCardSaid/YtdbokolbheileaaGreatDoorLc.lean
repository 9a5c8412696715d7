/- Walks: PrimpatchCheck. -/
import Derived.Test.YtdbokolbheileaaGreatDoorTl
import Derived.Test.YtdbokolbheileaaGreatDoorTk
import Derived.Test.YtdbokolbheileaaGreatDoorYq
import Derived.Test.YtdbokolbheileaaGreatDoorZ
import Derived.Test.YtdbokolbheileaaGreatDoorHeld
set_option linter.unusedSimpArgs false
set_option linter.unusedVariables false
namespace Go.Proofs.YtdbokolbheileaaGreatDoor
open Go Go.RowKit
attribute [local go_sem ↓] Go.wp_at_zero Go.wp_at_succ

theorem turned_len (q : Qp) {b : Nat} (h1 : q.old.length ≤ b) (h2 : q.new.length ≤ b) : q.turned.old.length ≤ b ∧ q.turned.new.length ≤ b := by
  unfold Qp.turned
  by_cases hc : q.check = 0
  · rw [if_pos hc]
    obtain ⟨e1, e2⟩ := inv_lines hc
    rw [e1, e2]
    exact ⟨h2, h1⟩
  · rw [if_neg hc]
    exact ⟨Nat.zero_le _, Nat.zero_le _⟩
theorem touches_len (q : Qp) : q.touches.length ≤ 2 := by
  unfold Qp.touches
  repeat' split
  all_goals simp

set_option maxHeartbeats 16000000 in
set_option maxRecDepth 100000 in
theorem check_walk (p : Pv) (q : Qp) (w : World) (hg : Glob w) {F : Nat → Prop} (h : Is w F p q) (b1 : q.old.length ≤ 1152921504606846976) (b2 : q.new.length ≤ 1152921504606846976)
    (z1 : ∀ x ∈ q.old, x.size ≤ 4611686018427387904) (z2 : ∀ x ∈ q.new, x.size ≤ 4611686018427387904) :
    Calls Tryz.prog 9 #[p.v] w (Ret (.bool true) w) := by
  have HAW := Lib.hid (fun W (hW : Ext w W) => awake12_any W (hg.ext hW))
  have HGR := Lib.hid (fun W (hW : Ext w W) => pgreat_any p q W (h.ext hW) b1 b2)
  have HK := Lib.hid (fun (m : q.Mild) W (hW : Ext w W) => check_q p q W (hg.ext hW) (h.ext hW) b1 b2 (by have := m.path; omega) (by have := m.to_; omega))
  have HRK : Hid (∀ (m : q.Mild) W, Ext w W → Calls Tryz.prog 26 #[p.v] W (Ret (.int .i64 q.check) W)) := Lib.hid (fun m W hW => by
    have m1 := m.path
    have m2 := m.to_
    obtain ⟨A1, c1, A2, c2, rfl, ⟨h1, h2⟩, _⟩ := h.ext hW
    rw [← check_pv q A1 c1 A2 c2]
    exact rcheck_any (q.pv A1 c1 A2 c2) q.old q.new W h1 h2 b1 b2 (by show q.path.size ≤ _; omega) (by show q.to_.size ≤ _; omega) z1 z2)
  have HI := Lib.hid (fun (m : q.Mild) W (hW : Ext w W) => inv_both p q W (hg.ext hW) (h.ext hW) b1 b2 (by have := m.path; omega) (by have := m.to_; omega))
  have HJ := Lib.hid (fun (m : q.Mild) W (hW : Ext w W) => rinv_both p q W (h.ext hW) b1 b2 (by have := m.path; omega) (by have := m.to_; omega) z1 z2)
  have HT := Lib.hid (fun (m : q.Mild) W (hW : Ext w W) => touches_any p q W (hg.ext hW) (h.ext hW) b1 b2 (by have := m.path; omega) (by have := m.to_; omega))
  have HRT := Lib.hid (fun (m : q.Mild) W (hW : Ext w W) => rtouches_q p q W (h.ext hW) b1 b2 (by have := m.path; omega) (by have := m.to_; omega) z1 z2)
  obtain ⟨t1, t2⟩ := turned_len q b1 b2
  have HTL := Lib.hid (⟨t1, t2⟩ : _ ∧ _)
  clear hg h b1 b2 z1 z2 t1 t2
  have hT2 := touches_len q
  have HT2 := Lib.hid hT2
  clear hT2
  generalize q.touches = tL at *
  generalize q.turned = tq at *
  generalize q.check = r at *
  go_enter Tryz.func9, Tryz.ntmps9
  have hx := Ext.refl w
  go_wp2_with fail
  refine (HGR.out _ EX).mono ?_
  rintro e w1 ⟨v, rfl, hm, hx0⟩
  have HM := Lib.hid hm
  clear hm HGR
  have hy := Ext.trans (a := w) EX hx0; clear hx; have hx := hy; clear hy; have hn0 := BB hx0 (w.heap.size); (first | simp [↓heap_drew_at, ↓heap_drewN_at, ↓heap_alloc_at, ↓heap_set_at, ne_two, ne_three, ne_two_left, ne_three_left, ↓hb0.eq, hb0.lt, hb0.ne] at hn0 | simp [↓heap_drew_at, ↓heap_drewN_at, ↓heap_alloc_at, ↓heap_set_at, ne_two, ne_three, ne_two_left, ne_three_left] at hn0); (try clear hb0 hc0 hf0 hl0); have hb0 := Blk.mk hn0; clear hn0; obtain ⟨hc0, hf0, hl0⟩ := hb0.all; (try clear hx0)
  cases v
  rotate_left
  · clear HK HRK HI HJ HT HRT HM
    go_wp2_with (go_at_call 11; refine (HAW.out _ EX).mono ?_; rintro e w2 ⟨rfl, hx0⟩; skip; have hy := Ext.trans (a := w) EX hx0; clear hx; have hx := hy; clear hy hx0)
    (go_ret; refine Ret.mk ?_ ?_; (focus (rfl; done)); (focus (exact EX; done)))
  · have hM := HM.out rfl
    have HI := Lib.hid (HI.out hM)
    have HJ := Lib.hid (HJ.out hM)
    have HK := Lib.hid (HK.out hM)
    have HRK := Lib.hid (HRK.out hM)
    have HT := Lib.hid (HT.out hM)
    have HRT := Lib.hid (HRT.out hM)
    clear hM HM
    go_wp2_with fail
    refine (HI.out _ EX).mono ?_
    rintro e w2 ⟨P1, rfl, i1, hx0⟩
    have I1 := Lib.hid i1
    clear i1 HI
    have hy := Ext.trans (a := w) EX hx0; clear hx; have hx := hy; clear hy; have hn0 := BB hx0 (w.heap.size); (first | simp [↓heap_drew_at, ↓heap_drewN_at, ↓heap_alloc_at, ↓heap_set_at, ne_two, ne_three, ne_two_left, ne_three_left, ↓hb0.eq, hb0.lt, hb0.ne] at hn0 | simp [↓heap_drew_at, ↓heap_drewN_at, ↓heap_alloc_at, ↓heap_set_at, ne_two, ne_three, ne_two_left, ne_three_left] at hn0); (try clear hb0 hc0 hf0 hl0); have hb0 := Blk.mk hn0; clear hn0; obtain ⟨hc0, hf0, hl0⟩ := hb0.all; (try clear hx0)
    go_wp2_with fail
    refine (HJ.out _ EX).mono ?_
    rintro e w3 ⟨P2, rfl, i2, hx0⟩
    have hs : Ext w2 w3 := (EX : Ext w2 _).trans hx0
    have hbA : Blk w3 w2.heap.size 37 (parr P1) := Blk.ext hx0 (Blk.new' (by simp))
    have I1 := Lib.hid (I1.out.ext hs)
    have I2 := Lib.hid i2
    have HbA := Lib.hid hbA
    clear i2 HJ hs hbA
    have hy := Ext.trans (a := w) EX hx0; clear hx; have hx := hy; clear hy; have hn0 := BB hx0 (w.heap.size); (first | simp [↓heap_drew_at, ↓heap_drewN_at, ↓heap_alloc_at, ↓heap_set_at, ne_two, ne_three, ne_two_left, ne_three_left, ↓hb0.eq, hb0.lt, hb0.ne] at hn0 | simp [↓heap_drew_at, ↓heap_drewN_at, ↓heap_alloc_at, ↓heap_set_at, ne_two, ne_three, ne_two_left, ne_three_left] at hn0); (try clear hb0 hc0 hf0 hl0); have hb0 := Blk.mk hn0; clear hn0; obtain ⟨hc0, hf0, hl0⟩ := hb0.all; (try clear hx0)
    have Hb0 := Lib.hid hb0
    have HX3 := Lib.hid hx
    have HS := Lib.hid (fun W (hW : Ext w3 W) => by
      have := psame_any P1 P2 tq tq W (I1.out.ext hW) (I2.out.ext hW) HTL.out.1 HTL.out.2 HTL.out.1 HTL.out.2
      rwa [Qp.same_iff.2 rfl] at this)
    clear I1 I2 HTL
    go_upto_region 5 with fail
    clear hx hb0 hc0 hf0 hl0
    refine wp_region_noPanic (wp_region_held_drew (S := fun w' => Blk w' w.heap.size 37 (parr p) ∧ Blk w' w2.heap.size 37 (parr P1) ∧ Blk w' w3.heap.size 37 (parr P2) ∧ Ext w3 w') (by kernel_rfl) ⟨(Blk.alloc Hb0.out _).drew, (Blk.alloc HbA.out _).drew, (Blk.new' (by simp)).drew, ((Ext.refl w3).alloc _).drew1⟩ (fun hH => ?_))
    clear Hb0 HbA
    generalize World.drew _ = v0 at hH ⊢
    obtain ⟨b0, bA, bB, hv⟩ := hH
    refine tl (i := 0) (parr p).toList rfl rfl rfl rfl rfl Tryz.underlying37 rfl (fun _ h => h.1.range 0 _ (fun j _ => by rw [Nat.zero_add, Array.getElem?_toList])) ⟨b0, bA, bB, hv⟩ ?_
    try simp only [Act.put, sA, s0, sS]
    refine tl (i := 2) (parr p).toList rfl rfl rfl rfl rfl Tryz.underlying37 rfl (fun _ h => h.1.range 0 _ (fun j _ => by rw [Nat.zero_add, Array.getElem?_toList])) ⟨b0, bA, bB, hv⟩ ?_
    try simp only [Act.put, sA, s0, sS]
    refine wpAnyH_one (i := 1) (by kernel_rfl) rfl (by kernel_rfl) ?_
    go_simp
    refine (HK.out _ (HX3.out.trans hv)).mono ?_
    rintro e v1 ⟨rfl, hx0⟩
    replace b0 := b0.ext hx0
    replace bA := bA.ext hx0
    replace bB := bB.ext hx0
    replace hv := hv.trans hx0
    refine ⟨⟨b0, bA, bB, hv⟩, ?_⟩
    clear hx0
    try simp only [Act.put, sA, s0, sS]
    refine wpAnyH_one (i := 3) (by kernel_rfl) rfl (by kernel_rfl) ?_
    go_simp
    refine (HRK.out _ (HX3.out.trans hv)).mono ?_
    rintro e v3 ⟨rfl, hx0⟩
    replace b0 := b0.ext hx0
    replace bA := bA.ext hx0
    replace bB := bB.ext hx0
    replace hv := hv.trans hx0
    refine ⟨⟨b0, bA, bB, hv⟩, ?_⟩
    clear hx0
    try simp only [Act.put, sA, s0, sS]
    refine wpAnyH_one (i := 4) (by kernel_rfl) rfl (by kernel_rfl) ?_
    go_simp
    try simp only [Act.put, sA, s0, sS]
    refine tf (i := 5) (v := .bool true) rfl rfl (fun _ => rfl) ⟨b0, bA, bB, hv⟩ ?_
    try simp only [Act.put, sA, s0, sS]
    refine tg (i := 6) (parr P1).toList rfl rfl rfl rfl Tryz.underlying37 rfl (fun _ h => h.2.1.range 0 _ (fun j _ => by rw [Nat.zero_add, Array.getElem?_toList])) ⟨b0, bA, bB, hv⟩ ?_
    try simp only [Act.put, sA, s0, sS]
    refine tg (i := 7) (parr P2).toList rfl rfl rfl rfl Tryz.underlying37 rfl (fun _ h => h.2.2.1.range 0 _ (fun j _ => by rw [Nat.zero_add, Array.getElem?_toList])) ⟨b0, bA, bB, hv⟩ ?_
    try simp only [Act.put, sA, s0, sS]
    refine wpAnyH_one (i := 8) (by kernel_rfl) rfl (by kernel_rfl) ?_
    go_simp
    refine (HS.out _ hv).mono ?_
    rintro e v8 ⟨rfl, hx0⟩
    replace b0 := b0.ext hx0
    replace bA := bA.ext hx0
    replace bB := bB.ext hx0
    replace hv := hv.trans hx0
    refine ⟨⟨b0, bA, bB, hv⟩, ?_⟩
    clear hx0
    try simp only [Act.put, sA, s0, sS]
    refine tf (i := 9) (v := .bool true) rfl rfl (fun _ => rfl) ⟨b0, bA, bB, hv⟩ ?_
    try simp only [Act.put, sA, s0, sS]
    refine tf (i := 10) (v := .bool true) rfl rfl (fun _ => rfl) ⟨b0, bA, bB, hv⟩ ?_
    try simp only [Act.put, sA, s0, sS]
    refine tf (i := 11) (v := .int .i64 r) rfl rfl (fun _ => rfl) ⟨b0, bA, bB, hv⟩ ?_
    try simp only [Act.put, sA, s0, sS]
    refine tf (i := 12) (v := .int .i64 r) rfl rfl (fun _ => rfl) ⟨b0, bA, bB, hv⟩ ?_
    try simp only [Act.put, sA, s0, sS]
    refine wpAnyH_one (i := 13) (by kernel_rfl) rfl (by kernel_rfl) ?_
    go_simp
    try simp only [Act.put, sA, s0, sS]
    refine tf (i := 14) (v := .bool true) rfl rfl (fun _ => rfl) ⟨b0, bA, bB, hv⟩ ?_
    try simp only [Act.put, sA, s0, sS]
    refine tf (i := 15) (v := .bool true) rfl rfl (fun _ => rfl) ⟨b0, bA, bB, hv⟩ ?_
    try simp only [Act.put, sA, s0, sS]
    refine tg (i := 16) (parr p).toList rfl rfl rfl rfl Tryz.underlying37 rfl (fun _ h => h.1.range 0 _ (fun j _ => by rw [Nat.zero_add, Array.getElem?_toList])) ⟨b0, bA, bB, hv⟩ ?_
    try simp only [Act.put, sA, s0, sS]
    refine tg (i := 18) (parr p).toList rfl rfl rfl rfl Tryz.underlying37 rfl (fun _ h => h.1.range 0 _ (fun j _ => by rw [Nat.zero_add, Array.getElem?_toList])) ⟨b0, bA, bB, hv⟩ ?_
    try simp only [Act.put, sA, s0, sS]
    refine wpAnyH_one (i := 17) (by kernel_rfl) rfl (by kernel_rfl) ?_
    go_simp
    refine (HT.out _ (HX3.out.trans hv)).mono ?_
    rintro e v17 ⟨A, cA, rfl, hLA, hx0⟩
    replace b0 := b0.ext hx0
    replace bA := bA.ext hx0
    replace bB := bB.ext hx0
    replace hv := hv.trans hx0
    refine ⟨⟨b0, bA, bB, hv⟩, ?_⟩
    clear hx0
    try simp only [Act.put, sA, s0, sS]
    refine wpAnyH_one (i := 19) (by kernel_rfl) rfl (by kernel_rfl) ?_
    go_simp
    refine (HRT.out _ (HX3.out.trans hv)).mono ?_
    rintro e v19 ⟨B, cB, rfl, hLB, hx0⟩
    have HLA := Lib.hid (hLA.out.1.ext hx0)
    replace b0 := b0.ext hx0
    replace bA := bA.ext hx0
    replace bB := bB.ext hx0
    replace hv := hv.trans hx0
    refine ⟨⟨b0, bA, bB, hv⟩, ?_⟩
    clear hx0
    try simp only [Act.put, sA, s0, sS]
    refine wpAnyH_one (i := 20) (by kernel_rfl) rfl (by kernel_rfl) ?_
    go_simp
    have hS4 := rsame_any A B tL.length tL.length cA cB tL tL v19 HLA.out hLB.out.1 (by have := HT2.out; omega) (by have := HT2.out; omega)
    rw [show decide (tL = tL) = true from decide_eq_true rfl] at hS4
    refine hS4.mono ?_
    rintro e v20 ⟨rfl, hx0⟩
    clear hS4
    replace b0 := b0.ext hx0
    replace bA := bA.ext hx0
    replace bB := bB.ext hx0
    replace hv := hv.trans hx0
    refine ⟨⟨b0, bA, bB, hv⟩, ?_⟩
    clear hx0
    try simp only [Act.put, sA, s0, sS]
    refine tf (i := 21) (v := .bool true) rfl rfl (fun _ => rfl) ⟨b0, bA, bB, hv⟩ ?_
    try simp only [Act.put, sA, s0, sS]
    refine tf (i := 22) (v := .bool true) rfl rfl (fun _ => rfl) ⟨b0, bA, bB, hv⟩ ?_
    try simp only [Act.put, sA, s0, sS]
    refine wpAnyH_one (i := 23) (by kernel_rfl) rfl (by kernel_rfl) ?_
    go_simp
    refine (HAW.out _ (HX3.out.trans hv)).mono ?_
    rintro e v23 ⟨rfl, hx0⟩
    replace b0 := b0.ext hx0
    replace bA := bA.ext hx0
    replace bB := bB.ext hx0
    replace hv := hv.trans hx0
    refine ⟨⟨b0, bA, bB, hv⟩, ?_⟩
    clear hx0
    try simp only [Act.put, sA, s0, sS]
    refine tf (i := 24) (v := .bool true) rfl rfl (fun _ => rfl) ⟨b0, bA, bB, hv⟩ ?_
    try simp only [Act.put, sA, s0, sS]
    refine wpAnyH_one (i := 25) (by kernel_rfl) rfl (by kernel_rfl) ?_
    go_simp
    try simp only [Act.put, sA, s0, sS]
    refine wpAnyH_done (by kernel_rfl) (NoPanic.normal ?_) _
    have hx := HX3.out.trans hv
    go_wp2_with fail
    (go_ret; refine Ret.mk ?_ ?_; (focus (rfl; done)); (focus (exact EX; done)))
end Go.Proofs.YtdbokolbheileaaGreatDoor
