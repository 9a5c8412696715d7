/- Walks: PrimpatchInverse. -/
import Derived.Test.YtdbokolbheileaaGreatDoorLd
import Derived.Test.YtdbokolbheileaaGreatDoorYu
set_option linter.unusedSimpArgs false
set_option linter.unusedVariables false
namespace Go.Proofs.YtdbokolbheileaaGreatDoor
open Go Go.RowKit

/-- Where a patch's block lies and what it holds, in a later world too. -/
theorem inv_small {q : Qp} (h : q.check = 0) : q.inv.path.size ≤ 200 ∧ q.inv.to_.size ≤ 200 := by
  have hi := inv_check h
  obtain ⟨p1, p2⟩ := path_ok (check_parts hi).2.2.1
  refine ⟨path_small p1, ?_⟩
  by_cases hk : q.inv.kind = 5
  · exact path_small (p2 hk)
  · rw [(check_lean hi).to_ hk]
    exact Nat.zero_le _

set_option maxHeartbeats 16000000 in
set_option maxRecDepth 100000 in
theorem inverse_walk (p : Pv) (q : Qp) (A : Option Addr) (n c : Nat) (l : List Pf) (w : World) (h : Trs w A l) (hn : l.length = n) (hb : n ≤ 10000000000000) (hz : ∀ f ∈ l, f.path.size ≤ 140737488355328 ∧ f.data.size ≤ 140737488355328) (hg : Glob w) {F : Nat → Prop} (hq : Is w F p q)
    (b1 : q.old.length ≤ 1152921504606846976) (b2 : q.new.length ≤ 1152921504606846976) :
    Calls Tryz.prog 8 #[.slice A n c, p.v] w (Ret (.bool true) w) := by
  have HG := Lib.hid (fun W (hW : Ext w W) => greattree_any A n c l W (h.ext hW) hn (by omega) hz)
  have HAW := Lib.hid (fun W (hW : Ext w W) => awake12_any W (hg.ext hW))
  have HGR := Lib.hid (fun W (hW : Ext w W) => pgreat_any p q W (hq.ext hW) b1 b2)
  have HAP := Lib.hid (fun (m : q.Mild) W (hW : Ext w W) => apply_mild p q A n c l W (h.ext hW) hn hb (hg.ext hW) (hq.ext hW) b1 b2 m)
  have HK := Lib.hid (fun (m : q.Mild) W (hW : Ext w W) => check_q p q W (hg.ext hW) (hq.ext hW) b1 b2 (by have := m.path; omega) (by have := m.to_; omega))
  have HI := Lib.hid (fun (m : q.Mild) W (hW : Ext w W) => inv_both p q W (hg.ext hW) (hq.ext hW) b1 b2 (by have := m.path; omega) (by have := m.to_; omega))
  have HQ := Lib.hid h
  have Hg := Lib.hid hg
  have HN := Lib.hid hn
  have HIS := Lib.hid hq
  clear h hn hz hg hq
  cases hgr : Tr.great l
  rotate_left
  · have HGr := Lib.hid hgr
    clear hgr
    go_enter Tryz.func8, Tryz.ntmps8
    have hx := Ext.refl w
    go_wp2_with (first
      | (go_at_call 10; refine (HG.out _ EX).mono ?_; rintro e w1 ⟨rfl, hx0⟩; rw [HGr.out]; have hy := Ext.trans (a := w) EX hx0; clear hx; have hx := hy; clear hy hx0)
      | (go_at_call 11; refine (HAW.out _ EX).mono ?_; rintro e w2 ⟨rfl, hx0⟩; skip; have hy := Ext.trans (a := w) EX hx0; clear hx; have hx := hy; clear hy hx0))
    (go_ret; refine Ret.mk ?_ ?_; (focus (rfl; done)); (focus (exact EX; done)))
  have HGr := Lib.hid hgr
  clear hgr
  go_enter Tryz.func8, Tryz.ntmps8
  have hx := Ext.refl w
  go_wp2_with (go_at_call 10; refine (HG.out _ EX).mono ?_; rintro e w1 ⟨rfl, hx0⟩; rw [HGr.out]; have hy := Ext.trans (a := w) EX hx0; clear hx; have hx := hy; clear hy; have hn0 := BB hx0 (w.heap.size); (first | simp [↓heap_drew_at, ↓heap_drewN_at, ↓heap_alloc_at, ↓heap_set_at, ne_two, ne_three, ne_two_left, ne_three_left, ↓hb0.eq, hb0.lt, hb0.ne] at hn0 | simp [↓heap_drew_at, ↓heap_drewN_at, ↓heap_alloc_at, ↓heap_set_at, ne_two, ne_three, ne_two_left, ne_three_left] at hn0); (try clear hb0 hc0 hf0 hl0); have hb0 := Blk.mk hn0; clear hn0; obtain ⟨hc0, hf0, hl0⟩ := hb0.all; (try clear hx0))
  refine (HGR.out _ EX).mono ?_
  rintro e w2 ⟨v, rfl, hm, hx0⟩
  have HM := Lib.hid hm
  clear hm HGR HG
  have hy := Ext.trans (a := w) EX hx0; clear hx; have hx := hy; clear hy; have hn0 := BB hx0 (w.heap.size); (first | simp [↓heap_drew_at, ↓heap_drewN_at, ↓heap_alloc_at, ↓heap_set_at, ne_two, ne_three, ne_two_left, ne_three_left, ↓hb0.eq, hb0.lt, hb0.ne] at hn0 | simp [↓heap_drew_at, ↓heap_drewN_at, ↓heap_alloc_at, ↓heap_set_at, ne_two, ne_three, ne_two_left, ne_three_left] at hn0); (try clear hb0 hc0 hf0 hl0); have hb0 := Blk.mk hn0; clear hn0; obtain ⟨hc0, hf0, hl0⟩ := hb0.all; (try clear hx0)
  cases v
  rotate_left
  · clear HAP HK HI HM
    go_wp2_with (go_at_call 11; refine (HAW.out _ EX).mono ?_; rintro e w3 ⟨rfl, hx0⟩; skip; have hy := Ext.trans (a := w) EX hx0; clear hx; have hx := hy; clear hy hx0)
    (go_ret; refine Ret.mk ?_ ?_; (focus (rfl; done)); (focus (exact EX; done)))
  have hM := HM.out rfl
  have HAP := Lib.hid (HAP.out hM)
  have HK := Lib.hid (HK.out hM)
  have HI := Lib.hid (HI.out hM)
  have Hold := Lib.hid hM.old
  have Hnew := Lib.hid hM.new
  clear hM HM
  by_cases hc : q.check = 0
  rotate_left
  · have hc' : (q.check != 0) = true := by simpa using hc
    clear HAP hc
    generalize q.check = r at *
    go_wp2_with fail
    refine (HI.out _ EX).mono ?_
    rintro e w3 ⟨P1, rfl, i1, hx0⟩
    clear i1 HI
    have hy := Ext.trans (a := w) EX hx0; clear hx; have hx := hy; clear hy; have hn0 := BB hx0 (w.heap.size); (first | simp [↓heap_drew_at, ↓heap_drewN_at, ↓heap_alloc_at, ↓heap_set_at, ne_two, ne_three, ne_two_left, ne_three_left, ↓hb0.eq, hb0.lt, hb0.ne] at hn0 | simp [↓heap_drew_at, ↓heap_drewN_at, ↓heap_alloc_at, ↓heap_set_at, ne_two, ne_three, ne_two_left, ne_three_left] at hn0); (try clear hb0 hc0 hf0 hl0); have hb0 := Blk.mk hn0; clear hn0; obtain ⟨hc0, hf0, hl0⟩ := hb0.all; (try clear hx0)
    go_wp2_with (first
      | (go_at_call 20; refine (HK.out _ EX).mono ?_; rintro e w4 ⟨rfl, hx0⟩; have hy := Ext.trans (a := w) EX hx0; clear hx; have hx := hy; clear hy hx0)
      | (go_at_call 11; refine (HAW.out _ EX).mono ?_; rintro e w5 ⟨rfl, hx0⟩; skip; have hy := Ext.trans (a := w) EX hx0; clear hx; have hx := hy; clear hy hx0))
    (go_ret; refine Ret.mk ?_ ?_; (focus (rfl; done)); (focus (exact EX; done)))
  obtain ⟨z1, z2⟩ := inv_small hc
  have hci := inv_check hc
  have hii := inv_inv hc
  have hti : q.inv.turned = q := by unfold Qp.turned; rw [if_pos hci, hii]
  have htq : q.turned = q.inv := by unfold Qp.turned; rw [if_pos hc]
  obtain ⟨hl1, hl2⟩ := inv_lines hc
  have y1 : q.inv.old.length ≤ 1152921504606846976 := by rw [hl1]; have := Hnew.out; omega
  have y2 : q.inv.new.length ≤ 1152921504606846976 := by rw [hl2]; have := Hold.out; omega
  rw [htq, hc] at HI
  rw [hc] at HK
  have Hc := Lib.hid hc
  have Hci := Lib.hid hci
  have Hti := Lib.hid hti
  have Hz := Lib.hid (⟨z1, z2, y1, y2⟩ : _ ∧ _ ∧ _ ∧ _)
  have HSM : Hid (q.same q = true) := Lib.hid (Qp.same_iff.2 rfl)
  clear hc hci hii hti htq hl1 hl2 y1 y2 z1 z2
  go_wp2_with fail
  refine (HI.out _ EX).mono ?_
  rintro e w3 ⟨P1, rfl, i1, hx0⟩
  have I1 := Lib.hid i1
  clear i1 HI
  have hy := Ext.trans (a := w) EX hx0; clear hx; have hx := hy; clear hy; have hn0 := BB hx0 (w.heap.size); (first | simp [↓heap_drew_at, ↓heap_drewN_at, ↓heap_alloc_at, ↓heap_set_at, ne_two, ne_three, ne_two_left, ne_three_left, ↓hb0.eq, hb0.lt, hb0.ne] at hn0 | simp [↓heap_drew_at, ↓heap_drewN_at, ↓heap_alloc_at, ↓heap_set_at, ne_two, ne_three, ne_two_left, ne_three_left] at hn0); (try clear hb0 hc0 hf0 hl0); have hb0 := Blk.mk hn0; clear hn0; obtain ⟨hc0, hf0, hl0⟩ := hb0.all; (try clear hx0)
  have HX3 := Lib.hid hx
  have HJ := Lib.hid (fun W (hW : Ext w3 W) => by
    obtain ⟨z1, z2, y1, y2⟩ := Hz.out
    have := inv_both P1 q.inv W (Hg.out.ext (HX3.out.trans hW)) (I1.out.ext hW) y1 y2 (by omega) (by omega)
    rwa [Hti.out, Hci.out] at this)
  have HCI := Lib.hid (fun W (hW : Ext w3 W) => by
    obtain ⟨z1, z2, y1, y2⟩ := Hz.out
    have := check_q P1 q.inv W (Hg.out.ext (HX3.out.trans hW)) (I1.out.ext hW) y1 y2 (by omega) (by omega)
    rwa [Hci.out] at this)
  go_wp2_with fail
  refine (HJ.out _ EX).mono ?_
  rintro e w4 ⟨P2, rfl, i2, hx0⟩
  have hs : Ext w3 w4 := (EX : Ext w3 _).trans hx0
  have hb1 : Blk w4 w3.heap.size 37 (parr P1) := Blk.ext hx0 (Blk.new' (by simp))
  have HX34 := Lib.hid hs
  have HB1 := Lib.hid hb1
  have I2 := Lib.hid i2
  clear i2 HJ hs hb1
  have hy := Ext.trans (a := w) EX hx0; clear hx; have hx := hy; clear hy; have hn0 := BB hx0 (w.heap.size); (first | simp [↓heap_drew_at, ↓heap_drewN_at, ↓heap_alloc_at, ↓heap_set_at, ne_two, ne_three, ne_two_left, ne_three_left, ↓hb0.eq, hb0.lt, hb0.ne] at hn0 | simp [↓heap_drew_at, ↓heap_drewN_at, ↓heap_alloc_at, ↓heap_set_at, ne_two, ne_three, ne_two_left, ne_three_left] at hn0); (try clear hb0 hc0 hf0 hl0); have hb0 := Blk.mk hn0; clear hn0; obtain ⟨hc0, hf0, hl0⟩ := hb0.all; (try clear hx0)
  have HX4 := Lib.hid hx
  have HB0 := Lib.hid hb0
  have HS := Lib.hid (fun W (hW : Ext w4 W) => by
    have := psame_any P2 p q q W (I2.out.ext hW) (HIS.out.ext (HX4.out.trans hW)) b1 b2 b1 b2
    rwa [HSM.out] at this)
  clear hx hb0 hc0 hf0 hl0
  have hx := Ext.refl w4
  obtain ⟨hc0, hf0, hl0⟩ := HB0.out.all
  obtain ⟨hc1, hf1, hl1⟩ := HB1.out.all
  go_wp2_with (first
    | (go_at_call 24; refine (HS.out _ EX).mono ?_; rintro e w5 ⟨rfl, hx4⟩; have hx5 := Ext.trans (a := w4) EX hx4; clear hx hx4 hc0 hf0 hl0 hc1 hf1 hl1; have hx := hx5; clear hx5; obtain ⟨hc0, hf0, hl0⟩ := (HB0.out.ext hx).all; obtain ⟨hc1, hf1, hl1⟩ := (HB1.out.ext hx).all)
    | (go_at_call 20; refine (HCI.out _ (HX34.out.trans EX)).mono ?_; rintro e w6 ⟨rfl, hx4⟩; have hx5 := Ext.trans (a := w4) EX hx4; clear hx hx4 hc0 hf0 hl0 hc1 hf1 hl1; have hx := hx5; clear hx5; obtain ⟨hc0, hf0, hl0⟩ := (HB0.out.ext hx).all; obtain ⟨hc1, hf1, hl1⟩ := (HB1.out.ext hx).all))
  clear HS HK
  by_cases he : (Tr.apply l q).2 = 0
  rotate_left
  · have he2 : ((Tr.apply l q).2 != 0) = true := by simpa using he
    clear he
    generalize Tr.apply l q = r at *
    refine (HAP.out _ (HX4.out.trans EX)).mono ?_
    rintro e w7 ⟨B, m, d, rfl, hm, hT, hx4⟩
    have hx5 := Ext.trans (a := w4) EX hx4
    clear hx hx4 hc0 hf0 hl0 hc1 hf1 hl1 hm hT
    have hx := hx5
    clear hx5
    go_wp2_with (go_at_call 11; refine (HAW.out _ (HX4.out.trans EX)).mono ?_; rintro e w8 ⟨rfl, hx4⟩; have hx5 := Ext.trans (a := w4) EX hx4; clear hx hx4; have hx := hx5; clear hx5)
    go_ret
    exact ⟨rfl, HX4.out.trans EX⟩
  · obtain ⟨hgood, hck, hdo⟩ := Tr.apply_iff.1 (show Tr.apply l q = ((Tr.apply l q).1, 0) from Prod.ext rfl he)
    have hgr := hdo.good hgood hck
    have hlr := hgr.len
    have hback : Tr.apply (Tr.apply l q).1 q.inv = (l, 0) := Tr.apply_iff.2 ⟨hgr, inv_check hck, hdo.back hgood hck⟩
    have HBK := Lib.hid hback
    have HAP : Hid (∀ W, Ext w W → Calls Tryz.prog 17 #[.slice A n c, p.v] W (GivesT ((Tr.apply l q).1, 0) W)) := Lib.hid (fun W hW => by
      have := HAP.out W hW
      rwa [show Tr.apply l q = ((Tr.apply l q).1, 0) from Prod.ext rfl he] at this)
    clear he hgood hck hdo hgr hback
    generalize (Tr.apply l q).1 = r at *
    refine (HAP.out _ (HX4.out.trans EX)).mono ?_
    rintro e w7 ⟨B, m, d, rfl, hm, hT, hx4⟩
    have hml : m ≤ 200 := hm ▸ hlr
    have HT := Lib.hid hT.out.1
    have HX7 := Lib.hid (Ext.trans (a := w4) EX hx4)
    have HA2 := Lib.hid (fun W (hW : Ext w7 W) => by
      obtain ⟨z1, z2, y1, y2⟩ := Hz.out
      have := apply_any P1 q.inv B m d r W (HT.out.ext hW) hm.symm (by omega) (Hg.out.ext (HX4.out.trans (HX7.out.trans hW))) (I1.out.ext (HX34.out.trans (HX7.out.trans hW))) y1 y2 (by omega) (by omega)
      rwa [HBK.out] at this)
    clear hx hx4 hc0 hf0 hl0 hc1 hf1 hl1 hm hT hlr HAP
    have hx := Ext.refl w7
    obtain ⟨hc1, hf1, hl1⟩ := (HB1.out.ext HX7.out).all
    go_wp2_with fail
    refine (HA2.out _ EX).mono ?_
    rintro e w8 ⟨E, m2, d2, rfl, hm2, hT2, hx4⟩
    obtain rfl : m2 = n := hm2.trans HN.out
    have HX8 := Lib.hid (Ext.trans (a := w7) EX hx4)
    have HT2 := Lib.hid hT2.out.1
    have HS2 := Lib.hid (fun W (hW : Ext w8 W) => by
      have := sametree_any E A m2 m2 d2 c l l W (HT2.out.ext hW) (HQ.out.ext (HX4.out.trans (HX7.out.trans (HX8.out.trans hW)))) HN.out HN.out hb hb
      rwa [show decide (l = l) = true from decide_eq_true rfl] at this)
    have HXA := Lib.hid (HX4.out.trans (HX7.out.trans HX8.out))
    clear hx hx4 hc1 hf1 hl1 hm2 hT2
    have hx := Ext.refl w8
    go_wp2_with (first
      | (go_at_call 19; refine (HS2.out _ EX).mono ?_; rintro e w9 ⟨rfl, hx4⟩; have hx5 := Ext.trans (a := w8) EX hx4; clear hx hx4; have hx := hx5; clear hx5)
      | (go_at_call 11; refine (HAW.out _ (HXA.out.trans EX)).mono ?_; rintro e w9 ⟨rfl, hx4⟩; have hx5 := Ext.trans (a := w8) EX hx4; clear hx hx4; have hx := hx5; clear hx5))
    go_ret
    exact ⟨rfl, HXA.out.trans EX⟩
end Go.Proofs.YtdbokolbheileaaGreatDoor
