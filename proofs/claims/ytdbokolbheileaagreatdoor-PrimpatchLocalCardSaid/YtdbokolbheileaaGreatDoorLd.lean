/- Walks: PrimpatchValid. -/
import Derived.Test.YtdbokolbheileaaGreatDoorJd
import Derived.Test.YtdbokolbheileaaGreatDoorJe
import Derived.Test.YtdbokolbheileaaGreatDoorYq
import Derived.Test.YtdbokolbheileaaGreatDoorZ
set_option linter.unusedSimpArgs false
set_option linter.unusedVariables false
namespace Go.Proofs.YtdbokolbheileaaGreatDoor
open Go Go.RowKit

/-- Apply at a patch of fair size, and its outcome. -/
theorem apply_mild (p : Pv) (q : Qp) (A : Option Addr) (n c : Nat) (l : List Pf) (w : World) (h : Trs w A l) (hn : l.length = n) (hb : n ≤ 10000000000000) (hg : Glob w) {F : Nat → Prop} (hq : Is w F p q)
    (b1 : q.old.length ≤ 1152921504606846976) (b2 : q.new.length ≤ 1152921504606846976) (m : q.Mild) :
    Calls Tryz.prog 17 #[.slice A n c, p.v] w (GivesT (Tr.apply l q) w) :=
  apply_any p q A n c l w h hn hb hg hq b1 b2 (by have := m.path; omega) (by have := m.to_; omega)

set_option maxHeartbeats 16000000 in
set_option maxRecDepth 100000 in
theorem valid_walk (p : Pv) (q : Qp) (A : Option Addr) (n c : Nat) (l : List Pf) (w : World) (h : Trs w A l) (hn : l.length = n) (hb : n ≤ 10000000000000) (hz : ∀ f ∈ l, f.path.size ≤ 140737488355328 ∧ f.data.size ≤ 140737488355328) (hg : Glob w) {F : Nat → Prop} (hq : Is w F p q)
    (b1 : q.old.length ≤ 1152921504606846976) (b2 : q.new.length ≤ 1152921504606846976) :
    Calls Tryz.prog 5 #[.slice A n c, p.v] w (Ret (.bool true) w) := by
  have HG := Lib.hid (fun W (hW : Ext w W) => greattree_any A n c l W (h.ext hW) hn (by omega) hz)
  have HAW := Lib.hid (fun W (hW : Ext w W) => awake12_any W (hg.ext hW))
  have HGR := Lib.hid (fun W (hW : Ext w W) => pgreat_any p q W (hq.ext hW) b1 b2)
  have HAP := Lib.hid (fun (m : q.Mild) W (hW : Ext w W) => apply_mild p q A n c l W (h.ext hW) hn hb (hg.ext hW) (hq.ext hW) b1 b2 m)
  have HK := Lib.hid (fun (m : q.Mild) W (hW : Ext w W) => check_q p q W (hg.ext hW) (hq.ext hW) b1 b2 (by have := m.path; omega) (by have := m.to_; omega))
  have HC := Lib.hid (fun W (hW : Ext w W) => checktree_any A n c l W (h.ext hW) hn hb (hg.ext hW))
  have HQ := Lib.hid h
  have Hg := Lib.hid hg
  have HN := Lib.hid hn
  clear h hn hz hg hq
  cases hgr : Tr.great l
  rotate_left
  · have HGr := Lib.hid hgr
    clear hgr
    go_enter Tryz.func5, Tryz.ntmps5
    have hx := Ext.refl w
    go_wp2_with (first
      | (go_at_call 10; refine (HG.out _ EX).mono ?_; rintro e w1 ⟨rfl, hx0⟩; rw [HGr.out]; have hy := Ext.trans (a := w) EX hx0; clear hx; have hx := hy; clear hy hx0)
      | (go_at_call 11; refine (HAW.out _ EX).mono ?_; rintro e w2 ⟨rfl, hx0⟩; skip; have hy := Ext.trans (a := w) EX hx0; clear hx; have hx := hy; clear hy hx0))
    (go_ret; refine Ret.mk ?_ ?_; (focus (rfl; done)); (focus (exact EX; done)))
  have HGr := Lib.hid hgr
  clear hgr
  go_enter Tryz.func5, Tryz.ntmps5
  have hx := Ext.refl w
  go_wp2_with (go_at_call 10; refine (HG.out _ EX).mono ?_; rintro e w1 ⟨rfl, hx0⟩; rw [HGr.out]; have hy := Ext.trans (a := w) EX hx0; clear hx; have hx := hy; clear hy; have hn0 := BB hx0 (w.heap.size); (first | simp [↓heap_drew_at, ↓heap_drewN_at, ↓heap_alloc_at, ↓heap_set_at, ne_two, ne_three, ne_two_left, ne_three_left, ↓hb0.eq, hb0.lt, hb0.ne] at hn0 | simp [↓heap_drew_at, ↓heap_drewN_at, ↓heap_alloc_at, ↓heap_set_at, ne_two, ne_three, ne_two_left, ne_three_left] at hn0); (try clear hb0 hc0 hf0 hl0); have hb0 := Blk.mk hn0; clear hn0; obtain ⟨hc0, hf0, hl0⟩ := hb0.all; (try clear hx0))
  refine (HGR.out _ EX).mono ?_
  rintro e w2 ⟨v, rfl, hm, hx0⟩
  have HM := Lib.hid hm
  clear hm HGR HG
  have hy := Ext.trans (a := w) EX hx0; clear hx; have hx := hy; clear hy; have hn0 := BB hx0 (w.heap.size); (first | simp [↓heap_drew_at, ↓heap_drewN_at, ↓heap_alloc_at, ↓heap_set_at, ne_two, ne_three, ne_two_left, ne_three_left, ↓hb0.eq, hb0.lt, hb0.ne] at hn0 | simp [↓heap_drew_at, ↓heap_drewN_at, ↓heap_alloc_at, ↓heap_set_at, ne_two, ne_three, ne_two_left, ne_three_left] at hn0); (try clear hb0 hc0 hf0 hl0); have hb0 := Blk.mk hn0; clear hn0; obtain ⟨hc0, hf0, hl0⟩ := hb0.all; (try clear hx0)
  cases v
  rotate_left
  · clear HAP HK HC HM
    go_wp2_with (go_at_call 11; refine (HAW.out _ EX).mono ?_; rintro e w3 ⟨rfl, hx0⟩; skip; have hy := Ext.trans (a := w) EX hx0; clear hx; have hx := hy; clear hy hx0)
    (go_ret; refine Ret.mk ?_ ?_; (focus (rfl; done)); (focus (exact EX; done)))
  · have hM := HM.out rfl
    have HAP := Lib.hid (HAP.out hM)
    have HK := Lib.hid (HK.out hM)
    clear hM HM
    by_cases he : (Tr.apply l q).2 = 0
    rotate_left
    · have he2 : ((Tr.apply l q).2 != 0) = true := by simpa using he
      have hnil : (Tr.apply l q).1.length = 0 := by rw [Tr.apply_err he]; rfl
      have HNIL := Lib.hid hnil
      clear he hnil HK HC
      generalize Tr.apply l q = r at *
      go_wp2_with fail
      refine (HAP.out _ EX).mono ?_
      rintro e w3 ⟨B, m, d, rfl, hm, hT, hx0⟩
      obtain rfl : m = 0 := hm.trans HNIL.out
      clear hm hT HNIL
      have hy := Ext.trans (a := w) EX hx0
      clear hx hx0 hb0 hc0 hf0 hl0
      have hx := hy
      clear hy
      go_wp2_with (go_at_call 11; refine (HAW.out _ EX).mono ?_; rintro e w4 ⟨rfl, hx0⟩; skip; have hy := Ext.trans (a := w) EX hx0; clear hx; have hx := hy; clear hy hx0)
      (go_ret; refine Ret.mk ?_ ?_; (focus (rfl; done)); (focus (exact EX; done)))
    · obtain ⟨hgood, hck, hdo⟩ := Tr.apply_iff.1 (show Tr.apply l q = ((Tr.apply l q).1, 0) from Prod.ext rfl he)
      have hgr := hdo.good hgood hck
      have hne := hdo.ne hgood hck
      have hct := Tr.good_iff.2 hgood
      have hcr := Tr.good_iff.2 hgr
      have hlr := hgr.len
      rw [hct] at HC
      rw [hck] at HK
      have HAP : Hid (∀ W, Ext w W → Calls Tryz.prog 17 #[.slice A n c, p.v] W (GivesT ((Tr.apply l q).1, 0) W)) := Lib.hid (fun W hW => by
        have := HAP.out W hW
        rwa [show Tr.apply l q = ((Tr.apply l q).1, 0) from Prod.ext rfl he] at this)
      clear he hgood hck hdo hgr hct
      generalize (Tr.apply l q).1 = r at *
      go_wp2_with fail
      refine (HAP.out _ EX).mono ?_
      rintro e w3 ⟨B, m, d, rfl, hm, hT, hx0⟩
      have HX3 := Lib.hid (Ext.trans (a := w) EX hx0)
      have HT := Lib.hid hT.out.1
      have hml : m ≤ 200 := hm ▸ hlr
      have HC2 := Lib.hid (fun W (hW : Ext w3 W) => checktree_any B m d r W (HT.out.ext hW) hm.symm (by omega) (Hg.out.ext (HX3.out.trans hW)))
      rw [hcr] at HC2
      have HS := Lib.hid (fun W (hW : Ext w3 W) => sametree_any B A m n d c r l W (HT.out.ext hW) (HQ.out.ext (HX3.out.trans hW)) hm.symm HN.out (by omega) hb)
      rw [decide_eq_false hne] at HS
      have hb3 : Blk w3 w.heap.size 37 (parr p) := hb0.ext hx0
      clear hx hx0 hb0 hc0 hf0 hl0 hne hcr hlr hm hT
      have hx := Ext.refl w3
      obtain ⟨hc0, hf0, hl0⟩ := hb3.all
      have HB3 := Lib.hid hb3
      clear hb3
      go_wp2_with fail
      refine (HC.out _ (HX3.out.trans EX)).mono ?_
      rintro e w4 ⟨rfl, hx4⟩
      have hx5 := Ext.trans (a := w3) EX hx4
      clear hx hx4 hc0 hf0 hl0
      have hx := hx5
      clear hx5
      obtain ⟨hc0, hf0, hl0⟩ := (HB3.out.ext hx).all
      go_wp2_with fail
      refine (HK.out _ (HX3.out.trans EX)).mono ?_
      rintro e w5 ⟨rfl, hx4⟩
      have hx5 := Ext.trans (a := w3) EX hx4
      clear hx hx4 hc0 hf0 hl0
      have hx := hx5
      clear hx5
      go_wp2_with fail
      refine (HC2.out _ EX).mono ?_
      rintro e w6 ⟨rfl, hx4⟩
      have hx5 := Ext.trans (a := w3) EX hx4
      clear hx hx4
      have hx := hx5
      clear hx5
      go_wp2_with (first
        | (go_at_call 19; refine (HS.out _ EX).mono ?_; rintro e w7 ⟨rfl, hx4⟩; have hx5 := Ext.trans (a := w3) EX hx4; clear hx hx4; have hx := hx5; clear hx5)
        | (go_at_call 11; refine (HAW.out _ (HX3.out.trans EX)).mono ?_; rintro e w8 ⟨rfl, hx4⟩; have hx5 := Ext.trans (a := w3) EX hx4; clear hx hx4; have hx := hx5; clear hx5))
      go_ret
      exact ⟨rfl, HX3.out.trans EX⟩
end Go.Proofs.YtdbokolbheileaaGreatDoor
