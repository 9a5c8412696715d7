/- Walks: patches that commute have the same effect in both orders. -/
import Derived.Test.YtfmgnaigcibcaaaGreatDoorWa
import Derived.Test.YtfmgnaigcibcaaaGreatDoorAw
set_option linter.unusedSimpArgs false
set_option linter.unusedVariables false
namespace Go.Proofs.YtfmgnaigcibcaaaGreatDoor
open Go Go.RowKit
attribute [local go_sem ↓] Go.wp_at_zero Go.wp_at_succ

/-- Two patches applied. -/
def bothT (t : List Pf) (a b : Qp) : List Pf × Int := if (Tr.apply t a).2 ≠ 0 then ([], (Tr.apply t a).2) else Tr.apply (Tr.apply t a).1 b
theorem bothT_zero {t : List Pf} {a b : Qp} (h : (bothT t a b).2 = 0) : ∃ u, Tr.apply t a = (u, 0) ∧ Tr.apply u b = ((bothT t a b).1, 0) := by
  unfold bothT at h ⊢
  by_cases h1 : (Tr.apply t a).2 = 0
  · rw [if_neg (by simpa using h1)] at h ⊢
    exact ⟨_, Prod.ext rfl h1, Prod.ext rfl h⟩
  · rw [if_pos h1] at h
    exact (h1 h).elim
theorem bothT_len {t : List Pf} {a b : Qp} (h : (bothT t a b).2 = 0) : (bothT t a b).1.length ≤ 200 := by
  obtain ⟨u, _, h2⟩ := bothT_zero h
  exact apply_len h2
/-- THE LAW OF PrimcommuteEffect. -/
theorem bothT_law {t : List Pf} {a b c d : Qp} (h : a.commute b = (c, d, true)) (h0 : (bothT t a b).2 = 0) : (bothT t c d).2 = 4 ∨ (bothT t c d).2 = 5 ∨ bothT t c d = ((bothT t a b).1, 0) := by
  obtain ⟨u, h1, h2⟩ := bothT_zero h0
  rcases Um.both_law h h1 h2 with h3 | ⟨x, h3, h4⟩
  · have e : bothT t c d = ([], (Tr.apply t c).2) := by unfold bothT; rw [if_pos (by rcases h3 with h3 | h3 <;> rw [h3] <;> decide)]
    rw [e]
    rcases h3 with h3 | h3
    · exact .inl h3
    · exact .inr (.inl h3)
  · have e : bothT t c d = Tr.apply x d := by unfold bothT; rw [h3, if_neg (by simp)]
    rw [e]
    rcases h4 with (h4 | h4) | h4
    · exact .inl h4
    · exact .inr (.inl h4)
    · exact .inr (.inr h4)

set_option maxHeartbeats 8000000 in
set_option maxRecDepth 100000 in
theorem lawboth_any (A : Option Addr) (n c : Nat) (p p' : Pv) (t : List Pf) (a b : Qp) (w : World) (hg : Glob w) (ht : Trs w A t) (hn : t.length = n) (b1 : n ≤ 10000000000000) {F G : Nat → Prop} (ha : Is w F p a) (hb : Is w G p' b) (fa : a.Fits) (fb : b.Fits) :
    Calls Tryz.prog 32 #[.slice A n c, p.v, p'.v] w (GivesT (bothT t a b) w) := by
  have HA := Lib.hid (fun W (hW : Ext w W) => apply_any p a A n c t W (ht.ext hW) hn b1 (hg.ext hW) (ha.ext hW) fa.1 fa.2.1 fa.2.2.1 fa.2.2.2)
  have HB := Lib.hid (fun (r : List Pf) W B m d (hW : Ext w W) (hT : Trs W B r) (hr : r.length = m) (hm : m ≤ 10000000000000) => apply_any p' b B m d r W hT hr hm (hg.ext hW) (hb.ext hW) fb.1 fb.2.1 fb.2.2.1 fb.2.2.2)
  have HL : Hid ((Tr.apply t a).2 = 0 → (Tr.apply t a).1.length ≤ 200) := Lib.hid fun e => apply_len (r := (Tr.apply t a).1) (Prod.ext rfl e)
  unfold bothT
  generalize Tr.apply t a = R at *
  obtain ⟨r, E⟩ := R
  dsimp only at HL ⊢
  clear ht hn hg ha hb
  by_cases hE : E = 0
  · subst hE
    replace HL := Lib.hid (HL.out rfl)
    rw [if_neg (by simp)]
    go_enter Tryz.func32, Tryz.ntmps32
    have hx := Ext.refl w
    go_wp2_with fail
    refine (HA.out _ EX).mono ?_
    rintro e u1 ⟨B, m, d, rfl, hm, hT, hx0⟩
    have hb0 : Blk u1 w.heap.size 28 (parr p) := Blk.ext hx0 (Blk.alloc (Blk.new' (by simp)) _)
    have hb1 : Blk u1 (w.heap.size + 1) 28 (parr p') := Blk.ext hx0 (Blk.new' (by simp))
    have HT := Lib.hid hT.out.1
    have HM : Hid (r.length = m) := Lib.hid hm.symm
    have HX := Lib.hid (Ext.trans (a := w) EX hx0)
    clear hx hx0 hm hT HA
    have hx := Ext.refl u1
    obtain ⟨hc0, hf0, hl0⟩ := hb0.all
    obtain ⟨hc1, hf1, hl1⟩ := hb1.all
    dsimp only
    go_wp2_with fail
    refine (HB.out r _ B m d (HX.out.trans EX) (HT.out.ext EX) HM.out (by have := HL.out; have := HM.out; omega)).mono ?_
    rintro e u2 ⟨C, k, c2, rfl, hk, hT, hx1⟩
    have HXX := Lib.hid (HX.out.trans (Ext.trans EX hx1))
    have HT2 := Lib.hid hT.out
    have hhi : Hid (Hi w.heap.size C) := Lib.hid fun a ha => by have := hT.out.2 a ha; have := HX.out.size_le; (try simp only [World.size_alloc] at *); omega
    clear hx hx1 hT
    have hx := Ext.refl u2
    go_wp2_with fail
    refine bodyPost_ret (v := .tuple #[.slice C k c2, .int .i64 (Tr.apply r b).2]) (by simp only [results, Tryz.results32]; go_simp) rfl ?_
    exact ⟨C, k, c2, rfl, hk, Lib.hid ⟨HT2.out.1.ext EX, hhi.out⟩, HXX.out.trans EX⟩
  · rw [if_pos hE]
    go_enter Tryz.func32, Tryz.ntmps32
    have hx := Ext.refl w
    go_wp2_with fail
    refine (HA.out _ EX).mono ?_
    rintro e u1 ⟨B, m, d, rfl, hm, hT, hx0⟩
    have hb0 : Blk u1 w.heap.size 28 (parr p) := Blk.ext hx0 (Blk.alloc (Blk.new' (by simp)) _)
    have hx2 := Ext.trans (a := w) EX hx0
    clear hx hx0 hm hT HA
    have hx := hx2
    clear hx2
    obtain ⟨hc0, hf0, hl0⟩ := hb0.all
    dsimp only
    go_wp2_with fail
    refine bodyPost_ret (v := .tuple #[.slice none 0 0, .int .i64 E]) (by simp only [results, Tryz.results32]; go_simp) rfl ?_
    exact GivesT.none EX

set_option maxHeartbeats 16000000 in
set_option maxRecDepth 100000 in
theorem primeffect_walk (A : Option Addr) (n cA : Nat) (p p' : Pv) (a b : Qp) (t : List Pf) (w : World) (hg : Glob w) (ht : Trs w A t) (hn : t.length = n) (b0 : n ≤ 10000000000000) (hz : ∀ f ∈ t, f.path.size ≤ 140737488355328 ∧ f.data.size ≤ 140737488355328) {F : Nat → Prop} (ha : Is w F p a) (hb : Is w F p' b) (b1 : a.old.length ≤ 1152921504606846976) (b2 : a.new.length ≤ 1152921504606846976) (b3 : b.old.length ≤ 1152921504606846976) (b4 : b.new.length ≤ 1152921504606846976) :
    Calls Tryz.prog 9 #[.slice A n cA, p.v, p'.v] w (Ret (.bool true) w) := by
  have HT := Lib.hid ht
  have HN := Lib.hid hn
  have HA := Lib.hid ha.in
  have HB := Lib.hid hb.in
  have HG := Lib.hid hg
  have HAW := Lib.hid (fun W (hW : Ext w W) => awake_any W (hg.ext hW))
  have HGT := Lib.hid (fun W (hW : Ext w W) => greattree_any A n cA t W (ht.ext hW) hn (by omega) hz)
  have HGR := Lib.hid (fun W g ty (hW : Ext w W) (h : Blk W g ty (parr2 p p')) => lawgreat2_any g ty p p' a b W h (HA.out.ext hW) (HB.out.ext hW) b1 b2 b3 b4)
  have HC := Lib.hid (fun (m : a.Mild ∧ b.Mild) W (hW : Ext w W) => commute_any p p' a b W (hg.ext hW) (HA.out.ext hW) (HB.out.ext hW) m.1.fits m.2.fits)
  have HB1 := Lib.hid (fun (m : a.Mild ∧ b.Mild) W (hW : Ext w W) => lawboth_any A n cA p p' t a b W (hg.ext hW) (ht.ext hW) hn b0 (HA.out.ext hW) (HB.out.ext hW) m.1.fits m.2.fits)
  have HLT : Hid (∀ c d, a.commute b = (c, d, true) → (c.check = 0 ∧ d.check = 0) ∧ ((bothT t a b).2 = 0 → (bothT t c d).2 = 4 ∨ (bothT t c d).2 = 5 ∨ bothT t c d = ((bothT t a b).1, 0))) := Lib.hid (fun c d h => ⟨(commute_back h).2, bothT_law h⟩)
  have HLN : Hid ((bothT t a b).2 = 0 → (bothT t a b).1.length ≤ 200) := Lib.hid bothT_len
  generalize a.commute b = R at HC HLT
  obtain ⟨c, d, k⟩ := R
  generalize bothT t a b = R1 at HB1 HLT HLN
  obtain ⟨r1, e1⟩ := R1
  dsimp only at HLT HLN
  clear hg ha hb ht hn hz
  go_enter Tryz.func9, Tryz.ntmps9
  have hx := Ext.refl w
  go_wp2_with fail
  refine (HGR.out _ _ _ EX (Blk.new' (by simp))).mono ?_
  rintro e u1 ⟨v, rfl, hv, hx0⟩
  have hs : Ext w u1 := Ext.trans EX hx0
  have hb0 : Blk u1 w.heap.size 28 (parr p) := Blk.ext hx0 (Blk.alloc (Blk.alloc (Blk.new' (by simp)) _) _)
  have hb1 : Blk u1 (w.heap.size + 1) 28 (parr p') := Blk.ext hx0 (Blk.alloc (Blk.new' (by simp)) _)
  have hx1 := hx.trans hs
  clear hx hs hx0
  have hx := hx1
  clear hx1
  dsimp only
  have HV := Lib.hid hv
  clear hv HGR
  cases v
  rotate_left
  · obtain ⟨hc0, hf0, hl0⟩ := hb0.all
    obtain ⟨hc1, hf1, hl1⟩ := hb1.all
    go_wp2_with fail
    clear hc0 hf0 hl0 hc1 hf1 hl1
    refine (HAW.out _ (hx.trans EX)).mono ?_
    rintro e u2 ⟨rfl, hx0⟩
    have hs : Ext u1 u2 := Ext.trans EX hx0
    replace hb0 : Blk u2 w.heap.size 28 (parr p) := Blk.ext hx0 hb0
    replace hb1 : Blk u2 (w.heap.size + 1) 28 (parr p') := Blk.ext hx0 hb1
    have hx1 := hx.trans hs
    clear hx hs hx0
    have hx := hx1
    clear hx1
    dsimp only
    obtain ⟨hc0, hf0, hl0⟩ := hb0.all
    obtain ⟨hc1, hf1, hl1⟩ := hb1.all
    go_wp2_with fail
    (go_ret; refine Ret.mk ?_ ?_; (focus (rfl; done)); (focus (exact EX; done)))
  have HMI := Lib.hid (HV.out rfl)
  clear HV
  cases hgt : Tr.great t
  rotate_left
  all_goals rw [hgt] at HGT
  · obtain ⟨hc0, hf0, hl0⟩ := hb0.all
    obtain ⟨hc1, hf1, hl1⟩ := hb1.all
    go_wp2_with fail
    clear hc0 hf0 hl0 hc1 hf1 hl1
    refine (HGT.out _ (hx.trans EX)).mono ?_
    rintro e u2 ⟨rfl, hx0⟩
    have hs : Ext u1 u2 := Ext.trans EX hx0
    replace hb0 : Blk u2 w.heap.size 28 (parr p) := Blk.ext hx0 hb0
    replace hb1 : Blk u2 (w.heap.size + 1) 28 (parr p') := Blk.ext hx0 hb1
    have hx1 := hx.trans hs
    clear hx hs hx0
    have hx := hx1
    clear hx1
    dsimp only
    obtain ⟨hc0, hf0, hl0⟩ := hb0.all
    obtain ⟨hc1, hf1, hl1⟩ := hb1.all
    go_wp2_with fail
    clear hc0 hf0 hl0 hc1 hf1 hl1
    refine (HAW.out _ (hx.trans EX)).mono ?_
    rintro e u3 ⟨rfl, hx0⟩
    have hs : Ext u2 u3 := Ext.trans EX hx0
    replace hb0 : Blk u3 w.heap.size 28 (parr p) := Blk.ext hx0 hb0
    replace hb1 : Blk u3 (w.heap.size + 1) 28 (parr p') := Blk.ext hx0 hb1
    have hx1 := hx.trans hs
    clear hx hs hx0
    have hx := hx1
    clear hx1
    dsimp only
    obtain ⟨hc0, hf0, hl0⟩ := hb0.all
    obtain ⟨hc1, hf1, hl1⟩ := hb1.all
    go_wp2_with fail
    (go_ret; refine Ret.mk ?_ ?_; (focus (rfl; done)); (focus (exact EX; done)))
  obtain ⟨hc0, hf0, hl0⟩ := hb0.all
  obtain ⟨hc1, hf1, hl1⟩ := hb1.all
  go_wp2_with fail
  clear hc0 hf0 hl0 hc1 hf1 hl1
  refine (HGT.out _ (hx.trans EX)).mono ?_
  rintro e u2 ⟨rfl, hx0⟩
  have hs : Ext u1 u2 := Ext.trans EX hx0
  replace hb0 : Blk u2 w.heap.size 28 (parr p) := Blk.ext hx0 hb0
  replace hb1 : Blk u2 (w.heap.size + 1) 28 (parr p') := Blk.ext hx0 hb1
  have hx1 := hx.trans hs
  clear hx hs hx0
  have hx := hx1
  clear hx1
  dsimp only
  have HC := Lib.hid (HC.out HMI.out)
  have HB1 := Lib.hid (HB1.out HMI.out)
  clear HMI HGT
  obtain ⟨hc0, hf0, hl0⟩ := hb0.all
  obtain ⟨hc1, hf1, hl1⟩ := hb1.all
  go_wp2_with fail
  clear hc0 hf0 hl0 hc1 hf1 hl1
  refine (HC.out _ (hx.trans EX)).mono ?_
  rintro e u3 ⟨P1, P2, rfl, i1, i2, hx0⟩
  have hs : Ext u2 u3 := Ext.trans EX hx0
  replace hb0 : Blk u3 w.heap.size 28 (parr p) := Blk.ext hx0 hb0
  replace hb1 : Blk u3 (w.heap.size + 1) 28 (parr p') := Blk.ext hx0 hb1
  have hx1 := hx.trans hs
  clear hx hs hx0
  have hx := hx1
  clear hx1
  dsimp only
  have I1 := Lib.hid (i1.mono (G := fun _ => True) fun _ _ => trivial)
  have I2 := Lib.hid (i2.mono (G := fun _ => True) fun _ _ => trivial)
  clear i1 i2 HC
  obtain ⟨hc0, hf0, hl0⟩ := hb0.all
  obtain ⟨hc1, hf1, hl1⟩ := hb1.all
  go_wp2_with fail
  clear hc0 hf0 hl0 hc1 hf1 hl1
  refine (HB1.out _ (hx.trans EX)).mono ?_
  rintro e u4 ⟨B1, m1, d1, rfl, hm1, hT1, hx0⟩
  have hs : Ext u3 u4 := Ext.trans EX hx0
  replace hb0 : Blk u4 w.heap.size 28 (parr p) := Blk.ext hx0 (Blk.alloc (Blk.alloc hb0 _) _)
  replace hb1 : Blk u4 (w.heap.size + 1) 28 (parr p') := Blk.ext hx0 (Blk.alloc (Blk.alloc hb1 _) _)
  have hb5 : Blk u4 u3.heap.size 28 (parr P1) := Blk.ext hx0 (Blk.alloc (Blk.new' (by simp)) _)
  have hb6 : Blk u4 (u3.heap.size + 1) 28 (parr P2) := Blk.ext hx0 (Blk.new' (by simp))
  replace I1 := Lib.hid (I1.out.ext hs)
  replace I2 := Lib.hid (I2.out.ext hs)
  have hx1 := hx.trans hs
  clear hx hs hx0
  have hx := hx1
  clear hx1
  dsimp only
  have HM1 := Lib.hid hm1
  have HT1 := Lib.hid hT1.out.1
  clear hm1 hT1 HB1
  cases k
  · obtain ⟨hc0, hf0, hl0⟩ := hb0.all
    obtain ⟨hc1, hf1, hl1⟩ := hb1.all
    obtain ⟨hc5, hf5, hl5⟩ := hb5.all
    obtain ⟨hc6, hf6, hl6⟩ := hb6.all
    go_wp2_with fail
    clear hc0 hf0 hl0 hc1 hf1 hl1 hc5 hf5 hl5 hc6 hf6 hl6
    refine (HAW.out _ (hx.trans EX)).mono ?_
    rintro e u5 ⟨rfl, hx0⟩
    have hs : Ext u4 u5 := Ext.trans EX hx0
    replace hb0 : Blk u5 w.heap.size 28 (parr p) := Blk.ext hx0 hb0
    replace hb1 : Blk u5 (w.heap.size + 1) 28 (parr p') := Blk.ext hx0 hb1
    replace hb5 : Blk u5 u3.heap.size 28 (parr P1) := Blk.ext hx0 hb5
    replace hb6 : Blk u5 (u3.heap.size + 1) 28 (parr P2) := Blk.ext hx0 hb6
    have hx1 := hx.trans hs
    clear hx hs hx0
    have hx := hx1
    clear hx1
    dsimp only
    obtain ⟨hc0, hf0, hl0⟩ := hb0.all
    obtain ⟨hc1, hf1, hl1⟩ := hb1.all
    obtain ⟨hc5, hf5, hl5⟩ := hb5.all
    obtain ⟨hc6, hf6, hl6⟩ := hb6.all
    go_wp2_with fail
    (go_ret; refine Ret.mk ?_ ?_; (focus (rfl; done)); (focus (exact EX; done)))
  · by_cases hE : e1 = 0
    rotate_left
    · obtain ⟨hc0, hf0, hl0⟩ := hb0.all
      obtain ⟨hc1, hf1, hl1⟩ := hb1.all
      obtain ⟨hc5, hf5, hl5⟩ := hb5.all
      obtain ⟨hc6, hf6, hl6⟩ := hb6.all
      go_wp2_with fail
      clear hc0 hf0 hl0 hc1 hf1 hl1 hc5 hf5 hl5 hc6 hf6 hl6
      refine (HAW.out _ (hx.trans EX)).mono ?_
      rintro e u5 ⟨rfl, hx0⟩
      have hs : Ext u4 u5 := Ext.trans EX hx0
      replace hb0 : Blk u5 w.heap.size 28 (parr p) := Blk.ext hx0 hb0
      replace hb1 : Blk u5 (w.heap.size + 1) 28 (parr p') := Blk.ext hx0 hb1
      replace hb5 : Blk u5 u3.heap.size 28 (parr P1) := Blk.ext hx0 hb5
      replace hb6 : Blk u5 (u3.heap.size + 1) 28 (parr P2) := Blk.ext hx0 hb6
      have hx1 := hx.trans hs
      clear hx hs hx0
      have hx := hx1
      clear hx1
      dsimp only
      obtain ⟨hc0, hf0, hl0⟩ := hb0.all
      obtain ⟨hc1, hf1, hl1⟩ := hb1.all
      obtain ⟨hc5, hf5, hl5⟩ := hb5.all
      obtain ⟨hc6, hf6, hl6⟩ := hb6.all
      go_wp2_with fail
      (go_ret; refine Ret.mk ?_ ?_; (focus (rfl; done)); (focus (exact EX; done)))
    subst hE
    have HLW := Lib.hid (HLT.out _ _ rfl)
    clear HLT
    have HL1 : Hid (m1 ≤ 200) := Lib.hid (by have := HLN.out rfl; have := HM1.out; dsimp only at *; omega)
    have HB2 := Lib.hid (fun W (hG : Glob W) (hT : Trs W A t) (i1 : Is W (fun _ => True) P1 c) (i2 : Is W (fun _ => True) P2 d) => lawboth_any A n cA P1 P2 t c d W hG hT HN.out b0 i1 i2 (check_fits HLW.out.1.1) (check_fits HLW.out.1.2))
    have HLX := Lib.hid (HLW.out.2 rfl)
    clear HLW HLN
    generalize bothT t c d = R2 at HB2 HLX
    obtain ⟨r2, e2⟩ := R2
    dsimp only at HLX
    obtain ⟨hc0, hf0, hl0⟩ := hb0.all
    obtain ⟨hc1, hf1, hl1⟩ := hb1.all
    obtain ⟨hc5, hf5, hl5⟩ := hb5.all
    obtain ⟨hc6, hf6, hl6⟩ := hb6.all
    go_wp2_with fail
    clear hc0 hf0 hl0 hc1 hf1 hl1 hc5 hf5 hl5 hc6 hf6 hl6
    refine (HB2.out _ (HG.out.ext (hx.trans EX)) (HT.out.ext (hx.trans EX)) (I1.out.ext EX) (I2.out.ext EX)).mono ?_
    rintro e u5 ⟨B2, m2, d2, rfl, hm2, hT2, hx0⟩
    have hs : Ext u4 u5 := Ext.trans EX hx0
    replace hb0 : Blk u5 w.heap.size 28 (parr p) := Blk.ext hx0 hb0
    replace hb1 : Blk u5 (w.heap.size + 1) 28 (parr p') := Blk.ext hx0 hb1
    replace hb5 : Blk u5 u3.heap.size 28 (parr P1) := Blk.ext hx0 hb5
    replace hb6 : Blk u5 (u3.heap.size + 1) 28 (parr P2) := Blk.ext hx0 hb6
    replace I1 := Lib.hid (I1.out.ext hs)
    replace I2 := Lib.hid (I2.out.ext hs)
    replace HT1 := Lib.hid (HT1.out.ext hs)
    have hx1 := hx.trans hs
    clear hx hs hx0
    have hx := hx1
    clear hx1
    dsimp only
    have HM2 := Lib.hid hm2
    have HT2 := Lib.hid hT2.out.1
    clear hm2 hT2 HB2
    rcases HLX.out with rfl | rfl | hrr
    · obtain ⟨hc0, hf0, hl0⟩ := hb0.all
      obtain ⟨hc1, hf1, hl1⟩ := hb1.all
      obtain ⟨hc5, hf5, hl5⟩ := hb5.all
      obtain ⟨hc6, hf6, hl6⟩ := hb6.all
      go_wp2_with fail
      clear hc0 hf0 hl0 hc1 hf1 hl1 hc5 hf5 hl5 hc6 hf6 hl6
      refine (HAW.out _ (hx.trans EX)).mono ?_
      rintro e u6 ⟨rfl, hx0⟩
      have hs : Ext u5 u6 := Ext.trans EX hx0
      replace hb0 : Blk u6 w.heap.size 28 (parr p) := Blk.ext hx0 hb0
      replace hb1 : Blk u6 (w.heap.size + 1) 28 (parr p') := Blk.ext hx0 hb1
      replace hb5 : Blk u6 u3.heap.size 28 (parr P1) := Blk.ext hx0 hb5
      replace hb6 : Blk u6 (u3.heap.size + 1) 28 (parr P2) := Blk.ext hx0 hb6
      have hx1 := hx.trans hs
      clear hx hs hx0
      have hx := hx1
      clear hx1
      dsimp only
      obtain ⟨hc0, hf0, hl0⟩ := hb0.all
      obtain ⟨hc1, hf1, hl1⟩ := hb1.all
      obtain ⟨hc5, hf5, hl5⟩ := hb5.all
      obtain ⟨hc6, hf6, hl6⟩ := hb6.all
      go_wp2_with fail
      (go_ret; refine Ret.mk ?_ ?_; (focus (rfl; done)); (focus (exact EX; done)))
    · obtain ⟨hc0, hf0, hl0⟩ := hb0.all
      obtain ⟨hc1, hf1, hl1⟩ := hb1.all
      obtain ⟨hc5, hf5, hl5⟩ := hb5.all
      obtain ⟨hc6, hf6, hl6⟩ := hb6.all
      go_wp2_with fail
      clear hc0 hf0 hl0 hc1 hf1 hl1 hc5 hf5 hl5 hc6 hf6 hl6
      refine (HAW.out _ (hx.trans EX)).mono ?_
      rintro e u6 ⟨rfl, hx0⟩
      have hs : Ext u5 u6 := Ext.trans EX hx0
      replace hb0 : Blk u6 w.heap.size 28 (parr p) := Blk.ext hx0 hb0
      replace hb1 : Blk u6 (w.heap.size + 1) 28 (parr p') := Blk.ext hx0 hb1
      replace hb5 : Blk u6 u3.heap.size 28 (parr P1) := Blk.ext hx0 hb5
      replace hb6 : Blk u6 (u3.heap.size + 1) 28 (parr P2) := Blk.ext hx0 hb6
      have hx1 := hx.trans hs
      clear hx hs hx0
      have hx := hx1
      clear hx1
      dsimp only
      obtain ⟨hc0, hf0, hl0⟩ := hb0.all
      obtain ⟨hc1, hf1, hl1⟩ := hb1.all
      obtain ⟨hc5, hf5, hl5⟩ := hb5.all
      obtain ⟨hc6, hf6, hl6⟩ := hb6.all
      go_wp2_with fail
      (go_ret; refine Ret.mk ?_ ?_; (focus (rfl; done)); (focus (exact EX; done)))
    · obtain ⟨rfl, rfl⟩ : r2 = r1 ∧ e2 = 0 := by simpa using hrr
      have HL2 : Hid (m2 ≤ 200) := Lib.hid (by have := HL1.out; have := HM1.out; have := HM2.out; dsimp only at *; omega)
      obtain ⟨hc0, hf0, hl0⟩ := hb0.all
      obtain ⟨hc1, hf1, hl1⟩ := hb1.all
      obtain ⟨hc5, hf5, hl5⟩ := hb5.all
      obtain ⟨hc6, hf6, hl6⟩ := hb6.all
      go_wp2_with fail
      clear hc0 hf0 hl0 hc1 hf1 hl1 hc5 hf5 hl5 hc6 hf6 hl6
      refine (sametree_any B1 B2 m1 m2 d1 d2 r2 r2 _ (HT1.out.ext EX) (HT2.out.ext EX) HM1.out.symm HM2.out.symm (by have := HL1.out; omega) (by have := HL2.out; omega)).mono ?_
      rintro e u6 ⟨rfl, hx0⟩
      have hs : Ext u5 u6 := Ext.trans EX hx0
      replace hb0 : Blk u6 w.heap.size 28 (parr p) := Blk.ext hx0 hb0
      replace hb1 : Blk u6 (w.heap.size + 1) 28 (parr p') := Blk.ext hx0 hb1
      replace hb5 : Blk u6 u3.heap.size 28 (parr P1) := Blk.ext hx0 hb5
      replace hb6 : Blk u6 (u3.heap.size + 1) 28 (parr P2) := Blk.ext hx0 hb6
      have hx1 := hx.trans hs
      clear hx hs hx0
      have hx := hx1
      clear hx1
      rw [decide_eq_true rfl]
      obtain ⟨hc0, hf0, hl0⟩ := hb0.all
      obtain ⟨hc1, hf1, hl1⟩ := hb1.all
      obtain ⟨hc5, hf5, hl5⟩ := hb5.all
      obtain ⟨hc6, hf6, hl6⟩ := hb6.all
      go_wp2_with fail
      clear hc0 hf0 hl0 hc1 hf1 hl1 hc5 hf5 hl5 hc6 hf6 hl6
      refine (HAW.out _ (hx.trans EX)).mono ?_
      rintro e u7 ⟨rfl, hx0⟩
      have hs : Ext u6 u7 := Ext.trans EX hx0
      replace hb0 : Blk u7 w.heap.size 28 (parr p) := Blk.ext hx0 hb0
      replace hb1 : Blk u7 (w.heap.size + 1) 28 (parr p') := Blk.ext hx0 hb1
      replace hb5 : Blk u7 u3.heap.size 28 (parr P1) := Blk.ext hx0 hb5
      replace hb6 : Blk u7 (u3.heap.size + 1) 28 (parr P2) := Blk.ext hx0 hb6
      have hx1 := hx.trans hs
      clear hx hs hx0
      have hx := hx1
      clear hx1
      dsimp only
      obtain ⟨hc0, hf0, hl0⟩ := hb0.all
      obtain ⟨hc1, hf1, hl1⟩ := hb1.all
      obtain ⟨hc5, hf5, hl5⟩ := hb5.all
      obtain ⟨hc6, hf6, hl6⟩ := hb6.all
      go_wp2_with fail
      (go_ret; refine Ret.mk ?_ ?_; (focus (rfl; done)); (focus (exact EX; done)))
end Go.Proofs.YtfmgnaigcibcaaaGreatDoor
