/- Walks: merging from either side. -/
import Derived.Test.YtgfiddlmeopebaaGreatDoorAx
import Derived.Test.YtgfiddlmeopebaaGreatDoorGr
import Derived.Test.YtgfiddlmeopebaaGreatDoorSy
set_option linter.unusedSimpArgs false
set_option linter.unusedVariables false
namespace Go.Proofs.YtgfiddlmeopebaaGreatDoor
open Go Go.RowKit
attribute [local go_sem ↓] Go.wp_at_zero Go.wp_at_succ

set_option maxHeartbeats 16000000 in
set_option maxRecDepth 100000 in
theorem symmetric_walk (hs : ∀ x y y' x' : Qp, x.merge y = (y', x', true) → y.merge x = (x', y', true)) (A B : Option Addr) (n cA m cB : Nat) (a s : List Qp) (w : World) (hg : Glob w) (ha : Qs w (fun _ => True) A a) (hb : Qs w (fun _ => True) B s) (hn : a.length = n) (hm : s.length = m) (hA : A = none → cA = 0) (hnA : n ≤ cA) (hB : B = none → cB = 0) (hmB : m ≤ cB)
    (b1 : n ≤ 1152921504606846976) (b2 : m ≤ 1152921504606846976)
    (s1 : ∀ q ∈ a, q.old.length ≤ 1152921504606846976 ∧ q.new.length ≤ 1152921504606846976) (s2 : ∀ q ∈ s, q.old.length ≤ 1152921504606846976 ∧ q.new.length ≤ 1152921504606846976) :
    Calls Tryz.prog 3 #[.slice A n cA, .slice B m cB] w (Ret (.bool true) w) := by
  have HA := Lib.hid ha
  have HB := Lib.hid hb
  have HN := Lib.hid hn
  have HM := Lib.hid hm
  have HEV := Lib.hid hs
  have HAW := Lib.hid (fun W (hW : Ext w W) => awake15_any W (hg.ext hW))
  have HAn : Hid (A = none → n = 0 ∧ cA = 0) := Lib.hid fun e => ⟨by have := hA e; omega, hA e⟩
  have HBn : Hid (B = none → m = 0 ∧ cB = 0) := Lib.hid fun e => ⟨by have := hB e; omega, hB e⟩
  have HG := Lib.hid hg
  have HGR : Hid (∀ W g t, Ext w W → Blk W g t #[.slice A n cA, .slice B m cB] → Calls Tryz.prog 11 #[.slice (some ⟨g, 0, none⟩) 2 2] W (Tells (Seqs.small [(A, a, cA), (B, s, cB)]) W)) := Lib.hid fun W g t hW h => lawgreat15_any g t [(A, a, cA), (B, s, cB)] 2 W (by unfold Seqs.cells; simpa [hn, hm] using h) rfl (fun x hx => by
    rcases List.mem_cons.1 hx with rfl | hx
    · exact ⟨⟨_, ha.ext hW⟩, by dsimp only; omega, s1⟩
    · obtain rfl : x = (B, s, cB) := by simpa using hx
      exact ⟨⟨_, hb.ext hW⟩, by dsimp only; omega, s2⟩) (by omega)
  clear ha hb hn hm s1 s2 hB hmB hA hnA hg hs
  go_enter Tryz.func3, Tryz.ntmps3
  have hx := Ext.refl w
  go_wp2_with fail
  refine (HGR.out _ _ _ (hx.trans (by repeat (first | with_reducible exact Ext.refl _ | with_reducible refine Ext.alloc ?_ _))) (Blk.new' rfl)).mono ?_
  rintro e u1 ⟨v, rfl, hsm, hx0⟩
  have hs : Ext w u1 := Ext.trans (by repeat (first | with_reducible exact Ext.refl _ | with_reducible refine Ext.alloc ?_ _)) hx0
  replace HA := Lib.hid (HA.out.ext hs)
  replace HB := Lib.hid (HB.out.ext hs)
  have hx1 := hx.trans hs
  clear hx hs hx0
  have hx := hx1
  clear hx1
  dsimp only
  have HS := Lib.hid hsm
  clear hsm HGR
  cases v
  rotate_left
  · go_wp2_with fail
    refine (HAW.out _ (hx.trans (by repeat (first | with_reducible exact Ext.refl _ | with_reducible refine Ext.alloc ?_ _)))).mono ?_
    rintro e u2 ⟨rfl, hx0⟩
    have hs : Ext u1 u2 := Ext.trans (by repeat (first | with_reducible exact Ext.refl _ | with_reducible refine Ext.alloc ?_ _)) hx0
    replace HA := Lib.hid (HA.out.ext hs)
    replace HB := Lib.hid (HB.out.ext hs)
    have hx1 := hx.trans hs
    clear hx hs hx0
    have hx := hx1
    clear hx1
    dsimp only
    go_wp2_with fail
    (go_ret; refine Ret.mk ?_ ?_; (focus (rfl; done)); (focus ((repeat (first | with_reducible exact hx | with_reducible exact Ext.refl _ | with_reducible refine Ext.alloc ?_ _ | with_reducible refine Ext.drewN ?_ _ | with_reducible refine Ext.drew1 ?_ | ((with_reducible refine Ext.setCell ?_ ?_ _); rotate_left; (focus (first | (dsimp only; omega) | (simp; done) | (simp; omega)))))); done)))
  have S1 : Small a := HS.out rfl (A, a, cA) (by simp)
  have S2 : Small s := HS.out rfl (B, s, cB) (by simp)
  have F1 := Lib.hid S1.fits
  have F2 := Lib.hid S2.fits
  have n8 : n ≤ 8 := by have := S1.1; have := HN.out; omega
  have m8 : m ≤ 8 := by have := S2.1; have := HM.out; omega
  clear HS S1 S2
  cases h1 : Sq.merge a s with
  | error p =>
    obtain ⟨i, j⟩ := p
    cases h2 : Sq.merge s a with
    | ok t => exact nomatch h1.symm.trans (Sq.merge_even HEV.out h2)
    | error p2 =>
      obtain ⟨i2, j2⟩ := p2
      have H1 := Lib.hid h1
      have H2 := Lib.hid h2
      clear h1 h2
      go_wp2_with fail
      refine (seqmerge_bad (HG.out.ext (hx.trans (by repeat (first | with_reducible exact Ext.refl _ | with_reducible refine Ext.alloc ?_ _)))) (HA.out.ext (by repeat (first | with_reducible exact Ext.refl _ | with_reducible refine Ext.alloc ?_ _))) (HB.out.ext (by repeat (first | with_reducible exact Ext.refl _ | with_reducible refine Ext.alloc ?_ _))) HN.out HM.out HBn.out (by omega) (by omega) F1.out F2.out H1.out).mono ?_
      rintro e u2 ⟨rfl, hx0⟩
      have hs : Ext u1 u2 := Ext.trans (by repeat (first | with_reducible exact Ext.refl _ | with_reducible refine Ext.alloc ?_ _)) hx0
      replace HA := Lib.hid (HA.out.ext hs)
      replace HB := Lib.hid (HB.out.ext hs)
      have hx1 := hx.trans hs
      clear hx hs hx0
      have hx := hx1
      clear hx1
      dsimp only
      go_wp2_with fail
      refine (seqmerge_bad (HG.out.ext (hx.trans (by repeat (first | with_reducible exact Ext.refl _ | with_reducible refine Ext.alloc ?_ _)))) (HB.out.ext (by repeat (first | with_reducible exact Ext.refl _ | with_reducible refine Ext.alloc ?_ _))) (HA.out.ext (by repeat (first | with_reducible exact Ext.refl _ | with_reducible refine Ext.alloc ?_ _))) HM.out HN.out HAn.out (by omega) (by omega) F2.out F1.out H2.out).mono ?_
      rintro e u3 ⟨rfl, hx0⟩
      have hs : Ext u2 u3 := Ext.trans (by repeat (first | with_reducible exact Ext.refl _ | with_reducible refine Ext.alloc ?_ _)) hx0
      replace HA := Lib.hid (HA.out.ext hs)
      replace HB := Lib.hid (HB.out.ext hs)
      have hx1 := hx.trans hs
      clear hx hs hx0
      have hx := hx1
      clear hx1
      dsimp only
      go_wp2_with fail
      refine (rsame_true none none 0 0 0 [] _ (Qs.nil _ (fun _ => True) none) (Qs.nil _ (fun _ => True) none) rfl (by omega) (by simp)).mono ?_
      rintro e u4 ⟨rfl, hx0⟩
      have hs : Ext u3 u4 := Ext.trans (by repeat (first | with_reducible exact Ext.refl _ | with_reducible refine Ext.alloc ?_ _)) hx0
      replace HA := Lib.hid (HA.out.ext hs)
      replace HB := Lib.hid (HB.out.ext hs)
      have hx1 := hx.trans hs
      clear hx hs hx0
      have hx := hx1
      clear hx1
      dsimp only
      go_wp2_with fail
      refine (rsame_true none none 0 0 0 [] _ (Qs.nil _ (fun _ => True) none) (Qs.nil _ (fun _ => True) none) rfl (by omega) (by simp)).mono ?_
      rintro e u5 ⟨rfl, hx0⟩
      have hs : Ext u4 u5 := Ext.trans (by repeat (first | with_reducible exact Ext.refl _ | with_reducible refine Ext.alloc ?_ _)) hx0
      replace HA := Lib.hid (HA.out.ext hs)
      replace HB := Lib.hid (HB.out.ext hs)
      have hx1 := hx.trans hs
      clear hx hs hx0
      have hx := hx1
      clear hx1
      dsimp only
      go_wp2_with fail
      refine (HAW.out _ (hx.trans (by repeat (first | with_reducible exact Ext.refl _ | with_reducible refine Ext.alloc ?_ _)))).mono ?_
      rintro e u6 ⟨rfl, hx0⟩
      have hs : Ext u5 u6 := Ext.trans (by repeat (first | with_reducible exact Ext.refl _ | with_reducible refine Ext.alloc ?_ _)) hx0
      replace HA := Lib.hid (HA.out.ext hs)
      replace HB := Lib.hid (HB.out.ext hs)
      have hx1 := hx.trans hs
      clear hx hs hx0
      have hx := hx1
      clear hx1
      dsimp only
      go_wp2_with fail
      (go_ret; refine Ret.mk ?_ ?_; (focus (rfl; done)); (focus ((repeat (first | with_reducible exact hx | with_reducible exact Ext.refl _ | with_reducible refine Ext.alloc ?_ _ | with_reducible refine Ext.drewN ?_ _ | with_reducible refine Ext.drew1 ?_ | ((with_reducible refine Ext.setCell ?_ ?_ _); rotate_left; (focus (first | (dsimp only; omega) | (simp; done) | (simp; omega)))))); done)))
  | ok r =>
    have h2 := Sq.merge_even HEV.out h1
    have H1 := Lib.hid h1
    have H2 := Lib.hid h2
    have HL1 : Hid (r.1.length = m) := Lib.hid ((Sq.merge_length h1).1.trans HM.out)
    have HL2 : Hid (r.2.length = n) := Lib.hid ((Sq.merge_length h1).2.trans HN.out)
    have F3 := Lib.hid (merge_fitting h1 F1.out F2.out).1
    have F4 := Lib.hid (merge_fitting h1 F1.out F2.out).2
    clear h1 h2
    go_wp2_with fail
    refine (seqmerge_go (HG.out.ext (hx.trans (by repeat (first | with_reducible exact Ext.refl _ | with_reducible refine Ext.alloc ?_ _)))) (HA.out.ext (by repeat (first | with_reducible exact Ext.refl _ | with_reducible refine Ext.alloc ?_ _))) (HB.out.ext (by repeat (first | with_reducible exact Ext.refl _ | with_reducible refine Ext.alloc ?_ _))) HN.out HM.out HBn.out (by omega) (by omega) F1.out F2.out H1.out).mono ?_
    rintro e u2 ⟨A1, c1, A2, c2, rfl, HY, HO, _, hx0⟩
    have hs : Ext u1 u2 := Ext.trans (by repeat (first | with_reducible exact Ext.refl _ | with_reducible refine Ext.alloc ?_ _)) hx0
    replace HA := Lib.hid (HA.out.ext hs)
    replace HB := Lib.hid (HB.out.ext hs)
    have hx1 := hx.trans hs
    clear hx hs hx0
    have hx := hx1
    clear hx1
    dsimp only
    go_wp2_with fail
    refine (seqmerge_go (HG.out.ext (hx.trans (by repeat (first | with_reducible exact Ext.refl _ | with_reducible refine Ext.alloc ?_ _)))) (HB.out.ext (by repeat (first | with_reducible exact Ext.refl _ | with_reducible refine Ext.alloc ?_ _))) (HA.out.ext (by repeat (first | with_reducible exact Ext.refl _ | with_reducible refine Ext.alloc ?_ _))) HM.out HN.out HAn.out (by omega) (by omega) F2.out F1.out H2.out).mono ?_
    rintro e u3 ⟨A3, c3, A4, c4, rfl, HZ, HT, _, hx0⟩
    have hs : Ext u2 u3 := Ext.trans (by repeat (first | with_reducible exact Ext.refl _ | with_reducible refine Ext.alloc ?_ _)) hx0
    replace HA := Lib.hid (HA.out.ext hs)
    replace HB := Lib.hid (HB.out.ext hs)
    replace HY := Lib.hid (HY.out.ext hs)
    replace HO := Lib.hid (HO.out.ext hs)
    have hx1 := hx.trans hs
    clear hx hs hx0
    have hx := hx1
    clear hx1
    dsimp only
    go_wp2_with fail
    refine (rsame_true A1 A4 m c1 c4 r.1 _ (HY.out.ext (by repeat (first | with_reducible exact Ext.refl _ | with_reducible refine Ext.alloc ?_ _))) (HT.out.ext (by repeat (first | with_reducible exact Ext.refl _ | with_reducible refine Ext.alloc ?_ _))) HL1.out (by omega) F3.out).mono ?_
    rintro e u4 ⟨rfl, hx0⟩
    have hs : Ext u3 u4 := Ext.trans (by repeat (first | with_reducible exact Ext.refl _ | with_reducible refine Ext.alloc ?_ _)) hx0
    replace HA := Lib.hid (HA.out.ext hs)
    replace HB := Lib.hid (HB.out.ext hs)
    replace HY := Lib.hid (HY.out.ext hs)
    replace HO := Lib.hid (HO.out.ext hs)
    replace HZ := Lib.hid (HZ.out.ext hs)
    replace HT := Lib.hid (HT.out.ext hs)
    have hx1 := hx.trans hs
    clear hx hs hx0
    have hx := hx1
    clear hx1
    dsimp only
    go_wp2_with fail
    refine (rsame_true A2 A3 n c2 c3 r.2 _ (HO.out.ext (by repeat (first | with_reducible exact Ext.refl _ | with_reducible refine Ext.alloc ?_ _))) (HZ.out.ext (by repeat (first | with_reducible exact Ext.refl _ | with_reducible refine Ext.alloc ?_ _))) HL2.out (by omega) F4.out).mono ?_
    rintro e u5 ⟨rfl, hx0⟩
    have hs : Ext u4 u5 := Ext.trans (by repeat (first | with_reducible exact Ext.refl _ | with_reducible refine Ext.alloc ?_ _)) hx0
    replace HA := Lib.hid (HA.out.ext hs)
    replace HB := Lib.hid (HB.out.ext hs)
    replace HY := Lib.hid (HY.out.ext hs)
    replace HO := Lib.hid (HO.out.ext hs)
    replace HZ := Lib.hid (HZ.out.ext hs)
    replace HT := Lib.hid (HT.out.ext hs)
    have hx1 := hx.trans hs
    clear hx hs hx0
    have hx := hx1
    clear hx1
    dsimp only
    go_wp2_with fail
    refine (HAW.out _ (hx.trans (by repeat (first | with_reducible exact Ext.refl _ | with_reducible refine Ext.alloc ?_ _)))).mono ?_
    rintro e u6 ⟨rfl, hx0⟩
    have hs : Ext u5 u6 := Ext.trans (by repeat (first | with_reducible exact Ext.refl _ | with_reducible refine Ext.alloc ?_ _)) hx0
    replace HA := Lib.hid (HA.out.ext hs)
    replace HB := Lib.hid (HB.out.ext hs)
    replace HY := Lib.hid (HY.out.ext hs)
    replace HO := Lib.hid (HO.out.ext hs)
    replace HZ := Lib.hid (HZ.out.ext hs)
    replace HT := Lib.hid (HT.out.ext hs)
    have hx1 := hx.trans hs
    clear hx hs hx0
    have hx := hx1
    clear hx1
    dsimp only
    go_wp2_with fail
    (go_ret; refine Ret.mk ?_ ?_; (focus (rfl; done)); (focus ((repeat (first | with_reducible exact hx | with_reducible exact Ext.refl _ | with_reducible refine Ext.alloc ?_ _ | with_reducible refine Ext.drewN ?_ _ | with_reducible refine Ext.drew1 ?_ | ((with_reducible refine Ext.setCell ?_ ?_ _); rotate_left; (focus (first | (dsimp only; omega) | (simp; done) | (simp; omega)))))); done)))
end Go.Proofs.YtgfiddlmeopebaaGreatDoor
