/- Walks: the inverse of a sequence leads back. -/
import Derived.Test.YtfmgnaigcibcaaaGreatDoorJq
import Derived.Test.YtfmgnaigcibcaaaGreatDoorWa
import Derived.Test.YtfmgnaigcibcaaaGreatDoorJp
import Derived.Test.YtfmgnaigcibcaaaGreatDoorVi
set_option linter.unusedSimpArgs false
set_option linter.unusedVariables false
namespace Go.Proofs.YtfmgnaigcibcaaaGreatDoor
open Go Go.RowKit
attribute [local go_sem ↓] Go.wp_at_zero Go.wp_at_succ

set_option maxHeartbeats 16000000 in
set_option maxRecDepth 100000 in
theorem seqinverse_walk (A B : Option Addr) (n cA m cB : Nat) (t : List Pf) (l : List Qp) (w : World) (hg : Glob w) (ht : Trs w A t) (hn : t.length = n) (h : Qs w (fun _ => True) B l) (hm : l.length = m) (b1 : n ≤ 10000000000000) (b2 : m ≤ 1152921504606846976) (hz : ∀ f ∈ t, f.path.size ≤ 140737488355328 ∧ f.data.size ≤ 140737488355328) (hs : ∀ q ∈ l, q.old.length ≤ 1152921504606846976 ∧ q.new.length ≤ 1152921504606846976) :
    Calls Tryz.prog 5 #[.slice A n cA, .slice B m cB] w (Ret (.bool true) w) := by
  have HT := Lib.hid ht
  have HL := Lib.hid h
  have HN := Lib.hid hn
  have HM := Lib.hid hm
  have HG := Lib.hid hg
  have HAW := Lib.hid (fun W (hW : Ext w W) => awake14_any W (hg.ext hW))
  have HGR := Lib.hid (fun W (hW : Ext w W) => lawgreatT_any A B n cA m cB t l W (ht.ext hW) hn (h.ext hW) hm b1 b2 hz hs)
  clear h ht hn hm hs hg hz
  go_enter Tryz.func5, Tryz.ntmps5
  have hx := Ext.refl w
  go_wp2_with fail
  refine (HGR.out _ hx).mono ?_
  rintro e u1 ⟨v, rfl, hsm, hx0⟩
  have hs : Ext w u1 := Ext.trans (by repeat (first | with_reducible exact Ext.refl _ | with_reducible refine Ext.alloc ?_ _ | with_reducible refine Ext.drew1 ?_)) hx0
  replace HL := Lib.hid (HL.out.ext hs)
  replace HT := Lib.hid (HT.out.ext hs)
  have hx1 := hx.trans hs
  clear hx hs hx0
  have hx := hx1
  clear hx1
  dsimp only
  have HS := Lib.hid hsm
  clear hsm HGR
  cases v
  rotate_left
  · go_wp2_with fail
    refine (HAW.out _ (hx.trans (by repeat (first | with_reducible exact Ext.refl _ | with_reducible refine Ext.alloc ?_ _ | with_reducible refine Ext.drew1 ?_)))).mono ?_
    rintro e u2 ⟨rfl, hx0⟩
    have hs : Ext u1 u2 := Ext.trans (by repeat (first | with_reducible exact Ext.refl _ | with_reducible refine Ext.alloc ?_ _ | with_reducible refine Ext.drew1 ?_)) hx0
    replace HL := Lib.hid (HL.out.ext hs)
    replace HT := Lib.hid (HT.out.ext hs)
    have hx1 := hx.trans hs
    clear hx hs hx0
    have hx := hx1
    clear hx1
    dsimp only
    go_wp2_with fail
    (go_ret; refine Ret.mk ?_ ?_; (focus (rfl; done)); (focus (exact EX; done)))
  have S1 : Small l := HS.out rfl
  have F1 := Lib.hid S1.fits
  have m8 : m ≤ 8 := by have := S1.1; have := HM.out; omega
  clear HS S1
  have HIL := Lib.hid (fun (z : (Um.apply t l).2.2 = 0) => Um.inverse_law z)
  have HLN : Hid ((Um.apply t l).2.2 = 0 → (Um.apply t l).1.length ≤ 200) := Lib.hid apply_all_len
  have HA1 := Lib.hid (fun W (hT : Trs W A t) (hQ : Qs W (fun _ => True) B l) (hG : Glob W) => seqapply_any A B n cA m cB t l W hG hT HN.out hQ HM.out b1 (by omega) F1.out)
  have HTL : Hid ((Um.apply t l).2.2 = 0 → t.length ≤ 200) := Lib.hid fun e => (Um.apply_su (Prod.ext rfl (Prod.ext rfl e) : Um.apply t l = ((Um.apply t l).1, (Um.apply t l).2.1, 0))).1.len
  generalize Um.apply t l = R1 at HIL HLN HA1 HTL
  obtain ⟨r1, k1, e1⟩ := R1
  dsimp only at HIL HLN HTL
  go_wp2_with fail
  refine (seqinvert_any B m cB l _ (HG.out.ext (hx.trans (by repeat (first | with_reducible exact Ext.refl _ | with_reducible refine Ext.alloc ?_ _ | with_reducible refine Ext.drew1 ?_)))) (HL.out.ext (by repeat (first | with_reducible exact Ext.refl _ | with_reducible refine Ext.alloc ?_ _ | with_reducible refine Ext.drew1 ?_))) HM.out (by omega) F1.out).mono ?_
  rintro e u2 ⟨hres, hx0⟩
  have hs : Ext u1 u2 := Ext.trans (by repeat (first | with_reducible exact Ext.refl _ | with_reducible refine Ext.alloc ?_ _ | with_reducible refine Ext.drew1 ?_)) hx0
  replace HL := Lib.hid (HL.out.ext hs)
  replace HT := Lib.hid (HT.out.ext hs)
  have hx1 := hx.trans hs
  clear hx hs hx0
  have hx := hx1
  clear hx1
  rcases hres with ⟨hno, k, hk, rfl⟩ | ⟨hok, C, cC, rfl, hQ⟩
  · have hE : ¬ e1 = 0 := fun z => hno (HIL.out z).1
    have hE2 : (e1 != 0) = true := by simpa using hE
    clear hno
    go_wp2_with fail
    refine (HA1.out _ (HT.out.ext (by repeat (first | with_reducible exact Ext.refl _ | with_reducible refine Ext.alloc ?_ _ | with_reducible refine Ext.drew1 ?_))) (HL.out.ext (by repeat (first | with_reducible exact Ext.refl _ | with_reducible refine Ext.alloc ?_ _ | with_reducible refine Ext.drew1 ?_))) (HG.out.ext (hx.trans (by repeat (first | with_reducible exact Ext.refl _ | with_reducible refine Ext.alloc ?_ _ | with_reducible refine Ext.drew1 ?_))))).mono ?_
    rintro e u3 ⟨X1, nx1, cx1, rfl, hnx1, hX1, hx0⟩
    have hs : Ext u2 u3 := Ext.trans (by repeat (first | with_reducible exact Ext.refl _ | with_reducible refine Ext.alloc ?_ _ | with_reducible refine Ext.drew1 ?_)) hx0
    replace HL := Lib.hid (HL.out.ext hs)
    replace HT := Lib.hid (HT.out.ext hs)
    have hx1 := hx.trans hs
    clear hx hs hx0
    have hx := hx1
    clear hx1
    dsimp only
    clear hX1 hnx1 HA1
    go_wp2_with fail
    refine (HAW.out _ (hx.trans (by repeat (first | with_reducible exact Ext.refl _ | with_reducible refine Ext.alloc ?_ _ | with_reducible refine Ext.drew1 ?_)))).mono ?_
    rintro e u4 ⟨rfl, hx0⟩
    have hs : Ext u3 u4 := Ext.trans (by repeat (first | with_reducible exact Ext.refl _ | with_reducible refine Ext.alloc ?_ _ | with_reducible refine Ext.drew1 ?_)) hx0
    replace HL := Lib.hid (HL.out.ext hs)
    replace HT := Lib.hid (HT.out.ext hs)
    have hx1 := hx.trans hs
    clear hx hs hx0
    have hx := hx1
    clear hx1
    dsimp only
    go_wp2_with fail
    (go_ret; refine Ret.mk ?_ ?_; (focus ((simp [hE2]); done)); (focus (exact EX; done)))
  · have HQM := hQ
    have HOK := Lib.hid hok
    have HML : Hid ((Sq.invert l).length = m) := Lib.hid (by unfold Sq.invert; rw [List.length_reverse, List.length_map, HM.out])
    have HIO := Lib.hid (Um.invert_ok hok)
    have HII := Lib.hid (Um.invert_invert hok)
    clear hQ hok
    go_wp2_with fail
    refine (seqinvert_any C m cC (Sq.invert l) _ (HG.out.ext (hx.trans (by repeat (first | with_reducible exact Ext.refl _ | with_reducible refine Ext.alloc ?_ _ | with_reducible refine Ext.drew1 ?_)))) (HQM.out.ext (by repeat (first | with_reducible exact Ext.refl _ | with_reducible refine Ext.alloc ?_ _ | with_reducible refine Ext.drew1 ?_))) HML.out (by omega) (fun q hq => check_fits (HIO.out q hq))).mono ?_
    rintro e u3 ⟨hres, hx0⟩
    have hs : Ext u2 u3 := Ext.trans (by repeat (first | with_reducible exact Ext.refl _ | with_reducible refine Ext.alloc ?_ _ | with_reducible refine Ext.drew1 ?_)) hx0
    replace HL := Lib.hid (HL.out.ext hs)
    replace HT := Lib.hid (HT.out.ext hs)
    replace HQM := Lib.hid (HQM.out.ext hs)
    have hx1 := hx.trans hs
    clear hx hs hx0
    have hx := hx1
    clear hx1
    rcases hres with ⟨hno, k, hk, rfl⟩ | ⟨hok, D, cD, rfl, hQ⟩
    · exact (hno HIO.out).elim
    have HQB : Hid (Qs _ (fun _ => True) D l) := Lib.hid (by have := hQ.out; rwa [HII.out] at this)
    clear hQ hok HII
    go_wp2_with fail
    refine (samelist_true D B m cD cB l _ (HQB.out.ext (by repeat (first | with_reducible exact Ext.refl _ | with_reducible refine Ext.alloc ?_ _ | with_reducible refine Ext.drew1 ?_))) (HL.out.ext (by repeat (first | with_reducible exact Ext.refl _ | with_reducible refine Ext.alloc ?_ _ | with_reducible refine Ext.drew1 ?_))) HM.out (by omega) F1.out).mono ?_
    rintro e u4 ⟨rfl, hx0⟩
    have hs : Ext u3 u4 := Ext.trans (by repeat (first | with_reducible exact Ext.refl _ | with_reducible refine Ext.alloc ?_ _ | with_reducible refine Ext.drew1 ?_)) hx0
    replace HL := Lib.hid (HL.out.ext hs)
    replace HT := Lib.hid (HT.out.ext hs)
    replace HQM := Lib.hid (HQM.out.ext hs)
    replace HQB := Lib.hid (HQB.out.ext hs)
    have hx1 := hx.trans hs
    clear hx hs hx0
    have hx := hx1
    clear hx1
    dsimp only
    go_wp2_with fail
    refine (HA1.out _ (HT.out.ext (by repeat (first | with_reducible exact Ext.refl _ | with_reducible refine Ext.alloc ?_ _ | with_reducible refine Ext.drew1 ?_))) (HL.out.ext (by repeat (first | with_reducible exact Ext.refl _ | with_reducible refine Ext.alloc ?_ _ | with_reducible refine Ext.drew1 ?_))) (HG.out.ext (hx.trans (by repeat (first | with_reducible exact Ext.refl _ | with_reducible refine Ext.alloc ?_ _ | with_reducible refine Ext.drew1 ?_))))).mono ?_
    rintro e u5 ⟨X1, nx1, cx1, rfl, hnx1, hX1, hx0⟩
    have hs : Ext u4 u5 := Ext.trans (by repeat (first | with_reducible exact Ext.refl _ | with_reducible refine Ext.alloc ?_ _ | with_reducible refine Ext.drew1 ?_)) hx0
    replace HL := Lib.hid (HL.out.ext hs)
    replace HT := Lib.hid (HT.out.ext hs)
    replace HQM := Lib.hid (HQM.out.ext hs)
    replace HQB := Lib.hid (HQB.out.ext hs)
    have hx1 := hx.trans hs
    clear hx hs hx0
    have hx := hx1
    clear hx1
    dsimp only
    have HX1 := hX1
    have HN1 := Lib.hid hnx1
    clear hX1 hnx1 HA1
    by_cases hE : e1 = 0
    rotate_left
    · go_wp2_with fail
      refine (HAW.out _ (hx.trans (by repeat (first | with_reducible exact Ext.refl _ | with_reducible refine Ext.alloc ?_ _ | with_reducible refine Ext.drew1 ?_)))).mono ?_
      rintro e u6 ⟨rfl, hx0⟩
      have hs : Ext u5 u6 := Ext.trans (by repeat (first | with_reducible exact Ext.refl _ | with_reducible refine Ext.alloc ?_ _ | with_reducible refine Ext.drew1 ?_)) hx0
      replace HL := Lib.hid (HL.out.ext hs)
      replace HT := Lib.hid (HT.out.ext hs)
      replace HQM := Lib.hid (HQM.out.ext hs)
      replace HQB := Lib.hid (HQB.out.ext hs)
      replace HX1 := Lib.hid (HX1.out.ext hs)
      have hx1 := hx.trans hs
      clear hx hs hx0
      have hx := hx1
      clear hx1
      dsimp only
      go_wp2_with fail
      (go_ret; refine Ret.mk ?_ ?_; (focus (rfl; done)); (focus (exact EX; done)))
    subst hE
    have HBK := Lib.hid (HIL.out rfl).2
    have HL1 : Hid (nx1 ≤ 200) := Lib.hid (by have := HLN.out rfl; have := HN1.out; dsimp only at *; omega)
    have HL2 : Hid (n ≤ 200) := Lib.hid (by have := HTL.out rfl; have := HN.out; omega)
    clear HIL HLN HTL
    go_wp2_with fail
    refine (seqapply_any X1 C nx1 cx1 m cC r1 (Sq.invert l) _ (HG.out.ext (hx.trans (by repeat (first | with_reducible exact Ext.refl _ | with_reducible refine Ext.alloc ?_ _ | with_reducible refine Ext.drew1 ?_)))) (HX1.out.ext (by repeat (first | with_reducible exact Ext.refl _ | with_reducible refine Ext.alloc ?_ _ | with_reducible refine Ext.drew1 ?_))) HN1.out.symm (HQM.out.ext (by repeat (first | with_reducible exact Ext.refl _ | with_reducible refine Ext.alloc ?_ _ | with_reducible refine Ext.drew1 ?_))) HML.out (by have := HL1.out; omega) (by omega) (fun q hq => check_fits (HIO.out q hq))).mono ?_
    rintro e u6 ⟨X2, nx2, cx2, rfl, hnx2, hX2, hx0⟩
    have hs : Ext u5 u6 := Ext.trans (by repeat (first | with_reducible exact Ext.refl _ | with_reducible refine Ext.alloc ?_ _ | with_reducible refine Ext.drew1 ?_)) hx0
    replace HL := Lib.hid (HL.out.ext hs)
    replace HT := Lib.hid (HT.out.ext hs)
    replace HQM := Lib.hid (HQM.out.ext hs)
    replace HQB := Lib.hid (HQB.out.ext hs)
    replace HX1 := Lib.hid (HX1.out.ext hs)
    have hx1 := hx.trans hs
    clear hx hs hx0
    have hx := hx1
    clear hx1
    dsimp only
    have HX2 := hX2
    have HN2 := Lib.hid hnx2
    clear hX2 hnx2
    rw [HBK.out] at HX2 HN2 ⊢
    dsimp only at HX2 HN2 ⊢
    go_wp2_with fail
    refine (sametree_any X2 A nx2 n cx2 cA t t _ (HX2.out.ext (by repeat (first | with_reducible exact Ext.refl _ | with_reducible refine Ext.alloc ?_ _ | with_reducible refine Ext.drew1 ?_))) (HT.out.ext (by repeat (first | with_reducible exact Ext.refl _ | with_reducible refine Ext.alloc ?_ _ | with_reducible refine Ext.drew1 ?_))) HN2.out.symm HN.out (by have := HL2.out; have := HN.out; have := HN2.out; omega) b1).mono ?_
    rintro e u7 ⟨rfl, hx0⟩
    have hs : Ext u6 u7 := Ext.trans (by repeat (first | with_reducible exact Ext.refl _ | with_reducible refine Ext.alloc ?_ _ | with_reducible refine Ext.drew1 ?_)) hx0
    replace HL := Lib.hid (HL.out.ext hs)
    replace HT := Lib.hid (HT.out.ext hs)
    replace HQM := Lib.hid (HQM.out.ext hs)
    replace HQB := Lib.hid (HQB.out.ext hs)
    replace HX1 := Lib.hid (HX1.out.ext hs)
    replace HX2 := Lib.hid (HX2.out.ext hs)
    have hx1 := hx.trans hs
    clear hx hs hx0
    have hx := hx1
    clear hx1
    rw [decide_eq_true rfl]
    go_wp2_with fail
    refine (HAW.out _ (hx.trans (by repeat (first | with_reducible exact Ext.refl _ | with_reducible refine Ext.alloc ?_ _ | with_reducible refine Ext.drew1 ?_)))).mono ?_
    rintro e u8 ⟨rfl, hx0⟩
    have hs : Ext u7 u8 := Ext.trans (by repeat (first | with_reducible exact Ext.refl _ | with_reducible refine Ext.alloc ?_ _ | with_reducible refine Ext.drew1 ?_)) hx0
    replace HL := Lib.hid (HL.out.ext hs)
    replace HT := Lib.hid (HT.out.ext hs)
    replace HQM := Lib.hid (HQM.out.ext hs)
    replace HQB := Lib.hid (HQB.out.ext hs)
    replace HX1 := Lib.hid (HX1.out.ext hs)
    replace HX2 := Lib.hid (HX2.out.ext hs)
    have hx1 := hx.trans hs
    clear hx hs hx0
    have hx := hx1
    clear hx1
    dsimp only
    go_wp2_with fail
    (go_ret; refine Ret.mk ?_ ?_; (focus (rfl; done)); (focus (exact EX; done)))
end Go.Proofs.YtfmgnaigcibcaaaGreatDoor
