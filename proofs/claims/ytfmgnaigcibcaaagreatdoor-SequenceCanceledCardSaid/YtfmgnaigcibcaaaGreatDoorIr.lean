/- Walks: a sequence cancelled: the same effect. -/
import Derived.Test.YtfmgnaigcibcaaaGreatDoorJq
import Derived.Test.YtfmgnaigcibcaaaGreatDoorWa
import Derived.Test.YtfmgnaigcibcaaaGreatDoorJp
set_option linter.unusedSimpArgs false
set_option linter.unusedVariables false
namespace Go.Proofs.YtfmgnaigcibcaaaGreatDoor
open Go Go.RowKit
attribute [local go_sem ↓] Go.wp_at_zero Go.wp_at_succ

set_option maxHeartbeats 16000000 in
set_option maxRecDepth 100000 in
theorem seqcanceled_walk (A B : Option Addr) (n cA m cB : Nat) (t : List Pf) (l : List Qp) (w : World) (hg : Glob w) (ht : Trs w A t) (hn : t.length = n) (h : Qs w (fun _ => True) B l) (hm : l.length = m) (b1 : n ≤ 10000000000000) (b2 : m ≤ 1152921504606846976) (hz : ∀ f ∈ t, f.path.size ≤ 140737488355328 ∧ f.data.size ≤ 140737488355328) (hs : ∀ q ∈ l, q.old.length ≤ 1152921504606846976 ∧ q.new.length ≤ 1152921504606846976) :
    Calls Tryz.prog 7 #[.slice A n cA, .slice B m cB] w (Ret (.bool true) w) := by
  have HT := Lib.hid ht
  have HL := Lib.hid h
  have HN := Lib.hid hn
  have HM := Lib.hid hm
  have HG := Lib.hid hg
  have HAW := Lib.hid (fun W (hW : Ext w W) => awake14_any W (hg.ext hW))
  have HGR := Lib.hid (fun W (hW : Ext w W) => lawgreatT_any A B n cA m cB t l W (ht.ext hW) hn (h.ext hW) hm b1 b2 hz hs)
  clear h ht hn hm hs hg hz
  go_enter Tryz.func7, Tryz.ntmps7
  have hx := Ext.refl w
  go_wp2_with fail
  refine (HGR.out _ hx).mono ?_
  rintro e u1 ⟨v, rfl, hsm, hx0⟩
  have hs : Ext w u1 := Ext.trans (by repeat (first | with_reducible exact Ext.refl _ | with_reducible refine Ext.alloc ?_ _ | with_reducible refine Ext.drew1 ?_)) hx0
  replace HL := Lib.hid (HL.out.ext hs)
  replace HT := Lib.hid (HT.out.ext hs)
  have hx1 := hx.trans hs
  clear hx hs hx0
  have hx := hx1
  clear hx1
  dsimp only
  have HS := Lib.hid hsm
  clear hsm HGR
  cases v
  rotate_left
  · go_wp2_with fail
    refine (HAW.out _ (hx.trans (by repeat (first | with_reducible exact Ext.refl _ | with_reducible refine Ext.alloc ?_ _ | with_reducible refine Ext.drew1 ?_)))).mono ?_
    rintro e u2 ⟨rfl, hx0⟩
    have hs : Ext u1 u2 := Ext.trans (by repeat (first | with_reducible exact Ext.refl _ | with_reducible refine Ext.alloc ?_ _ | with_reducible refine Ext.drew1 ?_)) hx0
    replace HL := Lib.hid (HL.out.ext hs)
    replace HT := Lib.hid (HT.out.ext hs)
    have hx1 := hx.trans hs
    clear hx hs hx0
    have hx := hx1
    clear hx1
    dsimp only
    go_wp2_with fail
    (go_ret; refine Ret.mk ?_ ?_; (focus (rfl; done)); (focus (exact EX; done)))
  have S1 : Small l := HS.out rfl
  have F1 := Lib.hid S1.fits
  have m8 : m ≤ 8 := by have := S1.1; have := HM.out; omega
  clear HS S1
  have HLW := Lib.hid (Um.canceled_law l t)
  go_wp2_with fail
  refine (cancel_any B m cB l _ (HG.out.ext (hx.trans (by repeat (first | with_reducible exact Ext.refl _ | with_reducible refine Ext.alloc ?_ _ | with_reducible refine Ext.drew1 ?_)))) (HL.out.ext (by repeat (first | with_reducible exact Ext.refl _ | with_reducible refine Ext.alloc ?_ _ | with_reducible refine Ext.drew1 ?_))) HM.out (by omega) F1.out).mono ?_
  rintro e u2 ⟨E, k, cE, rfl, hk, hkm, hQ, hfi, hx0⟩
  have hs : Ext u1 u2 := Ext.trans (by repeat (first | with_reducible exact Ext.refl _ | with_reducible refine Ext.alloc ?_ _ | with_reducible refine Ext.drew1 ?_)) hx0
  replace HL := Lib.hid (HL.out.ext hs)
  replace HT := Lib.hid (HT.out.ext hs)
  have hx1 := hx.trans hs
  clear hx hs hx0
  have hx := hx1
  clear hx1
  dsimp only
  have HQM := hQ
  have HML := Lib.hid hk
  have HMF := hfi
  clear hQ hk hfi
  have HK : Hid (k ≤ m) := Lib.hid hkm
  have k8 : k ≤ 8 := by omega
  have HP : Hid (k % 2 = m % 2) := Lib.hid (by have := HLW.out.2.1; rw [HML.out, HM.out] at this; exact this)
  have HCC : Hid (Sq.cancel (Sq.cancel l) = Sq.cancel l) := Lib.hid HLW.out.2.2.1
  have HLK : Hid (Um.Like (Um.apply t l) (Um.apply t (Sq.cancel l))) := Lib.hid HLW.out.2.2.2
  have HLN : Hid ((Um.apply t l).2.2 = 0 → (Um.apply t l).1.length ≤ 200) := Lib.hid apply_all_len
  have HA1 := Lib.hid (fun W (hT : Trs W A t) (hQ : Qs W (fun _ => True) B l) (hG : Glob W) => seqapply_any A B n cA m cB t l W hG hT HN.out hQ HM.out b1 (by omega) F1.out)
  have HA2 := Lib.hid (fun W C k cC (hT : Trs W A t) (hQ : Qs W (fun _ => True) C (Sq.cancel l)) (hk : ((Sq.cancel l)).length = k) (hk8 : k ≤ 8) (hG : Glob W) => seqapply_any A C n cA k cC t ((Sq.cancel l)) W hG hT HN.out hQ hk b1 (by omega) HMF.out)
  generalize Um.apply t l = R1 at HLK HLN HA1
  generalize Um.apply t ((Sq.cancel l)) = R2 at HLK HA2
  obtain ⟨r1, k1, e1⟩ := R1
  obtain ⟨r2, k2, e2⟩ := R2
  clear HLW
  generalize Sq.cancel l = M at *
  have hle : ¬ ((m : Int) < (k : Int)) := by omega
  have hp : ((k : Int) % 2) = ((m : Int) % 2) := by have := HP.out; omega
  clear hkm
  go_wp2_with fail
  refine (cancel_any E k cE M _ (HG.out.ext (hx.trans (by repeat (first | with_reducible exact Ext.refl _ | with_reducible refine Ext.alloc ?_ _ | with_reducible refine Ext.drew1 ?_)))) (HQM.out.ext (by repeat (first | with_reducible exact Ext.refl _ | with_reducible refine Ext.alloc ?_ _ | with_reducible refine Ext.drew1 ?_))) HML.out (by omega) HMF.out).mono ?_
  rintro e u3 ⟨E2, k2', cE2, rfl, hk2, hkm2, hQ2, hfi2, hx0⟩
  have hs : Ext u2 u3 := Ext.trans (by repeat (first | with_reducible exact Ext.refl _ | with_reducible refine Ext.alloc ?_ _ | with_reducible refine Ext.drew1 ?_)) hx0
  replace HL := Lib.hid (HL.out.ext hs)
  replace HT := Lib.hid (HT.out.ext hs)
  replace HQM := Lib.hid (HQM.out.ext hs)
  have hx1 := hx.trans hs
  clear hx hs hx0
  have hx := hx1
  clear hx1
  dsimp only
  have HK2 : Hid (k2' = k) := Lib.hid (by rw [← hk2, HCC.out, HML.out])
  have HQC : Hid (Qs _ (fun _ => True) E2 M) := Lib.hid (by have := hQ2.out; rwa [HCC.out] at this)
  obtain rfl := HK2.out
  clear hQ2 hk2 hfi2 HK2 hkm2 HCC
  go_wp2_with fail
  refine (samelist_true E2 E k2' cE2 cE M _ (HQC.out.ext (by repeat (first | with_reducible exact Ext.refl _ | with_reducible refine Ext.alloc ?_ _ | with_reducible refine Ext.drew1 ?_))) (HQM.out.ext (by repeat (first | with_reducible exact Ext.refl _ | with_reducible refine Ext.alloc ?_ _ | with_reducible refine Ext.drew1 ?_))) HML.out (by omega) HMF.out).mono ?_
  rintro e u4 ⟨rfl, hx0⟩
  have hs : Ext u3 u4 := Ext.trans (by repeat (first | with_reducible exact Ext.refl _ | with_reducible refine Ext.alloc ?_ _ | with_reducible refine Ext.drew1 ?_)) hx0
  replace HL := Lib.hid (HL.out.ext hs)
  replace HT := Lib.hid (HT.out.ext hs)
  replace HQM := Lib.hid (HQM.out.ext hs)
  replace HQC := Lib.hid (HQC.out.ext hs)
  have hx1 := hx.trans hs
  clear hx hs hx0
  have hx := hx1
  clear hx1
  dsimp only
  go_wp2_with fail
  refine (HA1.out _ (HT.out.ext (by repeat (first | with_reducible exact Ext.refl _ | with_reducible refine Ext.alloc ?_ _ | with_reducible refine Ext.drew1 ?_))) (HL.out.ext (by repeat (first | with_reducible exact Ext.refl _ | with_reducible refine Ext.alloc ?_ _ | with_reducible refine Ext.drew1 ?_))) (HG.out.ext (hx.trans (by repeat (first | with_reducible exact Ext.refl _ | with_reducible refine Ext.alloc ?_ _ | with_reducible refine Ext.drew1 ?_))))).mono ?_
  rintro e u5 ⟨X1, nx1, cx1, rfl, hnx1, hX1, hx0⟩
  have hs : Ext u4 u5 := Ext.trans (by repeat (first | with_reducible exact Ext.refl _ | with_reducible refine Ext.alloc ?_ _ | with_reducible refine Ext.drew1 ?_)) hx0
  replace HL := Lib.hid (HL.out.ext hs)
  replace HT := Lib.hid (HT.out.ext hs)
  replace HQM := Lib.hid (HQM.out.ext hs)
  replace HQC := Lib.hid (HQC.out.ext hs)
  have hx1 := hx.trans hs
  clear hx hs hx0
  have hx := hx1
  clear hx1
  dsimp only
  have HX1 := hX1
  have HN1 := Lib.hid hnx1
  clear hX1 hnx1 HA1
  go_wp2_with fail
  refine (HA2.out _ E k2' cE (HT.out.ext (by repeat (first | with_reducible exact Ext.refl _ | with_reducible refine Ext.alloc ?_ _ | with_reducible refine Ext.drew1 ?_))) (HQM.out.ext (by repeat (first | with_reducible exact Ext.refl _ | with_reducible refine Ext.alloc ?_ _ | with_reducible refine Ext.drew1 ?_))) HML.out (by omega) (HG.out.ext (hx.trans (by repeat (first | with_reducible exact Ext.refl _ | with_reducible refine Ext.alloc ?_ _ | with_reducible refine Ext.drew1 ?_))))).mono ?_
  rintro e u6 ⟨X2, nx2, cx2, rfl, hnx2, hX2, hx0⟩
  have hs : Ext u5 u6 := Ext.trans (by repeat (first | with_reducible exact Ext.refl _ | with_reducible refine Ext.alloc ?_ _ | with_reducible refine Ext.drew1 ?_)) hx0
  replace HL := Lib.hid (HL.out.ext hs)
  replace HT := Lib.hid (HT.out.ext hs)
  replace HQM := Lib.hid (HQM.out.ext hs)
  replace HQC := Lib.hid (HQC.out.ext hs)
  replace HX1 := Lib.hid (HX1.out.ext hs)
  have hx1 := hx.trans hs
  clear hx hs hx0
  have hx := hx1
  clear hx1
  dsimp only
  have HX2 := hX2
  have HN2 := Lib.hid hnx2
  clear hX2 hnx2 HA2
  by_cases hE : e1 = 0
  rotate_left
  · go_wp2_with fail
    refine (HAW.out _ (hx.trans (by repeat (first | with_reducible exact Ext.refl _ | with_reducible refine Ext.alloc ?_ _ | with_reducible refine Ext.drew1 ?_)))).mono ?_
    rintro e u7 ⟨rfl, hx0⟩
    have hs : Ext u6 u7 := Ext.trans (by repeat (first | with_reducible exact Ext.refl _ | with_reducible refine Ext.alloc ?_ _ | with_reducible refine Ext.drew1 ?_)) hx0
    replace HL := Lib.hid (HL.out.ext hs)
    replace HT := Lib.hid (HT.out.ext hs)
    replace HQM := Lib.hid (HQM.out.ext hs)
    replace HQC := Lib.hid (HQC.out.ext hs)
    replace HX1 := Lib.hid (HX1.out.ext hs)
    replace HX2 := Lib.hid (HX2.out.ext hs)
    have hx1 := hx.trans hs
    clear hx hs hx0
    have hx := hx1
    clear hx1
    dsimp only
    go_wp2_with fail
    (go_ret; refine Ret.mk ?_ ?_; (focus (rfl; done)); (focus (exact EX; done)))
  subst hE
  by_cases hF : Um.Lim e2
  · go_wp2_with fail
    refine (limited_yes _ hF).mono ?_
    rintro e u7 ⟨rfl, hx0⟩
    have hs : Ext u6 u7 := Ext.trans (by repeat (first | with_reducible exact Ext.refl _ | with_reducible refine Ext.alloc ?_ _ | with_reducible refine Ext.drew1 ?_)) hx0
    replace HL := Lib.hid (HL.out.ext hs)
    replace HT := Lib.hid (HT.out.ext hs)
    replace HQM := Lib.hid (HQM.out.ext hs)
    replace HQC := Lib.hid (HQC.out.ext hs)
    replace HX1 := Lib.hid (HX1.out.ext hs)
    replace HX2 := Lib.hid (HX2.out.ext hs)
    have hx1 := hx.trans hs
    clear hx hs hx0
    have hx := hx1
    clear hx1
    dsimp only
    go_wp2_with fail
    refine (HAW.out _ (hx.trans (by repeat (first | with_reducible exact Ext.refl _ | with_reducible refine Ext.alloc ?_ _ | with_reducible refine Ext.drew1 ?_)))).mono ?_
    rintro e u8 ⟨rfl, hx0⟩
    have hs : Ext u7 u8 := Ext.trans (by repeat (first | with_reducible exact Ext.refl _ | with_reducible refine Ext.alloc ?_ _ | with_reducible refine Ext.drew1 ?_)) hx0
    replace HL := Lib.hid (HL.out.ext hs)
    replace HT := Lib.hid (HT.out.ext hs)
    replace HQM := Lib.hid (HQM.out.ext hs)
    replace HQC := Lib.hid (HQC.out.ext hs)
    replace HX1 := Lib.hid (HX1.out.ext hs)
    replace HX2 := Lib.hid (HX2.out.ext hs)
    have hx1 := hx.trans hs
    clear hx hs hx0
    have hx := hx1
    clear hx1
    dsimp only
    go_wp2_with fail
    (go_ret; refine Ret.mk ?_ ?_; (focus (rfl; done)); (focus (exact EX; done)))
  obtain ⟨rfl, hrr⟩ : e2 = 0 ∧ r2 = r1 := by
    rcases HLK.out with k | k | k
    · exact (k rfl).elim
    · exact (hF k).elim
    · exact k
  subst hrr
  have HL1 : Hid (nx1 ≤ 200) := Lib.hid (by have := HLN.out rfl; have := HN1.out; dsimp only at *; omega)
  have HL2 : Hid (nx2 ≤ 200) := Lib.hid (by have := HLN.out rfl; have := HN2.out; dsimp only at *; omega)
  go_wp2_with fail
  refine (limited_no _ hF).mono ?_
  rintro e u7 ⟨rfl, hx0⟩
  have hs : Ext u6 u7 := Ext.trans (by repeat (first | with_reducible exact Ext.refl _ | with_reducible refine Ext.alloc ?_ _ | with_reducible refine Ext.drew1 ?_)) hx0
  replace HL := Lib.hid (HL.out.ext hs)
  replace HT := Lib.hid (HT.out.ext hs)
  replace HQM := Lib.hid (HQM.out.ext hs)
  replace HQC := Lib.hid (HQC.out.ext hs)
  replace HX1 := Lib.hid (HX1.out.ext hs)
  replace HX2 := Lib.hid (HX2.out.ext hs)
  have hx1 := hx.trans hs
  clear hx hs hx0
  have hx := hx1
  clear hx1
  dsimp only
  go_wp2_with fail
  refine (sametree_any X1 X2 nx1 nx2 cx1 cx2 r2 r2 _ (HX1.out.ext (by repeat (first | with_reducible exact Ext.refl _ | with_reducible refine Ext.alloc ?_ _ | with_reducible refine Ext.drew1 ?_))) (HX2.out.ext (by repeat (first | with_reducible exact Ext.refl _ | with_reducible refine Ext.alloc ?_ _ | with_reducible refine Ext.drew1 ?_))) HN1.out.symm HN2.out.symm (by have := HL1.out; omega) (by have := HL2.out; omega)).mono ?_
  rintro e u8 ⟨rfl, hx0⟩
  have hs : Ext u7 u8 := Ext.trans (by repeat (first | with_reducible exact Ext.refl _ | with_reducible refine Ext.alloc ?_ _ | with_reducible refine Ext.drew1 ?_)) hx0
  replace HL := Lib.hid (HL.out.ext hs)
  replace HT := Lib.hid (HT.out.ext hs)
  replace HQM := Lib.hid (HQM.out.ext hs)
  replace HQC := Lib.hid (HQC.out.ext hs)
  replace HX1 := Lib.hid (HX1.out.ext hs)
  replace HX2 := Lib.hid (HX2.out.ext hs)
  have hx1 := hx.trans hs
  clear hx hs hx0
  have hx := hx1
  clear hx1
  rw [decide_eq_true rfl]
  go_wp2_with fail
  refine (HAW.out _ (hx.trans (by repeat (first | with_reducible exact Ext.refl _ | with_reducible refine Ext.alloc ?_ _ | with_reducible refine Ext.drew1 ?_)))).mono ?_
  rintro e u9 ⟨rfl, hx0⟩
  have hs : Ext u8 u9 := Ext.trans (by repeat (first | with_reducible exact Ext.refl _ | with_reducible refine Ext.alloc ?_ _ | with_reducible refine Ext.drew1 ?_)) hx0
  replace HL := Lib.hid (HL.out.ext hs)
  replace HT := Lib.hid (HT.out.ext hs)
  replace HQM := Lib.hid (HQM.out.ext hs)
  replace HQC := Lib.hid (HQC.out.ext hs)
  replace HX1 := Lib.hid (HX1.out.ext hs)
  replace HX2 := Lib.hid (HX2.out.ext hs)
  have hx1 := hx.trans hs
  clear hx hs hx0
  have hx := hx1
  clear hx1
  dsimp only
  go_wp2_with fail
  (go_ret; refine Ret.mk ?_ ?_; (focus (rfl; done)); (focus (exact EX; done)))
end Go.Proofs.YtfmgnaigcibcaaaGreatDoor
