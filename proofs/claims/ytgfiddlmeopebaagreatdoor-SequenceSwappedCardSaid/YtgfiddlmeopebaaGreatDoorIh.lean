/- Walks: two neighbours exchanged. -/
import Derived.Test.YtgfiddlmeopebaaGreatDoorAy
import Derived.Test.YtgfiddlmeopebaaGreatDoorCn
set_option linter.unusedSimpArgs false
set_option linter.unusedVariables false
namespace Go.Proofs.YtgfiddlmeopebaaGreatDoor
open Go Go.RowKit
attribute [local go_sem ↓] Go.wp_at_zero Go.wp_at_succ

set_option maxHeartbeats 16000000 in
set_option maxRecDepth 100000 in
theorem swapped_walk (A : Option Addr) (n c t : Nat) (l : List Qp) (w : World) (hg : Glob w) (h : Qs w (fun _ => True) A l) (hn : l.length = n) (ht : t ≤ 255) (hb : n ≤ 1152921504606846976) (hs : ∀ q ∈ l, q.old.length ≤ 1152921504606846976 ∧ q.new.length ≤ 1152921504606846976) :
    Calls Tryz.prog 5 #[.slice A n c, .int .u8 t] w (Ret (.bool true) w) := by
  have HL := Lib.hid h
  have HN := Lib.hid hn
  have HG := Lib.hid hg
  have HAW := Lib.hid (fun W (hW : Ext w W) => awake14_any W (hg.ext hW))
  have HGR := Lib.hid (fun W (hW : Ext w W) => lawgreat14_any A n c l W (h.ext hW) hn hb hs)
  clear h hn hs hg hb
  go_enter Tryz.func5, Tryz.ntmps5
  have hx := Ext.refl w
  go_wp2_with fail
  refine (HGR.out _ hx).mono ?_
  rintro e u1 ⟨v, rfl, hsm, hx0⟩
  have hs : Ext w u1 := Ext.trans (by repeat (first | with_reducible exact Ext.refl _ | with_reducible refine Ext.alloc ?_ _)) hx0
  replace HL := Lib.hid (HL.out.ext hs)
  have hx1 := hx.trans hs
  clear hx hs hx0
  have hx := hx1
  clear hx1
  dsimp only
  have HS := Lib.hid hsm
  clear hsm HGR
  cases v
  rotate_left
  · go_wp2_with fail
    refine (HAW.out _ (hx.trans (by repeat (first | with_reducible exact Ext.refl _ | with_reducible refine Ext.alloc ?_ _)))).mono ?_
    rintro e u2 ⟨rfl, hx0⟩
    have hs : Ext u1 u2 := Ext.trans (by repeat (first | with_reducible exact Ext.refl _ | with_reducible refine Ext.alloc ?_ _)) hx0
    replace HL := Lib.hid (HL.out.ext hs)
    have hx1 := hx.trans hs
    clear hx hs hx0
    have hx := hx1
    clear hx1
    dsimp only
    go_wp2_with fail
    (go_ret; refine Ret.mk ?_ ?_; (focus (rfl; done)); (focus ((repeat (first | with_reducible exact hx | with_reducible exact Ext.refl _ | with_reducible refine Ext.alloc ?_ _ | with_reducible refine Ext.drewN ?_ _ | with_reducible refine Ext.drew1 ?_ | ((with_reducible refine Ext.setCell ?_ ?_ _); rotate_left; (focus (first | (dsimp only; omega) | (simp; done) | (simp; omega)))))); done)))
  have S1 : Small l := HS.out rfl
  have F1 := Lib.hid S1.fits
  have n8 : n ≤ 8 := by have := S1.1; have := HN.out; omega
  clear HS S1
  have HR : Hid (Sq.same l l = true) := Lib.hid (Sq.same_refl l)
  go_wp2_with fail
  refine (seqsame_any A A n c n c l l _ (HG.out.ext (hx.trans (by repeat (first | with_reducible exact Ext.refl _ | with_reducible refine Ext.alloc ?_ _)))) (HL.out.ext (by repeat (first | with_reducible exact Ext.refl _ | with_reducible refine Ext.alloc ?_ _))) (HL.out.ext (by repeat (first | with_reducible exact Ext.refl _ | with_reducible refine Ext.alloc ?_ _))) HN.out HN.out (by omega) (by omega) F1.out F1.out).mono ?_
  rintro e u2 ⟨rfl, hx0⟩
  have hs : Ext u1 u2 := Ext.trans (by repeat (first | with_reducible exact Ext.refl _ | with_reducible refine Ext.alloc ?_ _)) hx0
  replace HL := Lib.hid (HL.out.ext hs)
  have hx1 := hx.trans hs
  clear hx hs hx0
  have hx := hx1
  clear hx1
  dsimp only
  rw [HR.out]
  clear HR
  by_cases h2 : n < 2
  · have h2' : (n : Int) < 2 := by omega
    go_wp2_with fail
    refine (HAW.out _ (hx.trans (by repeat (first | with_reducible exact Ext.refl _ | with_reducible refine Ext.alloc ?_ _)))).mono ?_
    rintro e u3 ⟨rfl, hx0⟩
    have hs : Ext u2 u3 := Ext.trans (by repeat (first | with_reducible exact Ext.refl _ | with_reducible refine Ext.alloc ?_ _)) hx0
    replace HL := Lib.hid (HL.out.ext hs)
    have hx1 := hx.trans hs
    clear hx hs hx0
    have hx := hx1
    clear hx1
    dsimp only
    go_wp2_with fail
    (go_ret; refine Ret.mk ?_ ?_; (focus (rfl; done)); (focus ((repeat (first | with_reducible exact hx | with_reducible exact Ext.refl _ | with_reducible refine Ext.alloc ?_ _ | with_reducible refine Ext.drewN ?_ _ | with_reducible refine Ext.drew1 ?_ | ((with_reducible refine Ext.setCell ?_ ?_ _); rotate_left; (focus (first | (dsimp only; omega) | (simp; done) | (simp; omega)))))); done)))
  · have h2' : ¬ (n : Int) < 2 := by omega
    have h3 : ¬ ((n : Int) - 1 = 0) := by omega
    obtain ⟨i, hi, hin⟩ : ∃ i : Nat, ((t : Int) % ((n : Int) - 1)) = i ∧ i + 1 < n := ⟨t % (n - 1), by rw [show ((n : Int) - 1) = ((n - 1 : Nat) : Int) by omega]; exact (Int.natCast_emod t (n - 1)).symm, by have := Nat.mod_lt t (show 0 < n - 1 by omega); omega⟩
    have hw : wrap64 ((i : Int) + 1) = (i : Int) + 1 := by unfold wrap64; omega
    go_wp2_with fail
    refine (move_any A n c i (i + 1) l _ (HG.out.ext (hx.trans (by repeat (first | with_reducible exact Ext.refl _ | with_reducible refine Ext.alloc ?_ _)))) (HL.out.ext (by repeat (first | with_reducible exact Ext.refl _ | with_reducible refine Ext.alloc ?_ _))) HN.out (by omega) (by omega) (by omega) F1.out).mono ?_
    rintro e u3 ⟨hres, hx0⟩
    have hs : Ext u2 u3 := Ext.trans (by repeat (first | with_reducible exact Ext.refl _ | with_reducible refine Ext.alloc ?_ _)) hx0
    replace HL := Lib.hid (HL.out.ext hs)
    have hx1 := hx.trans hs
    clear hx hs hx0
    have hx := hx1
    clear hx1
    rcases hres with ⟨hm, rfl⟩ | ⟨m, g, hm, rfl, hgw, HO⟩
    · go_wp2_with fail
      refine (HAW.out _ (hx.trans (by repeat (first | with_reducible exact Ext.refl _ | with_reducible refine Ext.alloc ?_ _)))).mono ?_
      rintro e u4 ⟨rfl, hx0⟩
      have hs : Ext u3 u4 := Ext.trans (by repeat (first | with_reducible exact Ext.refl _ | with_reducible refine Ext.alloc ?_ _)) hx0
      replace HL := Lib.hid (HL.out.ext hs)
      have hx1 := hx.trans hs
      clear hx hs hx0
      have hx := hx1
      clear hx1
      dsimp only
      go_wp2_with fail
      (go_ret; refine Ret.mk ?_ ?_; (focus (rfl; done)); (focus ((repeat (first | with_reducible exact hx | with_reducible exact Ext.refl _ | with_reducible refine Ext.alloc ?_ _ | with_reducible refine Ext.drewN ?_ _ | with_reducible refine Ext.drew1 ?_ | ((with_reducible refine Ext.setCell ?_ ?_ _); rotate_left; (focus (first | (dsimp only; omega) | (simp; done) | (simp; omega)))))); done)))
    · have HM := Lib.hid (HO.out.qs.mono (G := fun _ => True) fun _ _ => trivial)
      have HW := Lib.hid (Sq.swapped (by rw [HN.out]; exact hin) hm)
      have HML := Lib.hid ((Sq.move_length hm).trans HN.out)
      have HMF := Lib.hid (Sq.move_fits hm F1.out)
      clear hm hgw HO
      go_wp2_with fail
      refine (seqsame_any A (some ⟨g, 0, none⟩) n c n n l m _ (HG.out.ext (hx.trans (by repeat (first | with_reducible exact Ext.refl _ | with_reducible refine Ext.alloc ?_ _)))) (HL.out.ext (by repeat (first | with_reducible exact Ext.refl _ | with_reducible refine Ext.alloc ?_ _))) (HM.out.ext (by repeat (first | with_reducible exact Ext.refl _ | with_reducible refine Ext.alloc ?_ _))) HN.out HML.out (by omega) (by omega) F1.out HMF.out).mono ?_
      rintro e u4 ⟨rfl, hx0⟩
      have hs : Ext u3 u4 := Ext.trans (by repeat (first | with_reducible exact Ext.refl _ | with_reducible refine Ext.alloc ?_ _)) hx0
      replace HL := Lib.hid (HL.out.ext hs)
      replace HM := Lib.hid (HM.out.ext hs)
      have hx1 := hx.trans hs
      clear hx hs hx0
      have hx := hx1
      clear hx1
      dsimp only
      rw [HW.out.1]
      go_wp2_with fail
      refine (seqsame_any (some ⟨g, 0, none⟩) A n n n c m l _ (HG.out.ext (hx.trans (by repeat (first | with_reducible exact Ext.refl _ | with_reducible refine Ext.alloc ?_ _)))) (HM.out.ext (by repeat (first | with_reducible exact Ext.refl _ | with_reducible refine Ext.alloc ?_ _))) (HL.out.ext (by repeat (first | with_reducible exact Ext.refl _ | with_reducible refine Ext.alloc ?_ _))) HML.out HN.out (by omega) (by omega) HMF.out F1.out).mono ?_
      rintro e u5 ⟨rfl, hx0⟩
      have hs : Ext u4 u5 := Ext.trans (by repeat (first | with_reducible exact Ext.refl _ | with_reducible refine Ext.alloc ?_ _)) hx0
      replace HL := Lib.hid (HL.out.ext hs)
      replace HM := Lib.hid (HM.out.ext hs)
      have hx1 := hx.trans hs
      clear hx hs hx0
      have hx := hx1
      clear hx1
      dsimp only
      rw [HW.out.2]
      go_wp2_with fail
      refine (HAW.out _ (hx.trans (by repeat (first | with_reducible exact Ext.refl _ | with_reducible refine Ext.alloc ?_ _)))).mono ?_
      rintro e u6 ⟨rfl, hx0⟩
      have hs : Ext u5 u6 := Ext.trans (by repeat (first | with_reducible exact Ext.refl _ | with_reducible refine Ext.alloc ?_ _)) hx0
      replace HL := Lib.hid (HL.out.ext hs)
      replace HM := Lib.hid (HM.out.ext hs)
      have hx1 := hx.trans hs
      clear hx hs hx0
      have hx := hx1
      clear hx1
      dsimp only
      go_wp2_with fail
      (go_ret; refine Ret.mk ?_ ?_; (focus (rfl; done)); (focus ((repeat (first | with_reducible exact hx | with_reducible exact Ext.refl _ | with_reducible refine Ext.alloc ?_ _ | with_reducible refine Ext.drewN ?_ _ | with_reducible refine Ext.drew1 ?_ | ((with_reducible refine Ext.setCell ?_ ?_ _); rotate_left; (focus (first | (dsimp only; omega) | (simp; done) | (simp; omega)))))); done)))
end Go.Proofs.YtgfiddlmeopebaaGreatDoor
