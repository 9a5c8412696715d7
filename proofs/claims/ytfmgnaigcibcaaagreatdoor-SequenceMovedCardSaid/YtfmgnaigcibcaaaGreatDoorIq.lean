/- Walks: a patch moved: the same effect. -/
import Derived.Test.YtfmgnaigcibcaaaGreatDoorJq
import Derived.Test.YtfmgnaigcibcaaaGreatDoorWa
import Derived.Test.YtfmgnaigcibcaaaGreatDoorJp
set_option linter.unusedSimpArgs false
set_option linter.unusedVariables false
namespace Go.Proofs.YtfmgnaigcibcaaaGreatDoor
open Go Go.RowKit
attribute [local go_sem ↓] Go.wp_at_zero Go.wp_at_succ

set_option maxHeartbeats 16000000 in
set_option maxRecDepth 100000 in
theorem seqmoved_walk (A B : Option Addr) (n cA m cB : Nat) (i0 k0 : Nat) (t : List Pf) (l : List Qp) (w : World) (hg : Glob w) (ht : Trs w A t) (hn : t.length = n) (h : Qs w (fun _ => True) B l) (hm : l.length = m) (hi0 : i0 ≤ 255) (hk0 : k0 ≤ 255) (b1 : n ≤ 10000000000000) (b2 : m ≤ 1152921504606846976) (hz : ∀ f ∈ t, f.path.size ≤ 140737488355328 ∧ f.data.size ≤ 140737488355328) (hs : ∀ q ∈ l, q.old.length ≤ 1152921504606846976 ∧ q.new.length ≤ 1152921504606846976) :
    Calls Tryz.prog 6 #[.slice A n cA, .slice B m cB, .int .u8 i0, .int .u8 k0] w (Ret (.bool true) w) := by
  have HT := Lib.hid ht
  have HL := Lib.hid h
  have HN := Lib.hid hn
  have HM := Lib.hid hm
  have HG := Lib.hid hg
  have HAW := Lib.hid (fun W (hW : Ext w W) => awake14_any W (hg.ext hW))
  have HGR := Lib.hid (fun W (hW : Ext w W) => lawgreatT_any A B n cA m cB t l W (ht.ext hW) hn (h.ext hW) hm b1 b2 hz hs)
  clear h ht hn hm hs hg hz
  go_enter Tryz.func6, Tryz.ntmps6
  have hx := Ext.refl w
  go_wp2_with fail
  refine (HGR.out _ hx).mono ?_
  rintro e u1 ⟨v, rfl, hsm, hx0⟩
  have hs : Ext w u1 := Ext.trans (by repeat (first | with_reducible exact Ext.refl _ | with_reducible refine Ext.alloc ?_ _ | with_reducible refine Ext.drew1 ?_)) hx0
  replace HL := Lib.hid (HL.out.ext hs)
  replace HT := Lib.hid (HT.out.ext hs)
  have hx1 := hx.trans hs
  clear hx hs hx0
  have hx := hx1
  clear hx1
  dsimp only
  have HS := Lib.hid hsm
  clear hsm HGR
  cases v
  rotate_left
  · go_wp2_with fail
    refine (HAW.out _ (hx.trans (by repeat (first | with_reducible exact Ext.refl _ | with_reducible refine Ext.alloc ?_ _ | with_reducible refine Ext.drew1 ?_)))).mono ?_
    rintro e u2 ⟨rfl, hx0⟩
    have hs : Ext u1 u2 := Ext.trans (by repeat (first | with_reducible exact Ext.refl _ | with_reducible refine Ext.alloc ?_ _ | with_reducible refine Ext.drew1 ?_)) hx0
    replace HL := Lib.hid (HL.out.ext hs)
    replace HT := Lib.hid (HT.out.ext hs)
    have hx1 := hx.trans hs
    clear hx hs hx0
    have hx := hx1
    clear hx1
    dsimp only
    go_wp2_with fail
    (go_ret; refine Ret.mk ?_ ?_; (focus (rfl; done)); (focus (exact EX; done)))
  have S1 : Small l := HS.out rfl
  have F1 := Lib.hid S1.fits
  have m8 : m ≤ 8 := by have := S1.1; have := HM.out; omega
  clear HS S1
  by_cases h0 : m = 0
  · subst h0
    go_wp2_with fail
    refine (HAW.out _ (hx.trans (by repeat (first | with_reducible exact Ext.refl _ | with_reducible refine Ext.alloc ?_ _ | with_reducible refine Ext.drew1 ?_)))).mono ?_
    rintro e u2 ⟨rfl, hx0⟩
    have hs : Ext u1 u2 := Ext.trans (by repeat (first | with_reducible exact Ext.refl _ | with_reducible refine Ext.alloc ?_ _ | with_reducible refine Ext.drew1 ?_)) hx0
    replace HL := Lib.hid (HL.out.ext hs)
    replace HT := Lib.hid (HT.out.ext hs)
    have hx1 := hx.trans hs
    clear hx hs hx0
    have hx := hx1
    clear hx1
    dsimp only
    go_wp2_with fail
    (go_ret; refine Ret.mk ?_ ?_; (focus (rfl; done)); (focus (exact EX; done)))
  have h0' : ¬ ((m : Int) = 0) := by omega
  obtain ⟨i, hi, him⟩ : ∃ i : Nat, ((i0 : Int) % (m : Int)) = i ∧ i < m := ⟨i0 % m, (Int.natCast_emod i0 m).symm, Nat.mod_lt _ (by omega)⟩
  obtain ⟨k, hk, hkm⟩ : ∃ k : Nat, ((k0 : Int) % (m : Int)) = k ∧ k < m := ⟨k0 % m, (Int.natCast_emod k0 m).symm, Nat.mod_lt _ (by omega)⟩
  go_wp2_with fail
  go_region
  go_wp2_with fail
  refine (move_any B m cB i k l _ (HG.out.ext (hx.trans (by repeat (first | with_reducible exact Ext.refl _ | with_reducible refine Ext.alloc ?_ _ | with_reducible refine Ext.drew1 ?_)))) (HL.out.ext (by repeat (first | with_reducible exact Ext.refl _ | with_reducible refine Ext.alloc ?_ _ | with_reducible refine Ext.drew1 ?_))) HM.out him hkm (by omega) F1.out).mono ?_
  rintro e u2 ⟨hres, hx0⟩
  have hs : Ext u1 u2 := Ext.trans (by repeat (first | with_reducible exact Ext.refl _ | with_reducible refine Ext.alloc ?_ _ | with_reducible refine Ext.drew1 ?_)) hx0
  replace HL := Lib.hid (HL.out.ext hs)
  replace HT := Lib.hid (HT.out.ext hs)
  have hx1 := hx.trans hs
  clear hx hs hx0
  have hx := hx1
  clear hx1
  rcases hres with ⟨hm, rfl⟩ | ⟨M, g, hm, rfl, hgw, HO⟩
  · have hik : ¬ ((i : Int) = k) := fun e => by
      have e' : i = k := by omega
      rw [e', Sq.move_self (by rw [HM.out]; exact hkm)] at hm
      cases hm
    have hik2 : ((i : Int) != (k : Int)) = true := by simpa using hik
    clear hm
    go_wp2_with fail
    refine (HAW.out _ (hx.trans (by repeat (first | with_reducible exact Ext.refl _ | with_reducible refine Ext.alloc ?_ _ | with_reducible refine Ext.drew1 ?_)))).mono ?_
    rintro e u3 ⟨rfl, hx0⟩
    have hs : Ext u2 u3 := Ext.trans (by repeat (first | with_reducible exact Ext.refl _ | with_reducible refine Ext.alloc ?_ _ | with_reducible refine Ext.drew1 ?_)) hx0
    replace HL := Lib.hid (HL.out.ext hs)
    replace HT := Lib.hid (HT.out.ext hs)
    have hx1 := hx.trans hs
    clear hx hs hx0
    have hx := hx1
    clear hx1
    dsimp only
    go_wp2_with fail
    (go_ret; refine Ret.mk ?_ ?_; (focus ((simp [hik2]); done)); (focus (exact EX; done)))
  · have HQM := Lib.hid (HO.out.qs.mono (G := fun _ => True) fun _ _ => trivial)
    have HBK := Lib.hid (Um.move_back hm)
    have HML := Lib.hid ((Sq.move_length hm).trans HM.out)
    have HMF := Lib.hid (Sq.move_fits hm F1.out)
    have HLK : Hid (Um.Like (Um.apply t l) (Um.apply t M)) := Lib.hid (Um.moved_law hm t).2
    have HLN : Hid ((Um.apply t l).2.2 = 0 → (Um.apply t l).1.length ≤ 200) := Lib.hid apply_all_len
    have HA1 := Lib.hid (fun W (hT : Trs W A t) (hQ : Qs W (fun _ => True) B l) (hG : Glob W) => seqapply_any A B n cA m cB t l W hG hT HN.out hQ HM.out b1 (by omega) F1.out)
    have HA2 := Lib.hid (fun W C k cC (hT : Trs W A t) (hQ : Qs W (fun _ => True) C M) (hk : (M).length = k) (hk8 : k ≤ 8) (hG : Glob W) => seqapply_any A C n cA k cC t (M) W hG hT HN.out hQ hk b1 (by omega) HMF.out)
    generalize Um.apply t l = R1 at HLK HLN HA1
    generalize Um.apply t M = R2 at HLK HA2
    obtain ⟨r1, k1, e1⟩ := R1
    obtain ⟨r2, k2, e2⟩ := R2
    clear hm hgw HO
    go_wp2_with fail
    refine (move_any (some ⟨g, 0, none⟩) m m k i M _ (HG.out.ext (hx.trans (by repeat (first | with_reducible exact Ext.refl _ | with_reducible refine Ext.alloc ?_ _ | with_reducible refine Ext.drew1 ?_)))) (HQM.out.ext (by repeat (first | with_reducible exact Ext.refl _ | with_reducible refine Ext.alloc ?_ _ | with_reducible refine Ext.drew1 ?_))) HML.out hkm him (by omega) HMF.out).mono ?_
    rintro e u3 ⟨hres, hx0⟩
    have hs : Ext u2 u3 := Ext.trans (by repeat (first | with_reducible exact Ext.refl _ | with_reducible refine Ext.alloc ?_ _ | with_reducible refine Ext.drew1 ?_)) hx0
    replace HL := Lib.hid (HL.out.ext hs)
    replace HT := Lib.hid (HT.out.ext hs)
    replace HQM := Lib.hid (HQM.out.ext hs)
    have hx1 := hx.trans hs
    clear hx hs hx0
    have hx := hx1
    clear hx1
    rcases hres with ⟨hm, rfl⟩ | ⟨M2, g2, hm, rfl, hgw, HO⟩
    · exact nomatch hm.symm.trans HBK.out
    obtain rfl : M2 = l := Option.some.inj (hm.symm.trans HBK.out)
    have HQB := Lib.hid (HO.out.qs.mono (G := fun _ => True) fun _ _ => trivial)
    clear hm hgw HO HBK
    go_wp2_with fail
    refine (samelist_true (some ⟨g2, 0, none⟩) B m m cB M2 _ (HQB.out.ext (by repeat (first | with_reducible exact Ext.refl _ | with_reducible refine Ext.alloc ?_ _ | with_reducible refine Ext.drew1 ?_))) (HL.out.ext (by repeat (first | with_reducible exact Ext.refl _ | with_reducible refine Ext.alloc ?_ _ | with_reducible refine Ext.drew1 ?_))) HM.out (by omega) F1.out).mono ?_
    rintro e u4 ⟨rfl, hx0⟩
    have hs : Ext u3 u4 := Ext.trans (by repeat (first | with_reducible exact Ext.refl _ | with_reducible refine Ext.alloc ?_ _ | with_reducible refine Ext.drew1 ?_)) hx0
    replace HL := Lib.hid (HL.out.ext hs)
    replace HT := Lib.hid (HT.out.ext hs)
    replace HQM := Lib.hid (HQM.out.ext hs)
    replace HQB := Lib.hid (HQB.out.ext hs)
    have hx1 := hx.trans hs
    clear hx hs hx0
    have hx := hx1
    clear hx1
    dsimp only
    go_wp2_with fail
    refine (HA1.out _ (HT.out.ext (by repeat (first | with_reducible exact Ext.refl _ | with_reducible refine Ext.alloc ?_ _ | with_reducible refine Ext.drew1 ?_))) (HL.out.ext (by repeat (first | with_reducible exact Ext.refl _ | with_reducible refine Ext.alloc ?_ _ | with_reducible refine Ext.drew1 ?_))) (HG.out.ext (hx.trans (by repeat (first | with_reducible exact Ext.refl _ | with_reducible refine Ext.alloc ?_ _ | with_reducible refine Ext.drew1 ?_))))).mono ?_
    rintro e u5 ⟨X1, nx1, cx1, rfl, hnx1, hX1, hx0⟩
    have hs : Ext u4 u5 := Ext.trans (by repeat (first | with_reducible exact Ext.refl _ | with_reducible refine Ext.alloc ?_ _ | with_reducible refine Ext.drew1 ?_)) hx0
    replace HL := Lib.hid (HL.out.ext hs)
    replace HT := Lib.hid (HT.out.ext hs)
    replace HQM := Lib.hid (HQM.out.ext hs)
    replace HQB := Lib.hid (HQB.out.ext hs)
    have hx1 := hx.trans hs
    clear hx hs hx0
    have hx := hx1
    clear hx1
    dsimp only
    have HX1 := hX1
    have HN1 := Lib.hid hnx1
    clear hX1 hnx1 HA1
    go_wp2_with fail
    refine (HA2.out _ (some ⟨g, 0, none⟩) m m (HT.out.ext (by repeat (first | with_reducible exact Ext.refl _ | with_reducible refine Ext.alloc ?_ _ | with_reducible refine Ext.drew1 ?_))) (HQM.out.ext (by repeat (first | with_reducible exact Ext.refl _ | with_reducible refine Ext.alloc ?_ _ | with_reducible refine Ext.drew1 ?_))) HML.out (by omega) (HG.out.ext (hx.trans (by repeat (first | with_reducible exact Ext.refl _ | with_reducible refine Ext.alloc ?_ _ | with_reducible refine Ext.drew1 ?_))))).mono ?_
    rintro e u6 ⟨X2, nx2, cx2, rfl, hnx2, hX2, hx0⟩
    have hs : Ext u5 u6 := Ext.trans (by repeat (first | with_reducible exact Ext.refl _ | with_reducible refine Ext.alloc ?_ _ | with_reducible refine Ext.drew1 ?_)) hx0
    replace HL := Lib.hid (HL.out.ext hs)
    replace HT := Lib.hid (HT.out.ext hs)
    replace HQM := Lib.hid (HQM.out.ext hs)
    replace HQB := Lib.hid (HQB.out.ext hs)
    replace HX1 := Lib.hid (HX1.out.ext hs)
    have hx1 := hx.trans hs
    clear hx hs hx0
    have hx := hx1
    clear hx1
    dsimp only
    have HX2 := hX2
    have HN2 := Lib.hid hnx2
    clear hX2 hnx2 HA2
    by_cases hE : e1 = 0
    rotate_left
    · go_wp2_with fail
      refine (HAW.out _ (hx.trans (by repeat (first | with_reducible exact Ext.refl _ | with_reducible refine Ext.alloc ?_ _ | with_reducible refine Ext.drew1 ?_)))).mono ?_
      rintro e u7 ⟨rfl, hx0⟩
      have hs : Ext u6 u7 := Ext.trans (by repeat (first | with_reducible exact Ext.refl _ | with_reducible refine Ext.alloc ?_ _ | with_reducible refine Ext.drew1 ?_)) hx0
      replace HL := Lib.hid (HL.out.ext hs)
      replace HT := Lib.hid (HT.out.ext hs)
      replace HQM := Lib.hid (HQM.out.ext hs)
      replace HQB := Lib.hid (HQB.out.ext hs)
      replace HX1 := Lib.hid (HX1.out.ext hs)
      replace HX2 := Lib.hid (HX2.out.ext hs)
      have hx1 := hx.trans hs
      clear hx hs hx0
      have hx := hx1
      clear hx1
      dsimp only
      go_wp2_with fail
      (go_ret; refine Ret.mk ?_ ?_; (focus (rfl; done)); (focus (exact EX; done)))
    subst hE
    by_cases hF : Um.Lim e2
    · go_wp2_with fail
      refine (limited_yes _ hF).mono ?_
      rintro e u7 ⟨rfl, hx0⟩
      have hs : Ext u6 u7 := Ext.trans (by repeat (first | with_reducible exact Ext.refl _ | with_reducible refine Ext.alloc ?_ _ | with_reducible refine Ext.drew1 ?_)) hx0
      replace HL := Lib.hid (HL.out.ext hs)
      replace HT := Lib.hid (HT.out.ext hs)
      replace HQM := Lib.hid (HQM.out.ext hs)
      replace HQB := Lib.hid (HQB.out.ext hs)
      replace HX1 := Lib.hid (HX1.out.ext hs)
      replace HX2 := Lib.hid (HX2.out.ext hs)
      have hx1 := hx.trans hs
      clear hx hs hx0
      have hx := hx1
      clear hx1
      dsimp only
      go_wp2_with fail
      refine (HAW.out _ (hx.trans (by repeat (first | with_reducible exact Ext.refl _ | with_reducible refine Ext.alloc ?_ _ | with_reducible refine Ext.drew1 ?_)))).mono ?_
      rintro e u8 ⟨rfl, hx0⟩
      have hs : Ext u7 u8 := Ext.trans (by repeat (first | with_reducible exact Ext.refl _ | with_reducible refine Ext.alloc ?_ _ | with_reducible refine Ext.drew1 ?_)) hx0
      replace HL := Lib.hid (HL.out.ext hs)
      replace HT := Lib.hid (HT.out.ext hs)
      replace HQM := Lib.hid (HQM.out.ext hs)
      replace HQB := Lib.hid (HQB.out.ext hs)
      replace HX1 := Lib.hid (HX1.out.ext hs)
      replace HX2 := Lib.hid (HX2.out.ext hs)
      have hx1 := hx.trans hs
      clear hx hs hx0
      have hx := hx1
      clear hx1
      dsimp only
      go_wp2_with fail
      (go_ret; refine Ret.mk ?_ ?_; (focus (rfl; done)); (focus (exact EX; done)))
    obtain ⟨rfl, hrr⟩ : e2 = 0 ∧ r2 = r1 := by
      rcases HLK.out with k | k | k
      · exact (k rfl).elim
      · exact (hF k).elim
      · exact k
    subst hrr
    have HL1 : Hid (nx1 ≤ 200) := Lib.hid (by have := HLN.out rfl; have := HN1.out; dsimp only at *; omega)
    have HL2 : Hid (nx2 ≤ 200) := Lib.hid (by have := HLN.out rfl; have := HN2.out; dsimp only at *; omega)
    go_wp2_with fail
    refine (limited_no _ hF).mono ?_
    rintro e u7 ⟨rfl, hx0⟩
    have hs : Ext u6 u7 := Ext.trans (by repeat (first | with_reducible exact Ext.refl _ | with_reducible refine Ext.alloc ?_ _ | with_reducible refine Ext.drew1 ?_)) hx0
    replace HL := Lib.hid (HL.out.ext hs)
    replace HT := Lib.hid (HT.out.ext hs)
    replace HQM := Lib.hid (HQM.out.ext hs)
    replace HQB := Lib.hid (HQB.out.ext hs)
    replace HX1 := Lib.hid (HX1.out.ext hs)
    replace HX2 := Lib.hid (HX2.out.ext hs)
    have hx1 := hx.trans hs
    clear hx hs hx0
    have hx := hx1
    clear hx1
    dsimp only
    go_wp2_with fail
    refine (sametree_any X1 X2 nx1 nx2 cx1 cx2 r2 r2 _ (HX1.out.ext (by repeat (first | with_reducible exact Ext.refl _ | with_reducible refine Ext.alloc ?_ _ | with_reducible refine Ext.drew1 ?_))) (HX2.out.ext (by repeat (first | with_reducible exact Ext.refl _ | with_reducible refine Ext.alloc ?_ _ | with_reducible refine Ext.drew1 ?_))) HN1.out.symm HN2.out.symm (by have := HL1.out; omega) (by have := HL2.out; omega)).mono ?_
    rintro e u8 ⟨rfl, hx0⟩
    have hs : Ext u7 u8 := Ext.trans (by repeat (first | with_reducible exact Ext.refl _ | with_reducible refine Ext.alloc ?_ _ | with_reducible refine Ext.drew1 ?_)) hx0
    replace HL := Lib.hid (HL.out.ext hs)
    replace HT := Lib.hid (HT.out.ext hs)
    replace HQM := Lib.hid (HQM.out.ext hs)
    replace HQB := Lib.hid (HQB.out.ext hs)
    replace HX1 := Lib.hid (HX1.out.ext hs)
    replace HX2 := Lib.hid (HX2.out.ext hs)
    have hx1 := hx.trans hs
    clear hx hs hx0
    have hx := hx1
    clear hx1
    rw [decide_eq_true rfl]
    go_wp2_with fail
    refine (HAW.out _ (hx.trans (by repeat (first | with_reducible exact Ext.refl _ | with_reducible refine Ext.alloc ?_ _ | with_reducible refine Ext.drew1 ?_)))).mono ?_
    rintro e u9 ⟨rfl, hx0⟩
    have hs : Ext u8 u9 := Ext.trans (by repeat (first | with_reducible exact Ext.refl _ | with_reducible refine Ext.alloc ?_ _ | with_reducible refine Ext.drew1 ?_)) hx0
    replace HL := Lib.hid (HL.out.ext hs)
    replace HT := Lib.hid (HT.out.ext hs)
    replace HQM := Lib.hid (HQM.out.ext hs)
    replace HQB := Lib.hid (HQB.out.ext hs)
    replace HX1 := Lib.hid (HX1.out.ext hs)
    replace HX2 := Lib.hid (HX2.out.ext hs)
    have hx1 := hx.trans hs
    clear hx hs hx0
    have hx := hx1
    clear hx1
    dsimp only
    go_wp2_with fail
    (go_ret; refine Ret.mk ?_ ?_; (focus (rfl; done)); (focus (exact EX; done)))
end Go.Proofs.YtfmgnaigcibcaaaGreatDoor
