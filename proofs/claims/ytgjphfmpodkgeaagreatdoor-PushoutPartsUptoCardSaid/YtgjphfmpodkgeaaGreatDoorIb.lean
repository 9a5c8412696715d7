/- Walks: merging in two parts. -/
import Derived.Test.YtgjphfmpodkgeaaGreatDoorAx
import Derived.Test.YtgjphfmpodkgeaaGreatDoorGr
set_option linter.unusedSimpArgs false
set_option linter.unusedVariables false
namespace Go.Proofs.YtgjphfmpodkgeaaGreatDoor
open Go Go.RowKit
attribute [local go_sem ↓] Go.wp_at_zero Go.wp_at_succ

/-- Behind a call: the list may lie among new memory too. -/
theorem Qs.all {w : World} {F : Nat → Prop} {A : Option Addr} {l : List Qp} (h : Qs w F A l) : Qs w (fun _ => True) A l := h.mono fun _ _ => trivial
/-- A merge that goes through, the strings anywhere. -/
theorem seqmerge_go {A B : Option Addr} {n cA m cB : Nat} {a b : List Qp} {w : World} (hg : Glob w) (ha : Qs w (fun _ => True) A a) (hb : Qs w (fun _ => True) B b) (hn : a.length = n) (hm : b.length = m) (hB : B = none → m = 0 ∧ cB = 0)
    (b1 : n ≤ 100000000000) (b2 : m ≤ 100000000000) (fa : ∀ q ∈ a, q.Fits) (fb : ∀ q ∈ b, q.Fits) {t : List Qp × List Qp} (ht : Sq.merge a b = .ok t) :
    Calls Tryz.prog 14 #[.slice A n cA, .slice B m cB] w (fun e w' => ∃ A1 c1 A2 c2, e = .returned (.tuple #[.slice A1 m c1, .slice A2 n c2, .agg #[.int .i64 0, .int .i64 0], .bool true]) ∧ Hid (Qs w' (fun _ => True) A1 t.1) ∧ Hid (Qs w' (fun _ => True) A2 t.2) ∧ Hid ((A1 = none → c1 = 0) ∧ (A2 = none → c2 = 0)) ∧ Ext w w') := by
  refine (seqmerge_ok hg ha hb hn hm hB b1 b2 fa fb ht).mono ?_
  rintro e w' ⟨A1, c1, A2, c2, rfl, hq, hx⟩
  exact ⟨A1, c1, A2, c2, rfl, Lib.hid hq.out.1.all, Lib.hid hq.out.2.1.all, Lib.hid ⟨hq.out.2.2.1, hq.out.2.2.2⟩, hx⟩
theorem join_go {A B : Option Addr} {n c m d : Nat} {a b : List Qp} {w : World} (ha : Qs w (fun _ => True) A a) (hb : Qs w (fun _ => True) B b) (hn : a.length = n) (hm : b.length = m) (b1 : n ≤ 100000000000) (b2 : m ≤ 100000000000) :
    Calls Tryz.prog 16 #[.slice A n c, .slice B m d] w (fun e w' => ∃ C cc, e = .returned (.slice C (n + m : Nat) cc) ∧ Hid (Qs w' (fun _ => True) C (a ++ b)) ∧ Ext w w') := by
  refine (join_any A B n c m d a b w ha hb hn hm b1 b2).mono ?_
  rintro e w' ⟨C, cc, rfl, hq, _, hx⟩
  exact ⟨C, cc, rfl, Lib.hid hq.out.all, hx⟩
theorem merge_fitting {a b : List Qp} {t : List Qp × List Qp} (ht : Sq.merge a b = .ok t) (fa : ∀ q ∈ a, q.Fits) (fb : ∀ q ∈ b, q.Fits) : (∀ q ∈ t.1, q.Fits) ∧ ∀ q ∈ t.2, q.Fits := by
  induction a generalizing b t with
  | nil =>
    obtain rfl := Except.ok.inj ht
    exact ⟨fb, fun q hq => by cases hq⟩
  | cons x a ih =>
    unfold Sq.merge at ht
    split at ht
    · cases ht
    · rename_i r hr
      split at ht
      · rename_i u hu
        obtain rfl := Except.ok.inj ht
        obtain ⟨f1, f2⟩ := carried_fits hr (fa x (List.mem_cons_self ..))
        obtain ⟨g1, g2⟩ := ih hu (fun q hq => fa q (List.mem_cons_of_mem _ hq)) f2
        refine ⟨g1, fun q hq => ?_⟩
        rcases List.mem_cons.1 hq with rfl | hq
        · exact f1
        · exact g2 q hq
      · cases ht

set_option maxHeartbeats 16000000 in
set_option maxRecDepth 100000 in
theorem parts_walk (A B C : Option Addr) (n cA m cB k cC : Nat) (a s c : List Qp) (w : World) (hg : Glob w) (ha : Qs w (fun _ => True) A a) (hb : Qs w (fun _ => True) B s) (hc : Qs w (fun _ => True) C c) (hn : a.length = n) (hm : s.length = m) (hk : c.length = k) (hC : C = none → cC = 0) (hkC : k ≤ cC)
    (b1 : n ≤ 1048576) (b2 : m ≤ 1048576) (b3 : k ≤ 1048576)
    (s1 : ∀ q ∈ a, q.old.length ≤ 1152921504606846976 ∧ q.new.length ≤ 1152921504606846976) (s2 : ∀ q ∈ s, q.old.length ≤ 1152921504606846976 ∧ q.new.length ≤ 1152921504606846976) (s3 : ∀ q ∈ c, q.old.length ≤ 1152921504606846976 ∧ q.new.length ≤ 1152921504606846976) :
    Calls Tryz.prog 4 #[.slice A n cA, .slice B m cB, .slice C k cC] w (Ret (.bool true) w) := by
  have HA := Lib.hid ha
  have HB := Lib.hid hb
  have HC := Lib.hid hc
  have HN := Lib.hid hn
  have HM := Lib.hid hm
  have HK := Lib.hid hk
  have HAW := Lib.hid (fun W (hW : Ext w W) => awake15_any W (hg.ext hW))
  have HCn : Hid (C = none → k = 0 ∧ cC = 0) := Lib.hid fun e => ⟨by have := hC e; omega, hC e⟩
  have HG := Lib.hid hg
  have HGR : Hid (∀ W g t D d, Blk W g t #[.slice D (n + m : Nat) d, .slice C k cC] → Qs W (fun _ => True) D (a ++ s) → Qs W (fun _ => True) C c → Calls Tryz.prog 12 #[.slice (some ⟨g, 0, none⟩) 2 2] W (Tells (Seqs.small [(D, a ++ s, d), (C, c, cC)]) W)) := Lib.hid fun W g t D d hb h1 h2 => lawgreat15_any g t [(D, a ++ s, d), (C, c, cC)] 2 W (by unfold Seqs.cells; simpa [hn, hm, hk] using hb) rfl (fun x hx => by
    rcases List.mem_cons.1 hx with rfl | hx
    · exact ⟨⟨_, h1⟩, by simp [hn, hm]; omega, fun q hq => (List.mem_append.1 hq).elim (s1 q) (s2 q)⟩
    · obtain rfl : x = (C, c, cC) := by simpa using hx
      exact ⟨⟨_, h2⟩, by dsimp only; omega, s3⟩) (by omega)
  clear ha hb hc hn hm hk s1 s2 s3 hC hg
  go_enter Tryz.func4, Tryz.ntmps4
  have hx := Ext.refl w
  go_wp2_with fail
  refine (join_go (HA.out.ext (by repeat (first | with_reducible exact Ext.refl _ | with_reducible refine Ext.alloc ?_ _))) (HB.out.ext (by repeat (first | with_reducible exact Ext.refl _ | with_reducible refine Ext.alloc ?_ _))) HN.out HM.out (by omega) (by omega)).mono ?_
  rintro e u1 ⟨D, d, rfl, HD, hx0⟩
  have hs : Ext w u1 := Ext.trans (by repeat (first | with_reducible exact Ext.refl _ | with_reducible refine Ext.alloc ?_ _)) hx0
  replace HA := Lib.hid (HA.out.ext hs)
  replace HB := Lib.hid (HB.out.ext hs)
  replace HC := Lib.hid (HC.out.ext hs)
  have hx1 := hx.trans hs
  clear hx hs hx0
  have hx := hx1
  clear hx1
  dsimp only
  go_wp2_with fail
  refine (HGR.out _ _ _ D d (Blk.new' rfl) (HD.out.ext (by repeat (first | with_reducible exact Ext.refl _ | with_reducible refine Ext.alloc ?_ _))) (HC.out.ext (by repeat (first | with_reducible exact Ext.refl _ | with_reducible refine Ext.alloc ?_ _)))).mono ?_
  rintro e u2 ⟨v, rfl, hsm, hx0⟩
  have hs : Ext u1 u2 := Ext.trans (by repeat (first | with_reducible exact Ext.refl _ | with_reducible refine Ext.alloc ?_ _)) hx0
  replace HA := Lib.hid (HA.out.ext hs)
  replace HB := Lib.hid (HB.out.ext hs)
  replace HC := Lib.hid (HC.out.ext hs)
  replace HD := Lib.hid (HD.out.ext hs)
  have hx1 := hx.trans hs
  clear hx hs hx0
  have hx := hx1
  clear hx1
  dsimp only
  have HS := Lib.hid hsm
  clear hsm HGR
  cases v
  rotate_left
  · go_wp2_with fail
    refine (HAW.out _ (hx.trans (by repeat (first | with_reducible exact Ext.refl _ | with_reducible refine Ext.alloc ?_ _)))).mono ?_
    rintro e u3 ⟨rfl, hx0⟩
    have hs : Ext u2 u3 := Ext.trans (by repeat (first | with_reducible exact Ext.refl _ | with_reducible refine Ext.alloc ?_ _)) hx0
    replace HA := Lib.hid (HA.out.ext hs)
    replace HB := Lib.hid (HB.out.ext hs)
    replace HC := Lib.hid (HC.out.ext hs)
    replace HD := Lib.hid (HD.out.ext hs)
    have hx1 := hx.trans hs
    clear hx hs hx0
    have hx := hx1
    clear hx1
    dsimp only
    go_wp2_with fail
    (go_ret; refine Ret.mk ?_ ?_; (focus (rfl; done)); (focus ((repeat (first | with_reducible exact hx | with_reducible exact Ext.refl _ | with_reducible refine Ext.alloc ?_ _ | with_reducible refine Ext.drewN ?_ _ | with_reducible refine Ext.drew1 ?_ | ((with_reducible refine Ext.setCell ?_ ?_ _); rotate_left; (focus (first | (dsimp only; omega) | (simp; done) | (simp; omega)))))); done)))
  have S1 : Small (a ++ s) := HS.out rfl (D, a ++ s, d) (by simp)
  have S2 : Small c := HS.out rfl (C, c, cC) (by simp)
  have F1 : Hid (∀ q ∈ a, q.Fits) := Lib.hid fun q hq => S1.fits q (List.mem_append_left _ hq)
  have F2 : Hid (∀ q ∈ s, q.Fits) := Lib.hid fun q hq => S1.fits q (List.mem_append_right _ hq)
  have F3 := Lib.hid S2.fits
  have F4 := Lib.hid S1.fits
  have HL : Hid ((a ++ s).length = n + m) := Lib.hid (by have := HN.out; have := HM.out; simp; omega)
  clear HS S1 S2 HD
  go_wp2_with fail
  refine (join_go (HA.out.ext (by repeat (first | with_reducible exact Ext.refl _ | with_reducible refine Ext.alloc ?_ _))) (HB.out.ext (by repeat (first | with_reducible exact Ext.refl _ | with_reducible refine Ext.alloc ?_ _))) HN.out HM.out (by omega) (by omega)).mono ?_
  rintro e u3 ⟨D2, d2, rfl, HD, hx0⟩
  have hs : Ext u2 u3 := Ext.trans (by repeat (first | with_reducible exact Ext.refl _ | with_reducible refine Ext.alloc ?_ _)) hx0
  replace HA := Lib.hid (HA.out.ext hs)
  replace HB := Lib.hid (HB.out.ext hs)
  replace HC := Lib.hid (HC.out.ext hs)
  have hx1 := hx.trans hs
  clear hx hs hx0
  have hx := hx1
  clear hx1
  dsimp only
  cases h2 : Sq.merge a c with
  | error p =>
    obtain ⟨i, j⟩ := p
    have h1 : Sq.merge (a ++ s) c = .error (i, j) := by rw [Sq.merge_append, h2]
    have H1 := Lib.hid h1
    have H2 := Lib.hid h2
    clear h1 h2
    go_wp2_with fail
    refine (seqmerge_bad (HG.out.ext (hx.trans (by repeat (first | with_reducible exact Ext.refl _ | with_reducible refine Ext.alloc ?_ _)))) (HD.out.ext (by repeat (first | with_reducible exact Ext.refl _ | with_reducible refine Ext.alloc ?_ _))) (HC.out.ext (by repeat (first | with_reducible exact Ext.refl _ | with_reducible refine Ext.alloc ?_ _))) HL.out HK.out HCn.out (by omega) (by omega) F4.out F3.out H1.out).mono ?_
    rintro e u4 ⟨rfl, hx0⟩
    have hs : Ext u3 u4 := Ext.trans (by repeat (first | with_reducible exact Ext.refl _ | with_reducible refine Ext.alloc ?_ _)) hx0
    replace HA := Lib.hid (HA.out.ext hs)
    replace HB := Lib.hid (HB.out.ext hs)
    replace HC := Lib.hid (HC.out.ext hs)
    replace HD := Lib.hid (HD.out.ext hs)
    have hx1 := hx.trans hs
    clear hx hs hx0
    have hx := hx1
    clear hx1
    dsimp only
    go_wp2_with fail
    refine (seqmerge_bad (HG.out.ext (hx.trans (by repeat (first | with_reducible exact Ext.refl _ | with_reducible refine Ext.alloc ?_ _)))) (HA.out.ext (by repeat (first | with_reducible exact Ext.refl _ | with_reducible refine Ext.alloc ?_ _))) (HC.out.ext (by repeat (first | with_reducible exact Ext.refl _ | with_reducible refine Ext.alloc ?_ _))) HN.out HK.out HCn.out (by omega) (by omega) F1.out F3.out H2.out).mono ?_
    rintro e u5 ⟨rfl, hx0⟩
    have hs : Ext u4 u5 := Ext.trans (by repeat (first | with_reducible exact Ext.refl _ | with_reducible refine Ext.alloc ?_ _)) hx0
    replace HA := Lib.hid (HA.out.ext hs)
    replace HB := Lib.hid (HB.out.ext hs)
    replace HC := Lib.hid (HC.out.ext hs)
    replace HD := Lib.hid (HD.out.ext hs)
    have hx1 := hx.trans hs
    clear hx hs hx0
    have hx := hx1
    clear hx1
    dsimp only
    go_wp2_with fail
    refine (HAW.out _ (hx.trans (by repeat (first | with_reducible exact Ext.refl _ | with_reducible refine Ext.alloc ?_ _)))).mono ?_
    rintro e u6 ⟨rfl, hx0⟩
    have hs : Ext u5 u6 := Ext.trans (by repeat (first | with_reducible exact Ext.refl _ | with_reducible refine Ext.alloc ?_ _)) hx0
    replace HA := Lib.hid (HA.out.ext hs)
    replace HB := Lib.hid (HB.out.ext hs)
    replace HC := Lib.hid (HC.out.ext hs)
    replace HD := Lib.hid (HD.out.ext hs)
    have hx1 := hx.trans hs
    clear hx hs hx0
    have hx := hx1
    clear hx1
    dsimp only
    go_wp2_with fail
    (go_ret; refine Ret.mk ?_ ?_; (focus (rfl; done)); (focus ((repeat (first | with_reducible exact hx | with_reducible exact Ext.refl _ | with_reducible refine Ext.alloc ?_ _ | with_reducible refine Ext.drewN ?_ _ | with_reducible refine Ext.drew1 ?_ | ((with_reducible refine Ext.setCell ?_ ?_ _); rotate_left; (focus (first | (dsimp only; omega) | (simp; done) | (simp; omega)))))); done)))
  | ok r =>
    have lr := (Sq.merge_length h2).1
    have HLY : Hid (r.1.length = k) := Lib.hid (lr.trans HK.out)
    have F5 := Lib.hid (merge_fitting h2 F1.out F3.out).1
    have F6 := Lib.hid (merge_fitting h2 F1.out F3.out).2
    have HLO : Hid (r.2.length = n) := Lib.hid ((Sq.merge_length h2).2.trans HN.out)
    clear lr
    cases h3 : Sq.merge s r.1 with
    | error p =>
      obtain ⟨i, j⟩ := p
      have h1 : Sq.merge (a ++ s) c = .error (i + a.length, j) := by rw [Sq.merge_append, h2]; dsimp only; rw [h3]
      have H1 := Lib.hid h1
      have H2 := Lib.hid h2
      have H3 := Lib.hid h3
      clear h1 h2 h3
      go_wp2_with fail
      refine (seqmerge_bad (HG.out.ext (hx.trans (by repeat (first | with_reducible exact Ext.refl _ | with_reducible refine Ext.alloc ?_ _)))) (HD.out.ext (by repeat (first | with_reducible exact Ext.refl _ | with_reducible refine Ext.alloc ?_ _))) (HC.out.ext (by repeat (first | with_reducible exact Ext.refl _ | with_reducible refine Ext.alloc ?_ _))) HL.out HK.out HCn.out (by omega) (by omega) F4.out F3.out H1.out).mono ?_
      rintro e u4 ⟨rfl, hx0⟩
      have hs : Ext u3 u4 := Ext.trans (by repeat (first | with_reducible exact Ext.refl _ | with_reducible refine Ext.alloc ?_ _)) hx0
      replace HA := Lib.hid (HA.out.ext hs)
      replace HB := Lib.hid (HB.out.ext hs)
      replace HC := Lib.hid (HC.out.ext hs)
      replace HD := Lib.hid (HD.out.ext hs)
      have hx1 := hx.trans hs
      clear hx hs hx0
      have hx := hx1
      clear hx1
      dsimp only
      go_wp2_with fail
      refine (seqmerge_go (HG.out.ext (hx.trans (by repeat (first | with_reducible exact Ext.refl _ | with_reducible refine Ext.alloc ?_ _)))) (HA.out.ext (by repeat (first | with_reducible exact Ext.refl _ | with_reducible refine Ext.alloc ?_ _))) (HC.out.ext (by repeat (first | with_reducible exact Ext.refl _ | with_reducible refine Ext.alloc ?_ _))) HN.out HK.out HCn.out (by omega) (by omega) F1.out F3.out H2.out).mono ?_
      rintro e u5 ⟨A1, c1, A2, c2, rfl, HY, HO, Hn, hx0⟩
      have hs : Ext u4 u5 := Ext.trans (by repeat (first | with_reducible exact Ext.refl _ | with_reducible refine Ext.alloc ?_ _)) hx0
      replace HA := Lib.hid (HA.out.ext hs)
      replace HB := Lib.hid (HB.out.ext hs)
      replace HC := Lib.hid (HC.out.ext hs)
      replace HD := Lib.hid (HD.out.ext hs)
      have hx1 := hx.trans hs
      clear hx hs hx0
      have hx := hx1
      clear hx1
      dsimp only
      have HYn : Hid (A1 = none → k = 0 ∧ c1 = 0) := Lib.hid fun e => by
        have h0 := Hn.out.1 e
        subst e
        refine ⟨?_, h0⟩
        have hl := HLY.out
        rcases Nat.eq_zero_or_pos k with hk | hk
        · exact hk
        · obtain ⟨b, o, e⟩ := HY.out.some (by omega)
          cases e
      go_wp2_with fail
      refine (seqmerge_bad (HG.out.ext (hx.trans (by repeat (first | with_reducible exact Ext.refl _ | with_reducible refine Ext.alloc ?_ _)))) (HB.out.ext (by repeat (first | with_reducible exact Ext.refl _ | with_reducible refine Ext.alloc ?_ _))) (HY.out.ext (by repeat (first | with_reducible exact Ext.refl _ | with_reducible refine Ext.alloc ?_ _))) HM.out HLY.out HYn.out (by omega) (by omega) F2.out F5.out H3.out).mono ?_
      rintro e u6 ⟨rfl, hx0⟩
      have hs : Ext u5 u6 := Ext.trans (by repeat (first | with_reducible exact Ext.refl _ | with_reducible refine Ext.alloc ?_ _)) hx0
      replace HA := Lib.hid (HA.out.ext hs)
      replace HB := Lib.hid (HB.out.ext hs)
      replace HC := Lib.hid (HC.out.ext hs)
      replace HD := Lib.hid (HD.out.ext hs)
      replace HY := Lib.hid (HY.out.ext hs)
      replace HO := Lib.hid (HO.out.ext hs)
      have hx1 := hx.trans hs
      clear hx hs hx0
      have hx := hx1
      clear hx1
      dsimp only
      go_wp2_with fail
      refine (seqmerge_go (n := 0) (cA := 0) (HG.out.ext (hx.trans (by repeat (first | with_reducible exact Ext.refl _ | with_reducible refine Ext.alloc ?_ _)))) (Qs.nil _ _ none) (HC.out.ext (by repeat (first | with_reducible exact Ext.refl _ | with_reducible refine Ext.alloc ?_ _))) rfl HK.out HCn.out (by omega) (by omega) (by simp) F3.out (rfl : Sq.merge [] c = .ok (c, []))).mono ?_
      rintro e u7 ⟨A3, c3, A4, c4, rfl, HE, HZ, _, hx0⟩
      have hs : Ext u6 u7 := Ext.trans (by repeat (first | with_reducible exact Ext.refl _ | with_reducible refine Ext.alloc ?_ _)) hx0
      replace HA := Lib.hid (HA.out.ext hs)
      replace HB := Lib.hid (HB.out.ext hs)
      replace HC := Lib.hid (HC.out.ext hs)
      replace HD := Lib.hid (HD.out.ext hs)
      replace HY := Lib.hid (HY.out.ext hs)
      replace HO := Lib.hid (HO.out.ext hs)
      have hx1 := hx.trans hs
      clear hx hs hx0
      have hx := hx1
      clear hx1
      dsimp only
      go_wp2_with fail
      refine (rsame_true A3 C k c3 cC c _ (HE.out.ext (by repeat (first | with_reducible exact Ext.refl _ | with_reducible refine Ext.alloc ?_ _))) (HC.out.ext (by repeat (first | with_reducible exact Ext.refl _ | with_reducible refine Ext.alloc ?_ _))) HK.out (by omega) F3.out).mono ?_
      rintro e u8 ⟨rfl, hx0⟩
      have hs : Ext u7 u8 := Ext.trans (by repeat (first | with_reducible exact Ext.refl _ | with_reducible refine Ext.alloc ?_ _)) hx0
      replace HA := Lib.hid (HA.out.ext hs)
      replace HB := Lib.hid (HB.out.ext hs)
      replace HC := Lib.hid (HC.out.ext hs)
      replace HD := Lib.hid (HD.out.ext hs)
      replace HY := Lib.hid (HY.out.ext hs)
      replace HO := Lib.hid (HO.out.ext hs)
      replace HE := Lib.hid (HE.out.ext hs)
      have hx1 := hx.trans hs
      clear hx hs hx0
      have hx := hx1
      clear hx1
      dsimp only
      go_wp2_with fail
      refine (HAW.out _ (hx.trans (by repeat (first | with_reducible exact Ext.refl _ | with_reducible refine Ext.alloc ?_ _)))).mono ?_
      rintro e u9 ⟨rfl, hx0⟩
      have hs : Ext u8 u9 := Ext.trans (by repeat (first | with_reducible exact Ext.refl _ | with_reducible refine Ext.alloc ?_ _)) hx0
      replace HA := Lib.hid (HA.out.ext hs)
      replace HB := Lib.hid (HB.out.ext hs)
      replace HC := Lib.hid (HC.out.ext hs)
      replace HD := Lib.hid (HD.out.ext hs)
      replace HY := Lib.hid (HY.out.ext hs)
      replace HO := Lib.hid (HO.out.ext hs)
      replace HE := Lib.hid (HE.out.ext hs)
      have hx1 := hx.trans hs
      clear hx hs hx0
      have hx := hx1
      clear hx1
      dsimp only
      go_wp2_with fail
      (go_ret; refine Ret.mk ?_ ?_; (focus (rfl; done)); (focus ((repeat (first | with_reducible exact hx | with_reducible exact Ext.refl _ | with_reducible refine Ext.alloc ?_ _ | with_reducible refine Ext.drewN ?_ _ | with_reducible refine Ext.drew1 ?_ | ((with_reducible refine Ext.setCell ?_ ?_ _); rotate_left; (focus (first | (dsimp only; omega) | (simp; done) | (simp; omega)))))); done)))
    | ok t =>
      have h1 : Sq.merge (a ++ s) c = .ok (t.1, r.2 ++ t.2) := by rw [Sq.merge_append, h2]; dsimp only; rw [h3]
      have H1 := Lib.hid h1
      have H2 := Lib.hid h2
      have H3 := Lib.hid h3
      have F7 := Lib.hid (merge_fitting h3 F2.out F5.out).1
      have F8 := Lib.hid (merge_fitting h3 F2.out F5.out).2
      have HLT : Hid (t.2.length = m) := Lib.hid ((Sq.merge_length h3).2.trans HM.out)
      have HLW : Hid (t.1.length = k) := Lib.hid ((Sq.merge_length h3).1.trans HLY.out)
      have F9 : Hid (∀ q ∈ r.2 ++ t.2, q.Fits) := Lib.hid fun q hq => (List.mem_append.1 hq).elim (F6.out q) (F8.out q)
      have HLX : Hid ((r.2 ++ t.2).length = n + m) := Lib.hid (by have := HLO.out; have := HLT.out; simp; omega)
      clear h1 h2 h3
      go_wp2_with fail
      refine (seqmerge_go (HG.out.ext (hx.trans (by repeat (first | with_reducible exact Ext.refl _ | with_reducible refine Ext.alloc ?_ _)))) (HD.out.ext (by repeat (first | with_reducible exact Ext.refl _ | with_reducible refine Ext.alloc ?_ _))) (HC.out.ext (by repeat (first | with_reducible exact Ext.refl _ | with_reducible refine Ext.alloc ?_ _))) HL.out HK.out HCn.out (by omega) (by omega) F4.out F3.out H1.out).mono ?_
      rintro e u4 ⟨A5, c5, A6, c6, rfl, HW, HX, _, hx0⟩
      have hs : Ext u3 u4 := Ext.trans (by repeat (first | with_reducible exact Ext.refl _ | with_reducible refine Ext.alloc ?_ _)) hx0
      replace HA := Lib.hid (HA.out.ext hs)
      replace HB := Lib.hid (HB.out.ext hs)
      replace HC := Lib.hid (HC.out.ext hs)
      replace HD := Lib.hid (HD.out.ext hs)
      have hx1 := hx.trans hs
      clear hx hs hx0
      have hx := hx1
      clear hx1
      dsimp only
      go_wp2_with fail
      refine (seqmerge_go (HG.out.ext (hx.trans (by repeat (first | with_reducible exact Ext.refl _ | with_reducible refine Ext.alloc ?_ _)))) (HA.out.ext (by repeat (first | with_reducible exact Ext.refl _ | with_reducible refine Ext.alloc ?_ _))) (HC.out.ext (by repeat (first | with_reducible exact Ext.refl _ | with_reducible refine Ext.alloc ?_ _))) HN.out HK.out HCn.out (by omega) (by omega) F1.out F3.out H2.out).mono ?_
      rintro e u5 ⟨A1, c1, A2, c2, rfl, HY, HO, Hn, hx0⟩
      have hs : Ext u4 u5 := Ext.trans (by repeat (first | with_reducible exact Ext.refl _ | with_reducible refine Ext.alloc ?_ _)) hx0
      replace HA := Lib.hid (HA.out.ext hs)
      replace HB := Lib.hid (HB.out.ext hs)
      replace HC := Lib.hid (HC.out.ext hs)
      replace HD := Lib.hid (HD.out.ext hs)
      replace HW := Lib.hid (HW.out.ext hs)
      replace HX := Lib.hid (HX.out.ext hs)
      have hx1 := hx.trans hs
      clear hx hs hx0
      have hx := hx1
      clear hx1
      dsimp only
      have HYn : Hid (A1 = none → k = 0 ∧ c1 = 0) := Lib.hid fun e => by
        have h0 := Hn.out.1 e
        subst e
        refine ⟨?_, h0⟩
        have hl := HLY.out
        rcases Nat.eq_zero_or_pos k with hk | hk
        · exact hk
        · obtain ⟨b, o, e⟩ := HY.out.some (by omega)
          cases e
      go_wp2_with fail
      refine (seqmerge_go (HG.out.ext (hx.trans (by repeat (first | with_reducible exact Ext.refl _ | with_reducible refine Ext.alloc ?_ _)))) (HB.out.ext (by repeat (first | with_reducible exact Ext.refl _ | with_reducible refine Ext.alloc ?_ _))) (HY.out.ext (by repeat (first | with_reducible exact Ext.refl _ | with_reducible refine Ext.alloc ?_ _))) HM.out HLY.out HYn.out (by omega) (by omega) F2.out F5.out H3.out).mono ?_
      rintro e u6 ⟨A7, c7, A9, c9, rfl, HZ, HT, _, hx0⟩
      have hs : Ext u5 u6 := Ext.trans (by repeat (first | with_reducible exact Ext.refl _ | with_reducible refine Ext.alloc ?_ _)) hx0
      replace HA := Lib.hid (HA.out.ext hs)
      replace HB := Lib.hid (HB.out.ext hs)
      replace HC := Lib.hid (HC.out.ext hs)
      replace HD := Lib.hid (HD.out.ext hs)
      replace HW := Lib.hid (HW.out.ext hs)
      replace HX := Lib.hid (HX.out.ext hs)
      replace HY := Lib.hid (HY.out.ext hs)
      replace HO := Lib.hid (HO.out.ext hs)
      have hx1 := hx.trans hs
      clear hx hs hx0
      have hx := hx1
      clear hx1
      dsimp only
      go_wp2_with fail
      refine (seqmerge_go (n := 0) (cA := 0) (HG.out.ext (hx.trans (by repeat (first | with_reducible exact Ext.refl _ | with_reducible refine Ext.alloc ?_ _)))) (Qs.nil _ _ none) (HC.out.ext (by repeat (first | with_reducible exact Ext.refl _ | with_reducible refine Ext.alloc ?_ _))) rfl HK.out HCn.out (by omega) (by omega) (by simp) F3.out (rfl : Sq.merge [] c = .ok (c, []))).mono ?_
      rintro e u7 ⟨A3, c3, A4, c4, rfl, HE, _, _, hx0⟩
      have hs : Ext u6 u7 := Ext.trans (by repeat (first | with_reducible exact Ext.refl _ | with_reducible refine Ext.alloc ?_ _)) hx0
      replace HA := Lib.hid (HA.out.ext hs)
      replace HB := Lib.hid (HB.out.ext hs)
      replace HC := Lib.hid (HC.out.ext hs)
      replace HD := Lib.hid (HD.out.ext hs)
      replace HW := Lib.hid (HW.out.ext hs)
      replace HX := Lib.hid (HX.out.ext hs)
      replace HY := Lib.hid (HY.out.ext hs)
      replace HO := Lib.hid (HO.out.ext hs)
      replace HZ := Lib.hid (HZ.out.ext hs)
      replace HT := Lib.hid (HT.out.ext hs)
      have hx1 := hx.trans hs
      clear hx hs hx0
      have hx := hx1
      clear hx1
      dsimp only
      go_wp2_with fail
      refine (rsame_true A5 A7 k c5 c7 t.1 _ (HW.out.ext (by repeat (first | with_reducible exact Ext.refl _ | with_reducible refine Ext.alloc ?_ _))) (HZ.out.ext (by repeat (first | with_reducible exact Ext.refl _ | with_reducible refine Ext.alloc ?_ _))) HLW.out (by omega) F7.out).mono ?_
      rintro e u8 ⟨rfl, hx0⟩
      have hs : Ext u7 u8 := Ext.trans (by repeat (first | with_reducible exact Ext.refl _ | with_reducible refine Ext.alloc ?_ _)) hx0
      replace HA := Lib.hid (HA.out.ext hs)
      replace HB := Lib.hid (HB.out.ext hs)
      replace HC := Lib.hid (HC.out.ext hs)
      replace HD := Lib.hid (HD.out.ext hs)
      replace HW := Lib.hid (HW.out.ext hs)
      replace HX := Lib.hid (HX.out.ext hs)
      replace HY := Lib.hid (HY.out.ext hs)
      replace HO := Lib.hid (HO.out.ext hs)
      replace HZ := Lib.hid (HZ.out.ext hs)
      replace HT := Lib.hid (HT.out.ext hs)
      replace HE := Lib.hid (HE.out.ext hs)
      have hx1 := hx.trans hs
      clear hx hs hx0
      have hx := hx1
      clear hx1
      dsimp only
      go_wp2_with fail
      refine (join_go (HO.out.ext (by repeat (first | with_reducible exact Ext.refl _ | with_reducible refine Ext.alloc ?_ _))) (HT.out.ext (by repeat (first | with_reducible exact Ext.refl _ | with_reducible refine Ext.alloc ?_ _))) HLO.out HLT.out (by omega) (by omega)).mono ?_
      rintro e u9 ⟨D3, d3, rfl, HJ, hx0⟩
      have hs : Ext u8 u9 := Ext.trans (by repeat (first | with_reducible exact Ext.refl _ | with_reducible refine Ext.alloc ?_ _)) hx0
      replace HA := Lib.hid (HA.out.ext hs)
      replace HB := Lib.hid (HB.out.ext hs)
      replace HC := Lib.hid (HC.out.ext hs)
      replace HD := Lib.hid (HD.out.ext hs)
      replace HW := Lib.hid (HW.out.ext hs)
      replace HX := Lib.hid (HX.out.ext hs)
      replace HY := Lib.hid (HY.out.ext hs)
      replace HO := Lib.hid (HO.out.ext hs)
      replace HZ := Lib.hid (HZ.out.ext hs)
      replace HT := Lib.hid (HT.out.ext hs)
      replace HE := Lib.hid (HE.out.ext hs)
      have hx1 := hx.trans hs
      clear hx hs hx0
      have hx := hx1
      clear hx1
      dsimp only
      go_wp2_with fail
      refine (rsame_true A6 D3 (n + m) c6 d3 (r.2 ++ t.2) _ (HX.out.ext (by repeat (first | with_reducible exact Ext.refl _ | with_reducible refine Ext.alloc ?_ _))) (HJ.out.ext (by repeat (first | with_reducible exact Ext.refl _ | with_reducible refine Ext.alloc ?_ _))) HLX.out (by omega) F9.out).mono ?_
      rintro e u10 ⟨rfl, hx0⟩
      have hs : Ext u9 u10 := Ext.trans (by repeat (first | with_reducible exact Ext.refl _ | with_reducible refine Ext.alloc ?_ _)) hx0
      replace HA := Lib.hid (HA.out.ext hs)
      replace HB := Lib.hid (HB.out.ext hs)
      replace HC := Lib.hid (HC.out.ext hs)
      replace HD := Lib.hid (HD.out.ext hs)
      replace HW := Lib.hid (HW.out.ext hs)
      replace HX := Lib.hid (HX.out.ext hs)
      replace HY := Lib.hid (HY.out.ext hs)
      replace HO := Lib.hid (HO.out.ext hs)
      replace HZ := Lib.hid (HZ.out.ext hs)
      replace HT := Lib.hid (HT.out.ext hs)
      replace HE := Lib.hid (HE.out.ext hs)
      replace HJ := Lib.hid (HJ.out.ext hs)
      have hx1 := hx.trans hs
      clear hx hs hx0
      have hx := hx1
      clear hx1
      dsimp only
      go_wp2_with fail
      refine (rsame_true A3 C k c3 cC c _ (HE.out.ext (by repeat (first | with_reducible exact Ext.refl _ | with_reducible refine Ext.alloc ?_ _))) (HC.out.ext (by repeat (first | with_reducible exact Ext.refl _ | with_reducible refine Ext.alloc ?_ _))) HK.out (by omega) F3.out).mono ?_
      rintro e u11 ⟨rfl, hx0⟩
      have hs : Ext u10 u11 := Ext.trans (by repeat (first | with_reducible exact Ext.refl _ | with_reducible refine Ext.alloc ?_ _)) hx0
      replace HA := Lib.hid (HA.out.ext hs)
      replace HB := Lib.hid (HB.out.ext hs)
      replace HC := Lib.hid (HC.out.ext hs)
      replace HD := Lib.hid (HD.out.ext hs)
      replace HW := Lib.hid (HW.out.ext hs)
      replace HX := Lib.hid (HX.out.ext hs)
      replace HY := Lib.hid (HY.out.ext hs)
      replace HO := Lib.hid (HO.out.ext hs)
      replace HZ := Lib.hid (HZ.out.ext hs)
      replace HT := Lib.hid (HT.out.ext hs)
      replace HE := Lib.hid (HE.out.ext hs)
      replace HJ := Lib.hid (HJ.out.ext hs)
      have hx1 := hx.trans hs
      clear hx hs hx0
      have hx := hx1
      clear hx1
      dsimp only
      go_wp2_with fail
      refine (HAW.out _ (hx.trans (by repeat (first | with_reducible exact Ext.refl _ | with_reducible refine Ext.alloc ?_ _)))).mono ?_
      rintro e u12 ⟨rfl, hx0⟩
      have hs : Ext u11 u12 := Ext.trans (by repeat (first | with_reducible exact Ext.refl _ | with_reducible refine Ext.alloc ?_ _)) hx0
      replace HA := Lib.hid (HA.out.ext hs)
      replace HB := Lib.hid (HB.out.ext hs)
      replace HC := Lib.hid (HC.out.ext hs)
      replace HD := Lib.hid (HD.out.ext hs)
      replace HW := Lib.hid (HW.out.ext hs)
      replace HX := Lib.hid (HX.out.ext hs)
      replace HY := Lib.hid (HY.out.ext hs)
      replace HO := Lib.hid (HO.out.ext hs)
      replace HZ := Lib.hid (HZ.out.ext hs)
      replace HT := Lib.hid (HT.out.ext hs)
      replace HE := Lib.hid (HE.out.ext hs)
      replace HJ := Lib.hid (HJ.out.ext hs)
      have hx1 := hx.trans hs
      clear hx hs hx0
      have hx := hx1
      clear hx1
      dsimp only
      go_wp2_with fail
      (go_ret; refine Ret.mk ?_ ?_; (focus (rfl; done)); (focus ((repeat (first | with_reducible exact hx | with_reducible exact Ext.refl _ | with_reducible refine Ext.alloc ?_ _ | with_reducible refine Ext.drewN ?_ _ | with_reducible refine Ext.drew1 ?_ | ((with_reducible refine Ext.setCell ?_ ?_ _); rotate_left; (focus (first | (dsimp only; omega) | (simp; done) | (simp; omega)))))); done)))
end Go.Proofs.YtgjphfmpodkgeaaGreatDoor
