/- Walks: the results of a merge form a square. -/
import Derived.Test.YtgfiddlmeopebaaGreatDoorAx
import Derived.Test.YtgfiddlmeopebaaGreatDoorMe
import Derived.Test.YtgfiddlmeopebaaGreatDoorSy
set_option linter.unusedSimpArgs false
set_option linter.unusedVariables false
namespace Go.Proofs.YtgfiddlmeopebaaGreatDoor
open Go Go.RowKit
attribute [local go_sem ↓] Go.wp_at_zero Go.wp_at_succ

set_option maxHeartbeats 16000000 in
set_option maxRecDepth 100000 in
/-- pushout.Square. -/
theorem psquare_any (A B C D : Option Addr) (n cA m cB k cC j cD : Nat) (a b c d : List Qp) (w : World) (hg : Glob w) (ha : Qs w (fun _ => True) A a) (hb : Qs w (fun _ => True) B b) (hc : Qs w (fun _ => True) C c) (hd : Qs w (fun _ => True) D d)
    (hn : a.length = n) (hm : b.length = m) (hk : c.length = k) (hj : d.length = j) (b1 : n ≤ 100000000) (b2 : m ≤ 100000000) (b3 : k ≤ 100000000) (b4 : j ≤ 100000000)
    (fa : ∀ q ∈ a, q.Fits) (fb : ∀ q ∈ b, q.Fits) (fc : ∀ q ∈ c, q.Fits) (fd : ∀ q ∈ d, q.Fits) :
    Calls Tryz.prog 28 #[.slice A n cA, .slice B m cB, .slice C k cC, .slice D j cD] w (Ret (.bool (Sq.same (a ++ c) (b ++ d))) w) := by
  have HC1 := Lib.hid (fun W g (hW : Ext w W) (h : Blk W g 22 #[.slice A n cA, .slice C k cC]) => pconcat_any g _ A C n cA k cC a c W h (ha.ext hW) (hc.ext hW) hn hk (by omega) (by omega))
  have HC2 := Lib.hid (fun W g (hW : Ext w W) (h : Blk W g 22 #[.slice B m cB, .slice D j cD]) => pconcat_any g _ B D m cB j cD b d W h (hb.ext hW) (hd.ext hW) hm hj (by omega) (by omega))
  have HSM := Lib.hid (fun W S cs T ct (hW : Ext w W) (hq : Qs W (fun _ => True) S (a ++ c)) (hr : Qs W (fun _ => True) T (b ++ d)) => seqsame_any S T (n + k) cs (m + j) ct (a ++ c) (b ++ d) W (hg.ext hW) hq hr (by rw [List.length_append, hn, hk]) (by rw [List.length_append, hm, hj]) (by omega) (by omega) (fun q hq => (List.mem_append.1 hq).elim (fa q) (fc q)) (fun q hq => (List.mem_append.1 hq).elim (fb q) (fd q)))
  clear ha hb hc hd hn hm hk hj fa fb fc fd hg
  generalize Sq.same (a ++ c) (b ++ d) = R at HSM ⊢
  go_enter Tryz.func28, Tryz.ntmps28
  have hx := Ext.refl w
  go_wp2_with fail
  refine (HC1.out _ _ (by repeat (first | with_reducible exact Ext.refl _ | with_reducible refine Ext.alloc ?_ _)) (Blk.new' rfl)).mono ?_
  rintro e w1 ⟨S, cs, rfl, HS, _, hx1⟩
  have hx3 : Ext w w1 := Ext.trans (by repeat (first | with_reducible exact Ext.refl _ | with_reducible refine Ext.alloc ?_ _)) hx1
  clear hx hx1 HC1
  go_wp2_with fail
  refine (HC2.out _ _ (Ext.alloc hx3 _) (Blk.new' rfl)).mono ?_
  rintro e w2 ⟨T, ct, rfl, HT, _, hx1⟩
  have hx4 := (Ext.refl w1).alloc (.cells #[.slice B m cB, .slice D j cD] 22) |>.trans hx1
  have hx := hx3.trans hx4
  have HS := Lib.hid ((HS.out.ext hx4).mono fun _ _ => trivial)
  have HT := Lib.hid (HT.out.mono fun _ _ => trivial)
  clear hx1 HC2 hx3 hx4
  go_wp2_with fail
  refine (HSM.out _ S cs T ct hx HS.out HT.out).mono ?_
  rintro e w3 ⟨rfl, hx1⟩
  have hxx := hx.trans hx1
  clear hx hx1 HSM HS HT
  have hx := hxx
  clear hxx
  go_wp2_with fail
  (go_ret; refine Ret.mk ?_ ?_; (focus (rfl; done)); (focus ((repeat (first | with_reducible exact hx | with_reducible exact Ext.refl _ | with_reducible refine Ext.alloc ?_ _ | with_reducible refine Ext.drewN ?_ _ | with_reducible refine Ext.drew1 ?_ | ((with_reducible refine Ext.setCell ?_ ?_ _); rotate_left; (focus (first | (dsimp only; omega) | (simp; done) | (simp; omega)))))); done)))

set_option maxHeartbeats 16000000 in
set_option maxRecDepth 100000 in
theorem square_walk (A B C : Option Addr) (n cA m cB k cC : Nat) (a s c : List Qp) (w : World) (hg : Glob w) (ha : Qs w (fun _ => True) A a) (hb : Qs w (fun _ => True) B s) (hc : Qs w (fun _ => True) C c) (hn : a.length = n) (hm : s.length = m) (hk : c.length = k) (hB : B = none → cB = 0) (hmB : m ≤ cB)
    (b1 : n ≤ 1048576) (b2 : m ≤ 1048576) (b3 : k ≤ 1048576)
    (s1 : ∀ q ∈ a, q.old.length ≤ 1152921504606846976 ∧ q.new.length ≤ 1152921504606846976) (s2 : ∀ q ∈ s, q.old.length ≤ 1152921504606846976 ∧ q.new.length ≤ 1152921504606846976) (s3 : ∀ q ∈ c, q.old.length ≤ 1152921504606846976 ∧ q.new.length ≤ 1152921504606846976) :
    Calls Tryz.prog 8 #[.slice A n cA, .slice B m cB, .slice C k cC] w (Ret (.bool true) w) := by
  have HA := Lib.hid ha
  have HB := Lib.hid hb
  have HC := Lib.hid hc
  have HN := Lib.hid hn
  have HM := Lib.hid hm
  have HK := Lib.hid hk
  have HNM : Hid ((a ++ s).length = n + m) := Lib.hid (by simp [hn, hm])
  have HAW := Lib.hid (fun W (hW : Ext w W) => awake15_any W (hg.ext hW))
  have HBn : Hid (B = none → m = 0 ∧ cB = 0) := Lib.hid fun e => ⟨by have := hB e; omega, hB e⟩
  have HG := Lib.hid hg
  have HGR : Hid (∀ W g t D d, Blk W g t #[.slice D (n + m + k : Nat) d] → Qs W (fun _ => True) D (a ++ s ++ c) → Calls Tryz.prog 11 #[.slice (some ⟨g, 0, none⟩) 1 1] W (Tells (Seqs.small [(D, a ++ s ++ c, d)]) W)) := Lib.hid fun W g t D d hb h1 => lawgreat15_any g t [(D, a ++ s ++ c, d)] 1 W (by unfold Seqs.cells; simpa [hn, hm, hk, Nat.add_assoc, Int.add_assoc] using hb) rfl (fun x hx => by
    obtain rfl : x = (D, a ++ s ++ c, d) := by simpa using hx
    exact ⟨⟨_, h1⟩, by simp [hn, hm, hk]; omega, fun q hq => (List.mem_append.1 hq).elim (fun hq => (List.mem_append.1 hq).elim (s1 q) (s2 q)) (s3 q)⟩) (by omega)
  clear ha hb hc hn hm hk s1 s2 s3 hB hmB hg
  go_enter Tryz.func8, Tryz.ntmps8
  have hx := Ext.refl w
  go_wp2_with fail
  refine (join_go (HA.out.ext (by repeat (first | with_reducible exact Ext.refl _ | with_reducible refine Ext.alloc ?_ _))) (HB.out.ext (by repeat (first | with_reducible exact Ext.refl _ | with_reducible refine Ext.alloc ?_ _))) HN.out HM.out (by omega) (by omega)).mono ?_
  rintro e u1 ⟨D0, d0, rfl, HD0, hx0⟩
  have hs : Ext w u1 := Ext.trans (by repeat (first | with_reducible exact Ext.refl _ | with_reducible refine Ext.alloc ?_ _)) hx0
  replace HA := Lib.hid (HA.out.ext hs)
  replace HB := Lib.hid (HB.out.ext hs)
  replace HC := Lib.hid (HC.out.ext hs)
  have hx1 := hx.trans hs
  clear hx hs hx0
  have hx := hx1
  clear hx1
  dsimp only
  go_wp2_with fail
  refine (join_go (HD0.out.ext (by repeat (first | with_reducible exact Ext.refl _ | with_reducible refine Ext.alloc ?_ _))) (HC.out.ext (by repeat (first | with_reducible exact Ext.refl _ | with_reducible refine Ext.alloc ?_ _))) HNM.out HK.out (by omega) (by omega)).mono ?_
  rintro e u2 ⟨D, d, rfl, HD, hx0⟩
  have hs : Ext u1 u2 := Ext.trans (by repeat (first | with_reducible exact Ext.refl _ | with_reducible refine Ext.alloc ?_ _)) hx0
  replace HA := Lib.hid (HA.out.ext hs)
  replace HB := Lib.hid (HB.out.ext hs)
  replace HC := Lib.hid (HC.out.ext hs)
  replace HD0 := Lib.hid (HD0.out.ext hs)
  have hx1 := hx.trans hs
  clear hx hs hx0
  have hx := hx1
  clear hx1
  dsimp only
  go_wp2_with fail
  refine (HGR.out _ _ _ D d (Blk.new' rfl) (HD.out.ext (by repeat (first | with_reducible exact Ext.refl _ | with_reducible refine Ext.alloc ?_ _)))).mono ?_
  rintro e u3 ⟨v, rfl, hsm, hx0⟩
  have hs : Ext u2 u3 := Ext.trans (by repeat (first | with_reducible exact Ext.refl _ | with_reducible refine Ext.alloc ?_ _)) hx0
  replace HA := Lib.hid (HA.out.ext hs)
  replace HB := Lib.hid (HB.out.ext hs)
  replace HC := Lib.hid (HC.out.ext hs)
  replace HD0 := Lib.hid (HD0.out.ext hs)
  replace HD := Lib.hid (HD.out.ext hs)
  have hx1 := hx.trans hs
  clear hx hs hx0
  have hx := hx1
  clear hx1
  dsimp only
  have HS := Lib.hid hsm
  clear hsm HGR
  cases v
  rotate_left
  · go_wp2_with fail
    refine (HAW.out _ (hx.trans (by repeat (first | with_reducible exact Ext.refl _ | with_reducible refine Ext.alloc ?_ _)))).mono ?_
    rintro e u4 ⟨rfl, hx0⟩
    have hs : Ext u3 u4 := Ext.trans (by repeat (first | with_reducible exact Ext.refl _ | with_reducible refine Ext.alloc ?_ _)) hx0
    replace HA := Lib.hid (HA.out.ext hs)
    replace HB := Lib.hid (HB.out.ext hs)
    replace HC := Lib.hid (HC.out.ext hs)
    replace HD0 := Lib.hid (HD0.out.ext hs)
    replace HD := Lib.hid (HD.out.ext hs)
    have hx1 := hx.trans hs
    clear hx hs hx0
    have hx := hx1
    clear hx1
    dsimp only
    go_wp2_with fail
    (go_ret; refine Ret.mk ?_ ?_; (focus (rfl; done)); (focus ((repeat (first | with_reducible exact hx | with_reducible exact Ext.refl _ | with_reducible refine Ext.alloc ?_ _ | with_reducible refine Ext.drewN ?_ _ | with_reducible refine Ext.drew1 ?_ | ((with_reducible refine Ext.setCell ?_ ?_ _); rotate_left; (focus (first | (dsimp only; omega) | (simp; done) | (simp; omega)))))); done)))
  have S1 : Small (a ++ s ++ c) := HS.out rfl (D, a ++ s ++ c, d) (by simp)
  have F1 : Hid (∀ q ∈ a, q.Fits) := Lib.hid fun q hq => S1.fits q (List.mem_append_left _ (List.mem_append_left _ hq))
  have F2 : Hid (∀ q ∈ s, q.Fits) := Lib.hid fun q hq => S1.fits q (List.mem_append_left _ (List.mem_append_right _ hq))
  have F3 : Hid (∀ q ∈ c, q.Fits) := Lib.hid fun q hq => S1.fits q (List.mem_append_right _ hq)
  clear HS S1 HD HD0
  cases h1 : Sq.merge a s with
  | error p =>
    obtain ⟨i, j⟩ := p
    have H1 := Lib.hid h1
    clear h1
    go_wp2_with fail
    refine (seqmerge_bad (HG.out.ext (hx.trans (by repeat (first | with_reducible exact Ext.refl _ | with_reducible refine Ext.alloc ?_ _)))) (HA.out.ext (by repeat (first | with_reducible exact Ext.refl _ | with_reducible refine Ext.alloc ?_ _))) (HB.out.ext (by repeat (first | with_reducible exact Ext.refl _ | with_reducible refine Ext.alloc ?_ _))) HN.out HM.out HBn.out (by omega) (by omega) F1.out F2.out H1.out).mono ?_
    rintro e u4 ⟨rfl, hx0⟩
    have hs : Ext u3 u4 := Ext.trans (by repeat (first | with_reducible exact Ext.refl _ | with_reducible refine Ext.alloc ?_ _)) hx0
    replace HA := Lib.hid (HA.out.ext hs)
    replace HB := Lib.hid (HB.out.ext hs)
    replace HC := Lib.hid (HC.out.ext hs)
    have hx1 := hx.trans hs
    clear hx hs hx0
    have hx := hx1
    clear hx1
    dsimp only
    go_wp2_with fail
    refine (HAW.out _ (hx.trans (by repeat (first | with_reducible exact Ext.refl _ | with_reducible refine Ext.alloc ?_ _)))).mono ?_
    rintro e u5 ⟨rfl, hx0⟩
    have hs : Ext u4 u5 := Ext.trans (by repeat (first | with_reducible exact Ext.refl _ | with_reducible refine Ext.alloc ?_ _)) hx0
    replace HA := Lib.hid (HA.out.ext hs)
    replace HB := Lib.hid (HB.out.ext hs)
    replace HC := Lib.hid (HC.out.ext hs)
    have hx1 := hx.trans hs
    clear hx hs hx0
    have hx := hx1
    clear hx1
    dsimp only
    go_wp2_with fail
    (go_ret; refine Ret.mk ?_ ?_; (focus (rfl; done)); (focus ((repeat (first | with_reducible exact hx | with_reducible exact Ext.refl _ | with_reducible refine Ext.alloc ?_ _ | with_reducible refine Ext.drewN ?_ _ | with_reducible refine Ext.drew1 ?_ | ((with_reducible refine Ext.setCell ?_ ?_ _); rotate_left; (focus (first | (dsimp only; omega) | (simp; done) | (simp; omega)))))); done)))
  | ok r =>
    have H1 := Lib.hid h1
    have HSQ1 : Hid (Sq.same (a ++ r.1) (s ++ r.2) = true) := Lib.hid (by have := Sq.square (l := r.1) (o := r.2) h1 []; simpa using this)
    have HSQ2 : Hid (Sq.same (a ++ (r.1 ++ c)) (s ++ (r.2 ++ c)) = true) := Lib.hid (Sq.square (l := r.1) (o := r.2) h1 c)
    have HL1 : Hid (r.1.length = m) := Lib.hid ((Sq.merge_length h1).1.trans HM.out)
    have HL2 : Hid (r.2.length = n) := Lib.hid ((Sq.merge_length h1).2.trans HN.out)
    have HL3 : Hid ((r.1 ++ c).length = m + k) := Lib.hid (by have := HL1.out; have := HK.out; simp; omega)
    have HL4 : Hid ((r.2 ++ c).length = n + k) := Lib.hid (by have := HL2.out; have := HK.out; simp; omega)
    have F6 := Lib.hid (merge_fitting h1 F1.out F2.out).1
    have F7 := Lib.hid (merge_fitting h1 F1.out F2.out).2
    have F4 : Hid (∀ q ∈ r.1 ++ c, q.Fits) := Lib.hid fun q hq => (List.mem_append.1 hq).elim (F6.out q) (F3.out q)
    have F5 : Hid (∀ q ∈ r.2 ++ c, q.Fits) := Lib.hid fun q hq => (List.mem_append.1 hq).elim (F7.out q) (F3.out q)
    clear h1
    go_wp2_with fail
    refine (seqmerge_go (HG.out.ext (hx.trans (by repeat (first | with_reducible exact Ext.refl _ | with_reducible refine Ext.alloc ?_ _)))) (HA.out.ext (by repeat (first | with_reducible exact Ext.refl _ | with_reducible refine Ext.alloc ?_ _))) (HB.out.ext (by repeat (first | with_reducible exact Ext.refl _ | with_reducible refine Ext.alloc ?_ _))) HN.out HM.out HBn.out (by omega) (by omega) F1.out F2.out H1.out).mono ?_
    rintro e u4 ⟨A1, c1, A2, c2, rfl, HY, HO, _, hx0⟩
    have hs : Ext u3 u4 := Ext.trans (by repeat (first | with_reducible exact Ext.refl _ | with_reducible refine Ext.alloc ?_ _)) hx0
    replace HA := Lib.hid (HA.out.ext hs)
    replace HB := Lib.hid (HB.out.ext hs)
    replace HC := Lib.hid (HC.out.ext hs)
    have hx1 := hx.trans hs
    clear hx hs hx0
    have hx := hx1
    clear hx1
    dsimp only
    go_wp2_with fail
    refine (psquare_any A B A1 A2 n cA m cB m c1 n c2 a s r.1 r.2 _ (HG.out.ext (hx.trans (by repeat (first | with_reducible exact Ext.refl _ | with_reducible refine Ext.alloc ?_ _)))) (HA.out.ext (by repeat (first | with_reducible exact Ext.refl _ | with_reducible refine Ext.alloc ?_ _))) (HB.out.ext (by repeat (first | with_reducible exact Ext.refl _ | with_reducible refine Ext.alloc ?_ _))) (HY.out.ext (by repeat (first | with_reducible exact Ext.refl _ | with_reducible refine Ext.alloc ?_ _))) (HO.out.ext (by repeat (first | with_reducible exact Ext.refl _ | with_reducible refine Ext.alloc ?_ _))) HN.out HM.out HL1.out HL2.out (by omega) (by omega) (by omega) (by omega) F1.out F2.out F6.out F7.out).mono ?_
    rintro e u5 ⟨rfl, hx0⟩
    have hs : Ext u4 u5 := Ext.trans (by repeat (first | with_reducible exact Ext.refl _ | with_reducible refine Ext.alloc ?_ _)) hx0
    replace HA := Lib.hid (HA.out.ext hs)
    replace HB := Lib.hid (HB.out.ext hs)
    replace HC := Lib.hid (HC.out.ext hs)
    replace HY := Lib.hid (HY.out.ext hs)
    replace HO := Lib.hid (HO.out.ext hs)
    have hx1 := hx.trans hs
    clear hx hs hx0
    have hx := hx1
    clear hx1
    dsimp only
    rw [HSQ1.out]
    go_wp2_with fail
    refine (join_go (HY.out.ext (by repeat (first | with_reducible exact Ext.refl _ | with_reducible refine Ext.alloc ?_ _))) (HC.out.ext (by repeat (first | with_reducible exact Ext.refl _ | with_reducible refine Ext.alloc ?_ _))) HL1.out HK.out (by omega) (by omega)).mono ?_
    rintro e u6 ⟨D1, d1, rfl, HJ1, hx0⟩
    have hs : Ext u5 u6 := Ext.trans (by repeat (first | with_reducible exact Ext.refl _ | with_reducible refine Ext.alloc ?_ _)) hx0
    replace HA := Lib.hid (HA.out.ext hs)
    replace HB := Lib.hid (HB.out.ext hs)
    replace HC := Lib.hid (HC.out.ext hs)
    replace HY := Lib.hid (HY.out.ext hs)
    replace HO := Lib.hid (HO.out.ext hs)
    have hx1 := hx.trans hs
    clear hx hs hx0
    have hx := hx1
    clear hx1
    dsimp only
    go_wp2_with fail
    refine (join_go (HO.out.ext (by repeat (first | with_reducible exact Ext.refl _ | with_reducible refine Ext.alloc ?_ _))) (HC.out.ext (by repeat (first | with_reducible exact Ext.refl _ | with_reducible refine Ext.alloc ?_ _))) HL2.out HK.out (by omega) (by omega)).mono ?_
    rintro e u7 ⟨D2, d2, rfl, HJ2, hx0⟩
    have hs : Ext u6 u7 := Ext.trans (by repeat (first | with_reducible exact Ext.refl _ | with_reducible refine Ext.alloc ?_ _)) hx0
    replace HA := Lib.hid (HA.out.ext hs)
    replace HB := Lib.hid (HB.out.ext hs)
    replace HC := Lib.hid (HC.out.ext hs)
    replace HY := Lib.hid (HY.out.ext hs)
    replace HO := Lib.hid (HO.out.ext hs)
    replace HJ1 := Lib.hid (HJ1.out.ext hs)
    have hx1 := hx.trans hs
    clear hx hs hx0
    have hx := hx1
    clear hx1
    dsimp only
    go_wp2_with fail
    refine (psquare_any A B D1 D2 n cA m cB (m + k) d1 (n + k) d2 a s (r.1 ++ c) (r.2 ++ c) _ (HG.out.ext (hx.trans (by repeat (first | with_reducible exact Ext.refl _ | with_reducible refine Ext.alloc ?_ _)))) (HA.out.ext (by repeat (first | with_reducible exact Ext.refl _ | with_reducible refine Ext.alloc ?_ _))) (HB.out.ext (by repeat (first | with_reducible exact Ext.refl _ | with_reducible refine Ext.alloc ?_ _))) (HJ1.out.ext (by repeat (first | with_reducible exact Ext.refl _ | with_reducible refine Ext.alloc ?_ _))) (HJ2.out.ext (by repeat (first | with_reducible exact Ext.refl _ | with_reducible refine Ext.alloc ?_ _))) HN.out HM.out HL3.out HL4.out (by omega) (by omega) (by omega) (by omega) F1.out F2.out F4.out F5.out).mono ?_
    rintro e u8 ⟨rfl, hx0⟩
    have hs : Ext u7 u8 := Ext.trans (by repeat (first | with_reducible exact Ext.refl _ | with_reducible refine Ext.alloc ?_ _)) hx0
    replace HA := Lib.hid (HA.out.ext hs)
    replace HB := Lib.hid (HB.out.ext hs)
    replace HC := Lib.hid (HC.out.ext hs)
    replace HY := Lib.hid (HY.out.ext hs)
    replace HO := Lib.hid (HO.out.ext hs)
    replace HJ1 := Lib.hid (HJ1.out.ext hs)
    replace HJ2 := Lib.hid (HJ2.out.ext hs)
    have hx1 := hx.trans hs
    clear hx hs hx0
    have hx := hx1
    clear hx1
    dsimp only
    rw [HSQ2.out]
    go_wp2_with fail
    refine (HAW.out _ (hx.trans (by repeat (first | with_reducible exact Ext.refl _ | with_reducible refine Ext.alloc ?_ _)))).mono ?_
    rintro e u9 ⟨rfl, hx0⟩
    have hs : Ext u8 u9 := Ext.trans (by repeat (first | with_reducible exact Ext.refl _ | with_reducible refine Ext.alloc ?_ _)) hx0
    replace HA := Lib.hid (HA.out.ext hs)
    replace HB := Lib.hid (HB.out.ext hs)
    replace HC := Lib.hid (HC.out.ext hs)
    replace HY := Lib.hid (HY.out.ext hs)
    replace HO := Lib.hid (HO.out.ext hs)
    replace HJ1 := Lib.hid (HJ1.out.ext hs)
    replace HJ2 := Lib.hid (HJ2.out.ext hs)
    have hx1 := hx.trans hs
    clear hx hs hx0
    have hx := hx1
    clear hx1
    dsimp only
    go_wp2_with fail
    (go_ret; refine Ret.mk ?_ ?_; (focus (rfl; done)); (focus ((repeat (first | with_reducible exact hx | with_reducible exact Ext.refl _ | with_reducible refine Ext.alloc ?_ _ | with_reducible refine Ext.drewN ?_ _ | with_reducible refine Ext.drew1 ?_ | ((with_reducible refine Ext.setCell ?_ ?_ _); rotate_left; (focus (first | (dsimp only; omega) | (simp; done) | (simp; omega)))))); done)))
end Go.Proofs.YtgfiddlmeopebaaGreatDoor
