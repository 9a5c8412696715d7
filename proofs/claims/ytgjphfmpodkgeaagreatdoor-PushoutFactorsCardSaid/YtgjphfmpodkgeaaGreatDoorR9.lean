/- Walks: what has a mediating sequence factors. If there is a mediating sequence, the third and the fourth sequence are, up to commuting, the results of the merge followed by it: PushoutFactors returns true for every four sequences, of any size, in every state in which the listed tables of the library hold what the program's text lays. No condition. -/
import Derived.Test.YtgjphfmpodkgeaaGreatDoorAx
import Derived.Test.YtgjphfmpodkgeaaGreatDoorMe
import Derived.Test.YtgjphfmpodkgeaaGreatDoorOp
import Derived.Test.YtgjphfmpodkgeaaGreatDoorCards
import Derived.Test.YtgjphfmpodkgeaaGreatDoorTie
import Derived.ProofKit
import Derived.Deep.DeepHandedRow
import Derived.Lay
set_option linter.unusedSimpArgs false
set_option linter.unusedVariables false
namespace Go.Proofs.YtgjphfmpodkgeaaGreatDoor
open Go Go.RowKit
namespace Sq
theorem without_len {l m : List Qp} {x : Qp} (h : without l x = some m) : m.length ≤ l.length := by
  cases l with
  | nil => cases h
  | cons y l => rcases without_length h with h | h <;> simp only [List.length_cons] at h ⊢ <;> omega
theorem withoutAll_keeps {f : List Qp} : ∀ {c m : List Qp}, withoutAll c f = some m → (∀ q ∈ c, q.Fits) → (∀ q ∈ m, q.Fits) ∧ m.length ≤ c.length := by
  induction f with
  | nil =>
    intro c m h hf
    obtain rfl := Option.some.inj h
    exact ⟨hf, Nat.le_refl _⟩
  | cons p f ih =>
    intro c m h hf
    obtain ⟨r, h1, h2⟩ := Option.bind_eq_some_iff.1 h
    obtain ⟨i1, i2⟩ := ih h2 (without_fits h1 hf)
    exact ⟨i1, Nat.le_trans i2 (without_len h1)⟩
theorem mediate_some {a b c d m : List Qp} (h : mediate a b c d = some m) (fc : ∀ q ∈ c, q.Fits) : (∀ q ∈ m, q.Fits) ∧ m.length ≤ c.length := by
  unfold mediate at h
  split at h
  · cases h
  · obtain ⟨x, h1, h2⟩ := Option.bind_eq_some_iff.1 h
    split at h2
    · obtain rfl := Option.some.inj h2
      exact withoutAll_keeps h1 fc
    · cases h2
end Sq
attribute [local go_sem ↓] Go.wp_at_zero Go.wp_at_succ

/-- Mediate where there is a mediating sequence. -/
theorem mediate_go {A B C D : Option Addr} {n cA m cB k cC j cD : Nat} {a b c d l : List Qp} {w : World} (hg : Glob w) (ha : Qs w (fun _ => True) A a) (hb : Qs w (fun _ => True) B b) (hc : Qs w (fun _ => True) C c) (hd : Qs w (fun _ => True) D d)
    (hn : a.length = n) (hm : b.length = m) (hk : c.length = k) (hj : d.length = j) (hB : B = none → m = 0 ∧ cB = 0) (b1 : n ≤ 100000000) (b2 : m ≤ 100000000) (b3 : k ≤ 100000000) (b4 : j ≤ 100000000)
    (fa : ∀ q ∈ a, q.Fits) (fb : ∀ q ∈ b, q.Fits) (fc : ∀ q ∈ c, q.Fits) (fd : ∀ q ∈ d, q.Fits) {i : Nat} (hl : l.length = i) (h : Sq.mediate a b c d = some l) :
    Calls Tryz.prog 28 #[.slice A n cA, .slice B m cB, .slice C k cC, .slice D j cD] w (fun e w' => ∃ E cE, e = .returned (.tuple #[.slice E i cE, .bool true]) ∧ Hid (Qs w' (fun _ => True) E l) ∧ Ext w w') := by
  refine (mediate_any A B C D n cA m cB k cC j cD a b c d w hg ha hb hc hd hn hm hk hj hB b1 b2 b3 b4 fa fb fc fd).mono ?_
  rintro e w' ⟨hx, hy⟩
  rw [h] at hx
  rcases hx with ⟨hx, _⟩ | ⟨l', E, i', cE, hx, hl', rfl, hq⟩
  · cases hx
  · obtain rfl := Option.some.inj hx
    obtain rfl := hl.symm.trans hl'
    exact ⟨E, cE, rfl, hq, hy⟩

set_option maxHeartbeats 16000000 in
set_option maxRecDepth 100000 in
theorem factors_walk (A B C D : Option Addr) (n cA m cB k cC j cD : Nat) (a s c d : List Qp) (w : World) (hg : Glob w) (ha : Qs w (fun _ => True) A a) (hb : Qs w (fun _ => True) B s) (hc : Qs w (fun _ => True) C c) (hd : Qs w (fun _ => True) D d) (hn : a.length = n) (hm : s.length = m) (hk : c.length = k) (hj : d.length = j) (hB : B = none → cB = 0) (hmB : m ≤ cB)
    (b1 : n ≤ 1152921504606846976) (b2 : m ≤ 1152921504606846976) (b3 : k ≤ 1152921504606846976) (b4 : j ≤ 1152921504606846976)
    (s1 : ∀ q ∈ a, q.old.length ≤ 1152921504606846976 ∧ q.new.length ≤ 1152921504606846976) (s2 : ∀ q ∈ s, q.old.length ≤ 1152921504606846976 ∧ q.new.length ≤ 1152921504606846976) (s3 : ∀ q ∈ c, q.old.length ≤ 1152921504606846976 ∧ q.new.length ≤ 1152921504606846976) (s4 : ∀ q ∈ d, q.old.length ≤ 1152921504606846976 ∧ q.new.length ≤ 1152921504606846976) :
    Calls Tryz.prog 11 #[.agg #[.slice A n cA, .slice B m cB, .slice C k cC, .slice D j cD]] w (Ret (.bool true) w) := by
  have HA := Lib.hid ha
  have HB := Lib.hid hb
  have HC := Lib.hid hc
  have HD := Lib.hid hd
  have HN := Lib.hid hn
  have HM := Lib.hid hm
  have HK := Lib.hid hk
  have HJ := Lib.hid hj
  have HAW := Lib.hid (fun W (hW : Ext w W) => awake15_any W (hg.ext hW))
  have HBn : Hid (B = none → m = 0 ∧ cB = 0) := Lib.hid fun e => ⟨by have := hB e; omega, hB e⟩
  have HG := Lib.hid hg
  have HGR : Hid (∀ W g t, Ext w W → Blk W g t #[.slice A n cA, .slice B m cB, .slice C k cC, .slice D j cD] → Calls Tryz.prog 12 #[.slice (some ⟨g, 0, none⟩) 4 4] W (Tells (Seqs.small [(A, a, cA), (B, s, cB), (C, c, cC), (D, d, cD)]) W)) := Lib.hid fun W g t hW h => lawgreat15_any g t [(A, a, cA), (B, s, cB), (C, c, cC), (D, d, cD)] 4 W (by unfold Seqs.cells; simpa [hn, hm, hk, hj] using h) rfl (fun x hx => by
    rcases List.mem_cons.1 hx with rfl | hx
    · exact ⟨⟨_, ha.ext hW⟩, by dsimp only; omega, s1⟩
    rcases List.mem_cons.1 hx with rfl | hx
    · exact ⟨⟨_, hb.ext hW⟩, by dsimp only; omega, s2⟩
    rcases List.mem_cons.1 hx with rfl | hx
    · exact ⟨⟨_, hc.ext hW⟩, by dsimp only; omega, s3⟩
    · obtain rfl : x = (D, d, cD) := by simpa using hx
      exact ⟨⟨_, hd.ext hW⟩, by dsimp only; omega, s4⟩) (by omega)
  clear ha hb hc hd hn hm hk hj s1 s2 s3 s4 hB hmB hg
  go_enter Tryz.func11, Tryz.ntmps11
  have hx := Ext.refl w
  go_wp2_with fail
  refine (HGR.out _ _ _ (((Ext.refl w).alloc _).alloc _) (Blk.new' (by simp))).mono ?_
  rintro e u1 ⟨v, rfl, hsm, hx0⟩
  have HBX := Lib.hid ((((Blk.new' (w := w) rfl).alloc _).ext hx0))
  have hs : Ext w u1 := Ext.trans (((Ext.refl w).alloc _).alloc _) hx0
  replace HA := Lib.hid (HA.out.ext hs)
  replace HB := Lib.hid (HB.out.ext hs)
  replace HC := Lib.hid (HC.out.ext hs)
  replace HD := Lib.hid (HD.out.ext hs)
  clear hx hx0 HGR
  have hx := hs
  clear hs
  dsimp only
  have HS := Lib.hid hsm
  clear hsm
  cases v
  rotate_left
  · go_wp2_with fail
    refine (HAW.out _ (hx.trans (by repeat (first | with_reducible exact Ext.refl _ | with_reducible refine Ext.alloc ?_ _)))).mono ?_
    rintro e u2 ⟨rfl, hx0⟩
    have hs : Ext u1 u2 := Ext.trans (by repeat (first | with_reducible exact Ext.refl _ | with_reducible refine Ext.alloc ?_ _)) hx0
    replace HA := Lib.hid (HA.out.ext hs)
    replace HB := Lib.hid (HB.out.ext hs)
    replace HC := Lib.hid (HC.out.ext hs)
    replace HD := Lib.hid (HD.out.ext hs)
    replace HBX := Lib.hid (HBX.out.ext hs)
    have hx1 := hx.trans hs
    clear hx hs hx0
    have hx := hx1
    clear hx1
    dsimp only
    go_wp2_with fail
    (go_ret; refine Ret.mk ?_ ?_; (focus (rfl; done)); (focus ((repeat (first | with_reducible exact hx | with_reducible exact Ext.refl _ | with_reducible refine Ext.alloc ?_ _ | with_reducible refine Ext.drewN ?_ _ | with_reducible refine Ext.drew1 ?_ | ((with_reducible refine Ext.setCell ?_ ?_ _); rotate_left; (focus (first | (dsimp only; omega) | (simp; done) | (simp; omega)))))); done)))
  have S1 : Small a := HS.out rfl (A, a, cA) (by simp)
  have S2 : Small s := HS.out rfl (B, s, cB) (by simp)
  have S3 : Small c := HS.out rfl (C, c, cC) (by simp)
  have S4 : Small d := HS.out rfl (D, d, cD) (by simp)
  have F1 := Lib.hid S1.fits
  have F2 := Lib.hid S2.fits
  have F3 := Lib.hid S3.fits
  have F4 := Lib.hid S4.fits
  have n8 : n ≤ 8 := by have := S1.1; have := HN.out; omega
  have m8 : m ≤ 8 := by have := S2.1; have := HM.out; omega
  have k8 : k ≤ 8 := by have := S3.1; have := HK.out; omega
  have j8 : j ≤ 8 := by have := S4.1; have := HJ.out; omega
  clear HS S1 S2 S3 S4
  cases h1 : Sq.mediate a s c d with
  | none =>
    have H1 := Lib.hid h1
    clear h1
    have hb0 := HBX.out
    have hc0 := hb0.cell
    have hl0 := hb0.lt
    go_wp2_with fail
    clear hb0 hc0 hl0
    refine (mediate_any A B C D n cA m cB k cC j cD a s c d _ (HG.out.ext (hx.trans (by repeat (first | with_reducible exact Ext.refl _ | with_reducible refine Ext.alloc ?_ _)))) (HA.out.ext (by repeat (first | with_reducible exact Ext.refl _ | with_reducible refine Ext.alloc ?_ _))) (HB.out.ext (by repeat (first | with_reducible exact Ext.refl _ | with_reducible refine Ext.alloc ?_ _))) (HC.out.ext (by repeat (first | with_reducible exact Ext.refl _ | with_reducible refine Ext.alloc ?_ _))) (HD.out.ext (by repeat (first | with_reducible exact Ext.refl _ | with_reducible refine Ext.alloc ?_ _))) HN.out HM.out HK.out HJ.out HBn.out (by omega) (by omega) (by omega) (by omega) F1.out F2.out F3.out F4.out).mono ?_
    rintro e u2 ⟨h2, hx0⟩
    have hs : Ext u1 u2 := Ext.trans (by repeat (first | with_reducible exact Ext.refl _ | with_reducible refine Ext.alloc ?_ _)) hx0
    replace HA := Lib.hid (HA.out.ext hs)
    replace HB := Lib.hid (HB.out.ext hs)
    replace HC := Lib.hid (HC.out.ext hs)
    replace HD := Lib.hid (HD.out.ext hs)
    replace HBX := Lib.hid (HBX.out.ext hs)
    have hx1 := hx.trans hs
    clear hx hs hx0
    have hx := hx1
    clear hx1
    rcases h2 with ⟨_, rfl⟩ | ⟨l', E, i', cE, hx2, _⟩
    rotate_left
    · exact nomatch H1.out.symm.trans hx2
    dsimp only
    go_wp2_with fail
    refine (HAW.out _ (hx.trans (by repeat (first | with_reducible exact Ext.refl _ | with_reducible refine Ext.alloc ?_ _)))).mono ?_
    rintro e u3 ⟨rfl, hx0⟩
    have hs : Ext u2 u3 := Ext.trans (by repeat (first | with_reducible exact Ext.refl _ | with_reducible refine Ext.alloc ?_ _)) hx0
    replace HA := Lib.hid (HA.out.ext hs)
    replace HB := Lib.hid (HB.out.ext hs)
    replace HC := Lib.hid (HC.out.ext hs)
    replace HD := Lib.hid (HD.out.ext hs)
    replace HBX := Lib.hid (HBX.out.ext hs)
    have hx1 := hx.trans hs
    clear hx hs hx0
    have hx := hx1
    clear hx1
    dsimp only
    go_wp2_with fail
    (go_ret; refine Ret.mk ?_ ?_; (focus (rfl; done)); (focus ((repeat (first | with_reducible exact hx | with_reducible exact Ext.refl _ | with_reducible refine Ext.alloc ?_ _ | with_reducible refine Ext.drewN ?_ _ | with_reducible refine Ext.drew1 ?_ | ((with_reducible refine Ext.setCell ?_ ?_ _); rotate_left; (focus (first | (dsimp only; omega) | (simp; done) | (simp; omega)))))); done)))
  | some l =>
    obtain ⟨fl, ll⟩ := Sq.mediate_some h1 F3.out
    obtain ⟨f, t, h2, h3, h4⟩ := Sq.factors h1
    have H1 := Lib.hid h1
    have H2 := Lib.hid h2
    have H3 := Lib.hid h3
    have H4 := Lib.hid h4
    have FL := Lib.hid fl
    obtain ⟨q, hq⟩ : ∃ q, l.length = q := ⟨_, rfl⟩
    have q8 : q ≤ 8 := by have := HK.out; omega
    have HQ := Lib.hid hq
    have HL1 : Hid (f.length = m) := Lib.hid ((Sq.merge_length h2).1.trans HM.out)
    have HL2 : Hid (t.length = n) := Lib.hid ((Sq.merge_length h2).2.trans HN.out)
    have HL3 : Hid ((f ++ l).length = m + q) := Lib.hid (by have := HL1.out; simp; omega)
    have HL4 : Hid ((t ++ l).length = n + q) := Lib.hid (by have := HL2.out; simp; omega)
    have F5 : Hid (∀ q ∈ f ++ l, q.Fits) := Lib.hid fun q hq => (List.mem_append.1 hq).elim ((merge_fitting h2 F1.out F2.out).1 q) (FL.out q)
    have F6 : Hid (∀ q ∈ t ++ l, q.Fits) := Lib.hid fun q hq => (List.mem_append.1 hq).elim ((merge_fitting h2 F1.out F2.out).2 q) (FL.out q)
    clear h1 h2 h3 h4 fl ll hq
    have hb0 := HBX.out
    have hc0 := hb0.cell
    have hl0 := hb0.lt
    go_wp2_with fail
    clear hb0 hc0 hl0
    refine (mediate_go (HG.out.ext (hx.trans (by repeat (first | with_reducible exact Ext.refl _ | with_reducible refine Ext.alloc ?_ _)))) (HA.out.ext (by repeat (first | with_reducible exact Ext.refl _ | with_reducible refine Ext.alloc ?_ _))) (HB.out.ext (by repeat (first | with_reducible exact Ext.refl _ | with_reducible refine Ext.alloc ?_ _))) (HC.out.ext (by repeat (first | with_reducible exact Ext.refl _ | with_reducible refine Ext.alloc ?_ _))) (HD.out.ext (by repeat (first | with_reducible exact Ext.refl _ | with_reducible refine Ext.alloc ?_ _))) HN.out HM.out HK.out HJ.out HBn.out (by omega) (by omega) (by omega) (by omega) F1.out F2.out F3.out F4.out HQ.out H1.out).mono ?_
    rintro e u2 ⟨E, cE, rfl, HE, hx0⟩
    have hs : Ext u1 u2 := Ext.trans (by repeat (first | with_reducible exact Ext.refl _ | with_reducible refine Ext.alloc ?_ _)) hx0
    replace HA := Lib.hid (HA.out.ext hs)
    replace HB := Lib.hid (HB.out.ext hs)
    replace HC := Lib.hid (HC.out.ext hs)
    replace HD := Lib.hid (HD.out.ext hs)
    replace HBX := Lib.hid (HBX.out.ext hs)
    have hx1 := hx.trans hs
    clear hx hs hx0
    have hx := hx1
    clear hx1
    dsimp only
    have hb0 := HBX.out
    have hc0 := hb0.cell
    have hl0 := hb0.lt
    go_wp2_with fail
    clear hb0 hc0 hl0
    refine (seqmerge_go (HG.out.ext (hx.trans (by repeat (first | with_reducible exact Ext.refl _ | with_reducible refine Ext.alloc ?_ _)))) (HA.out.ext (by repeat (first | with_reducible exact Ext.refl _ | with_reducible refine Ext.alloc ?_ _))) (HB.out.ext (by repeat (first | with_reducible exact Ext.refl _ | with_reducible refine Ext.alloc ?_ _))) HN.out HM.out HBn.out (by omega) (by omega) F1.out F2.out H2.out).mono ?_
    rintro e u3 ⟨A1, c1, A2, c2, rfl, HY, HO, _, hx0⟩
    have hs : Ext u2 u3 := Ext.trans (by repeat (first | with_reducible exact Ext.refl _ | with_reducible refine Ext.alloc ?_ _)) hx0
    replace HA := Lib.hid (HA.out.ext hs)
    replace HB := Lib.hid (HB.out.ext hs)
    replace HC := Lib.hid (HC.out.ext hs)
    replace HD := Lib.hid (HD.out.ext hs)
    replace HBX := Lib.hid (HBX.out.ext hs)
    replace HE := Lib.hid (HE.out.ext hs)
    have hx1 := hx.trans hs
    clear hx hs hx0
    have hx := hx1
    clear hx1
    dsimp only
    go_upto_region 7 with fail
    generalize hw3 : World.alloc u3 _ = w3
    have hs : Ext u3 w3 := by rw [← hw3]; exact (Ext.refl u3).alloc _
    replace HA := Lib.hid (HA.out.ext hs)
    replace HB := Lib.hid (HB.out.ext hs)
    replace HC := Lib.hid (HC.out.ext hs)
    replace HD := Lib.hid (HD.out.ext hs)
    replace HBX := Lib.hid (HBX.out.ext hs)
    replace HE := Lib.hid (HE.out.ext hs)
    replace HY := Lib.hid (HY.out.ext hs)
    replace HO := Lib.hid (HO.out.ext hs)
    have hx1 := hx.trans hs
    clear hx hs hw3
    have hx := hx1
    clear hx1
    refine wp_region_noPanic (wp_region_held_drew (S := fun w' => Ext w3 w') (by kernel_rfl) (Ext.refl w3).drew1 (fun hv => ?_))
    generalize w3.drew = v0 at hv ⊢
    refine take_free (i := 0) (v := .bool true) rfl rfl (by kernel_rfl) (by kernel_rfl) (by kernel_rfl) (by kernel_rfl) (fun _ => rfl) hv ?_
    try simp only [Act.put, List.setIfInBounds_toArray, List.set_cons_zero, List.set_cons_succ]
    refine take_free (i := 1) (v := .bool true) rfl rfl (by kernel_rfl) (by kernel_rfl) (by kernel_rfl) (by kernel_rfl) (fun _ => rfl) hv ?_
    try simp only [Act.put, List.setIfInBounds_toArray, List.set_cons_zero, List.set_cons_succ]
    refine take_free (i := 2) (v := .pointer (some ⟨w.heap.size, 2, none⟩)) rfl rfl (by kernel_rfl) (by kernel_rfl) (by kernel_rfl) (by kernel_rfl) (fun _ => rfl) hv ?_
    try simp only [Act.put, List.setIfInBounds_toArray, List.set_cons_zero, List.set_cons_succ]
    refine take_any (i := 3) (v := .slice C k cC) rfl rfl (by kernel_rfl) (by kernel_rfl) (by kernel_rfl) (.inl ⟨(by kernel_rfl), fun W' hW' => ?ld⟩) hv ?_
    case ld =>
      have hcx := (HBX.out.ext hW').cell
      go_simp
    try simp only [Act.put, List.setIfInBounds_toArray, List.set_cons_zero, List.set_cons_succ]
    refine take_free (i := 4) (v := .slice A1 m c1) rfl rfl (by kernel_rfl) (by kernel_rfl) (by kernel_rfl) (by kernel_rfl) (fun _ => rfl) hv ?_
    try simp only [Act.put, List.setIfInBounds_toArray, List.set_cons_zero, List.set_cons_succ]
    refine take_free (i := 5) (v := .slice E q cE) rfl rfl (by kernel_rfl) (by kernel_rfl) (by kernel_rfl) (by kernel_rfl) (fun _ => rfl) hv ?_
    try simp only [Act.put, List.setIfInBounds_toArray, List.set_cons_zero, List.set_cons_succ]
    refine wpAnyH_one (i := 6) (by kernel_rfl) rfl (by kernel_rfl) ?_
    go_simp
    refine (join_go (HY.out.ext hv) (HE.out.ext hv) HL1.out HQ.out (by omega) (by omega)).mono ?_
    rintro e v1 ⟨D1, d1, rfl, HJ1, hx0⟩
    have hv2 := hv.trans hx0
    clear hv hx0
    have hv := hv2
    clear hv2
    refine ⟨hv, ?_⟩
    try simp only [Act.put, List.setIfInBounds_toArray, List.set_cons_zero, List.set_cons_succ]
    refine wpAnyH_one (i := 7) (by kernel_rfl) rfl (by kernel_rfl) ?_
    go_simp
    refine (seqsame_any C D1 k cC (m + q) d1 c (f ++ l) _ (HG.out.ext (hx.trans hv)) (HC.out.ext hv) HJ1.out HK.out HL3.out (by omega) (by omega) F3.out F5.out).mono ?_
    rintro e v2 ⟨h9, hx0⟩
    rw [H3.out] at h9
    subst h9
    clear HJ1
    have hv2 := hv.trans hx0
    clear hv hx0
    have hv := hv2
    clear hv2
    refine ⟨hv, ?_⟩
    try simp only [Act.put, List.setIfInBounds_toArray, List.set_cons_zero, List.set_cons_succ]
    refine take_free (i := 8) (v := .bool true) rfl rfl (by kernel_rfl) (by kernel_rfl) (by kernel_rfl) (by kernel_rfl) (fun _ => rfl) hv ?_
    try simp only [Act.put, List.setIfInBounds_toArray, List.set_cons_zero, List.set_cons_succ]
    refine take_free (i := 9) (v := .bool true) rfl rfl (by kernel_rfl) (by kernel_rfl) (by kernel_rfl) (by kernel_rfl) (fun _ => rfl) hv ?_
    try simp only [Act.put, List.setIfInBounds_toArray, List.set_cons_zero, List.set_cons_succ]
    refine take_free (i := 10) (v := .pointer (some ⟨w.heap.size, 3, none⟩)) rfl rfl (by kernel_rfl) (by kernel_rfl) (by kernel_rfl) (by kernel_rfl) (fun _ => rfl) hv ?_
    try simp only [Act.put, List.setIfInBounds_toArray, List.set_cons_zero, List.set_cons_succ]
    refine take_any (i := 11) (v := .slice D j cD) rfl rfl (by kernel_rfl) (by kernel_rfl) (by kernel_rfl) (.inl ⟨(by kernel_rfl), fun W' hW' => ?ld⟩) hv ?_
    case ld =>
      have hcx := (HBX.out.ext hW').cell
      go_simp
    try simp only [Act.put, List.setIfInBounds_toArray, List.set_cons_zero, List.set_cons_succ]
    refine take_free (i := 12) (v := .slice A2 n c2) rfl rfl (by kernel_rfl) (by kernel_rfl) (by kernel_rfl) (by kernel_rfl) (fun _ => rfl) hv ?_
    try simp only [Act.put, List.setIfInBounds_toArray, List.set_cons_zero, List.set_cons_succ]
    refine take_free (i := 13) (v := .slice E q cE) rfl rfl (by kernel_rfl) (by kernel_rfl) (by kernel_rfl) (by kernel_rfl) (fun _ => rfl) hv ?_
    try simp only [Act.put, List.setIfInBounds_toArray, List.set_cons_zero, List.set_cons_succ]
    refine wpAnyH_one (i := 14) (by kernel_rfl) rfl (by kernel_rfl) ?_
    go_simp
    refine (join_go (HO.out.ext hv) (HE.out.ext hv) HL2.out HQ.out (by omega) (by omega)).mono ?_
    rintro e v3 ⟨D2, d2, rfl, HJ2, hx0⟩
    have hv2 := hv.trans hx0
    clear hv hx0
    have hv := hv2
    clear hv2
    refine ⟨hv, ?_⟩
    try simp only [Act.put, List.setIfInBounds_toArray, List.set_cons_zero, List.set_cons_succ]
    refine wpAnyH_one (i := 15) (by kernel_rfl) rfl (by kernel_rfl) ?_
    go_simp
    refine (seqsame_any D D2 j cD (n + q) d2 d (t ++ l) _ (HG.out.ext (hx.trans hv)) (HD.out.ext hv) HJ2.out HJ.out HL4.out (by omega) (by omega) F4.out F6.out).mono ?_
    rintro e v4 ⟨h9, hx0⟩
    rw [H4.out] at h9
    subst h9
    clear HJ2
    have hv2 := hv.trans hx0
    clear hv hx0
    have hv := hv2
    clear hv2
    refine ⟨hv, ?_⟩
    try simp only [Act.put, List.setIfInBounds_toArray, List.set_cons_zero, List.set_cons_succ]
    refine take_free (i := 16) (v := .bool true) rfl rfl (by kernel_rfl) (by kernel_rfl) (by kernel_rfl) (by kernel_rfl) (fun _ => rfl) hv ?_
    try simp only [Act.put, List.setIfInBounds_toArray, List.set_cons_zero, List.set_cons_succ]
    refine take_free (i := 17) (v := .bool true) rfl rfl (by kernel_rfl) (by kernel_rfl) (by kernel_rfl) (by kernel_rfl) (fun _ => rfl) hv ?_
    try simp only [Act.put, List.setIfInBounds_toArray, List.set_cons_zero, List.set_cons_succ]
    refine wpAnyH_one (i := 18) (by kernel_rfl) rfl (by kernel_rfl) ?_
    go_simp
    refine (HAW.out _ (hx.trans hv)).mono ?_
    rintro e v5 ⟨rfl, hx0⟩
    have hv2 := hv.trans hx0
    clear hv hx0
    have hv := hv2
    clear hv2
    refine ⟨hv, ?_⟩
    try simp only [Act.put, List.setIfInBounds_toArray, List.set_cons_zero, List.set_cons_succ]
    refine take_free (i := 19) (v := .bool true) rfl rfl (by kernel_rfl) (by kernel_rfl) (by kernel_rfl) (by kernel_rfl) (fun _ => rfl) hv ?_
    try simp only [Act.put, List.setIfInBounds_toArray, List.set_cons_zero, List.set_cons_succ]
    refine take_free (i := 20) (v := .bool true) rfl rfl (by kernel_rfl) (by kernel_rfl) (by kernel_rfl) (by kernel_rfl) (fun _ => rfl) hv ?_
    try simp only [Act.put, List.setIfInBounds_toArray, List.set_cons_zero, List.set_cons_succ]
    refine wpAnyH_done (by kernel_rfl) (NoPanic.normal ?_) _
    have hx1 := hx.trans hv
    clear hx hv
    have hx := hx1
    clear hx1
    go_wp2_with fail
    (go_ret; refine Ret.mk ?_ ?_; (focus (rfl; done)); (focus ((repeat (first | with_reducible exact hx | with_reducible exact Ext.refl _ | with_reducible refine Ext.alloc ?_ _ | with_reducible refine Ext.drewN ?_ _ | with_reducible refine Ext.drew1 ?_ | ((with_reducible refine Ext.setCell ?_ ?_ _); rotate_left; (focus (first | (dsimp only; omega) | (simp; done) | (simp; omega)))))); done)))
end Go.Proofs.YtgjphfmpodkgeaaGreatDoor
namespace Go.Proofs.YtgjphfmpodkgeaaGreatDoor.PushoutFactors
open Go.ChangeShapes Go.WideShapes Go.ChangeAt Go.RowKit Go.Deep

theorem own : ownKnob Tryz.prog.godebug = none := by kernel_rfl
theorem listIn : 53 < Tryz.prog.types.size := of_decide_eq_true (by kernel_rfl)
theorem glob {W : World} (h : W.ShapedOpen Tryz.prog) : Glob W :=
  cell_of_shapedOpen_int (zero := #[.int .i64 0]) (t := 3) h (of_decide_eq_true (by kernel_rfl)) (by kernel_rfl) rfl (by kernel_rfl) (by kernel_rfl) Tryz.underlying3

theorem cFour : Tryz.prog.cellsOf 53 = 4 := by kernel_rfl
theorem cPrims : Tryz.prog.cellsOf 22 = 1 := by kernel_rfl
/-- A list that came in. -/
structure Came (W : World) (A : Option Addr) (l : List Qp) (c : Nat) : Prop where
  qs : Qs W (fun _ => True) A l
  le : l.length ≤ c
  ub : c ≤ 879609302195
  nn : A = none → c = 0
  meek : ∀ q ∈ l, q.Meek
theorem Came.sz {W : World} {A : Option Addr} {l : List Qp} {c : Nat} (h : Came W A l c) : ∀ q ∈ l, q.old.length ≤ 1152921504606846976 ∧ q.new.length ≤ 1152921504606846976 := fun q hq => ⟨(h.meek q hq).old, (h.meek q hq).new⟩
set_option maxHeartbeats 2000000 in
set_option maxRecDepth 100000 in
/-- Four lists that came in. -/
theorem open_four {H : Type} {enc : TypeId × Value → H} {W : World} {held : Bool} {b0 : Nat} {v : Value} {d : DataW H} {ps : List MemPlace} (hval : Value.okWide Tryz.prog W .any b0 53 v) (hd : DataW.Trod enc Tryz.prog W 0 (fun _ => true) held 53 v d ps) (hw : ∀ n ∈ d.weights Tryz.prog 53, n ≤ reachBytes) :
    ∃ A0 l0 c0 A1 l1 c1 A2 l2 c2 A3 l3 c3, v = .agg #[.slice A0 l0.length c0, .slice A1 l1.length c1, .slice A2 l2.length c2, .slice A3 l3.length c3] ∧ Came W A0 l0 c0 ∧ Came W A1 l1 c1 ∧ Came W A2 l2 c2 ∧ Came W A3 l3 c3 := by
  obtain ⟨cs, rfl, hcs⟩ := okWide_struct Tryz.underlying53 hval
  rw [cFour] at hcs
  obtain ⟨fuel, h⟩ := hd
  obtain ⟨l⟩ := cs
  match l, hcs with
  | [v0, v1, v2, v3], _ =>
    obtain ⟨xs, n, _, hx, _, hxl, hf⟩ := DataW.trod_struct Tryz.underlying53 h
    have hxl3 : xs.length = 4 := hxl
    match xs, hxl3 with
    | [y0, y1, y2, y3], _ =>
      have e0 : DataW.trod enc Tryz.prog W 0 (fun _ => true) held n 22 (([v0, v1, v2, v3].drop 0).take (Tryz.prog.cellsOf 22)) = some y0 := hf 0 _ rfl
      rw [cPrims] at e0
      have e0 : DataW.trod enc Tryz.prog W 0 (fun _ => true) held n 22 [v0] = some y0 := e0
      have e1 : DataW.trod enc Tryz.prog W 0 (fun _ => true) held n 22 (([v0, v1, v2, v3].drop 1).take (Tryz.prog.cellsOf 22)) = some y1 := hf 1 _ rfl
      rw [cPrims] at e1
      have e1 : DataW.trod enc Tryz.prog W 0 (fun _ => true) held n 22 [v1] = some y1 := e1
      have e2 : DataW.trod enc Tryz.prog W 0 (fun _ => true) held n 22 (([v0, v1, v2, v3].drop 2).take (Tryz.prog.cellsOf 22)) = some y2 := hf 2 _ rfl
      rw [cPrims] at e2
      have e2 : DataW.trod enc Tryz.prog W 0 (fun _ => true) held n 22 [v2] = some y2 := e2
      have e3 : DataW.trod enc Tryz.prog W 0 (fun _ => true) held n 22 (([v0, v1, v2, v3].drop 3).take (Tryz.prog.cellsOf 22)) = some y3 := hf 3 _ rfl
      rw [cPrims] at e3
      have e3 : DataW.trod enc Tryz.prog W 0 (fun _ => true) held n 22 [v3] = some y3 := e3
      have ed : d = .agg ([y0, y1, y2, y3].map (·.1)) := congrArg Prod.fst hx
      subst ed
      have hu : Tryz.prog.underlying 53 = some (.struct _) := Tryz.underlying53
      simp only [DataW.weights, hu] at hw
      obtain ⟨A0, l0, c0, rfl, q0, a0, b0, n0, m0⟩ := open_prims e0 (weights_mem (j := 0) hw rfl rfl)
      obtain ⟨A1, l1, c1, rfl, q1, a1, b1, n1, m1⟩ := open_prims e1 (weights_mem (j := 1) hw rfl rfl)
      obtain ⟨A2, l2, c2, rfl, q2, a2, b2, n2, m2⟩ := open_prims e2 (weights_mem (j := 2) hw rfl rfl)
      obtain ⟨A3, l3, c3, rfl, q3, a3, b3, n3, m3⟩ := open_prims e3 (weights_mem (j := 3) hw rfl rfl)
      exact ⟨A0, l0, c0, A1, l1, c1, A2, l2, c2, A3, l3, c3, rfl, ⟨q0, a0, b0, n0, m0⟩, ⟨q1, a1, b1, n1, m1⟩, ⟨q2, a2, b2, n2, m2⟩, ⟨q3, a3, b3, n3, m3⟩⟩

set_option maxHeartbeats 2000000 in
set_option maxRecDepth 100000 in
theorem contract (H : Type) (enc : TypeId × Value → H) (W : World) (base : Nat) (args : Array Value) (ds gs : List (DataW H)) (before : List MemPlace)
    (hval : ∀ (j : Nat) t v, Tryz.f11.params[j]? = some t → args[j]? = some v → Value.okWide Tryz.prog W .any base t v)
    (hW : DataW.Whole enc Tryz.prog Tryz.f11.params.toList Rows.pushoutFactorsSpec.vars false W args.toList ds gs before)
    (hwt : ∀ n ∈ DataW.weightsEach Tryz.prog (Tryz.f11.params.toList ++ (OpenSpec.ofChange Rows.pushoutFactorsSpec).bare.plain.varTypes Tryz.prog) (ds ++ gs), n ≤ reachBytes) (hS : W.ShapedOpen Tryz.prog) :
    Calls Tryz.prog 11 args W fun e W' => ∃ v, e = .returned v ∧ Rows.pushoutFactorsSpec.post enc Tryz.prog Tryz.f11 false true false false W args v W' := by
  have hW' := hW
  obtain ⟨p, q, hA0, hV, rfl, hfz, hnd⟩ := hW
  have hA : DataW.TrodAll enc Tryz.prog W 0 (fun _ => true) true Tryz.f11.params.toList args.toList ds p := hA0
  rw [Tryz.params11] at hA hval hwt
  obtain ⟨v0, vs0, d0, ds0, p0, q0, hargs, rfl, rfl, h0, r0⟩ := trodAll_cons hA
  obtain ⟨rfl, rfl, rfl⟩ := trodAll_nil r0
  obtain rfl : args = #[v0] := by cases args; simp_all
  obtain ⟨rfl, rfl⟩ := trodVars_none hV
  obtain ⟨A0, l0, c0, A1, l1, c1, A2, l2, c2, A3, l3, c3, rfl, o0, o1, o2, o3⟩ := open_four (hval 0 53 v0 rfl rfl) h0 (weights_mem (j := 0) hwt rfl rfl)
  clear hA0
  refine (factors_walk A0 A1 A2 A3 l0.length c0 l1.length c1 l2.length c2 l3.length c3 l0 l1 l2 l3 W (glob hS) o0.qs o1.qs o2.qs o3.qs rfl rfl rfl rfl o1.nn o1.le (by have := o0.le; have := o0.ub; omega) (by have := o1.le; have := o1.ub; omega) (by have := o2.le; have := o2.ub; omega) (by have := o3.le; have := o3.ub; omega) o0.sz o1.sz o2.sz o3.sz).mono fun e W' ⟨he, hx⟩ => ?_
  refine ⟨_, he, post_of_ext rfl hW' hx (fun t ht => ?_) (fun _ _ _ => trodAll_cons_mk (shut_bool Tryz.underlying4 _) trodAll_mk0) rfl rfl (ok_one (by kernel_rfl) rfl (okWide_bool_mk Tryz.underlying4 _))⟩
  rw [Tryz.params11] at ht
  obtain rfl : t = 53 := by simpa using ht
  exact listIn

/-! ### The witness: no patches -/
def zeroV : Value := .agg #[.slice none 0 0, .slice none 0 0, .slice none 0 0, .slice none 0 0]
def zeroD {H : Type} : DataW H := .agg [.nil, .nil, .nil, .nil]
theorem reads (os : Os) {H : Type} (enc : TypeId × Value → H) : DataW.whole enc Tryz.prog ((World.laidAll Tryz.prog os Rows.pushoutFactorsRow.laid).forCall (fun _ _ => 0) ⟨#[], #[zeroV], []⟩).memory Tryz.f11.params.toList Rows.pushoutFactorsSpec.vars false #[zeroV].toList 8 = some ([zeroD], [], []) := by kernel_rfl
theorem laid_met (os : Os) : laidMet Tryz.prog Rows.pushoutFactorsRow.laid ((World.laidAll Tryz.prog os Rows.pushoutFactorsRow.laid).forCall (fun _ _ => 0) ⟨#[], #[zeroV], []⟩).memory :=
  laidMet_laidAll _ (by kernel_rfl) (by kernel_rfl)

set_option maxRecDepth 100000 in
theorem lifted (os : Os) (started : os.Started) (H : Type) (enc : TypeId × Value → H) (F : Stop.Interp) :
    ReturnsInHanded {} Tryz.checked os 11 .any ((OpenSpec.ofChange Rows.pushoutFactorsSpec).preRow enc Tryz.prog Tryz.f11 Rows.pushoutFactorsRow.domain false Rows.pushoutFactorsRow.laid) (((OpenSpec.ofChange Rows.pushoutFactorsSpec).at F).post enc Tryz.prog Tryz.f11 false true false false) := by
  refine returnsInHanded_of_row (C := Tryz.checked) (s := (OpenSpec.ofChange Rows.pushoutFactorsSpec)) own started (by kernel_rfl) Tryz.func11
    (witness_row_at (enc := enc) (C := Tryz.checked) false (World.laidAll Tryz.prog os Rows.pushoutFactorsRow.laid) #[zeroV] (World.laidAll_os _ _ _) (by kernel_rfl) (by kernel_rfl) (by kernel_rfl)
      (OpenSpec.preRow_of_cond 8 (reads os enc) (by kernel_rfl) (fun k hk => by cases hk) (by kernel_rfl) (laid_met os))) ?_
  intro W base args ds gs before hval hW _ hcond hwt _ hS _
  exact contract H enc W base args ds gs before hval hW (fun n hn => of_decide_eq_true (List.all_eq_true.1 hwt n hn)) hS

theorem said : Rows.PushoutFactorsSaid :=
  OpenClaim.holds_of_cond 11 Tryz.f11 rfl rfl rfl rfl rfl rfl rfl ⟨rfl, rfl, rfl, rfl, rfl⟩ rfl rfl rfl rfl rfl (by kernel_rfl) Tryz.func11 (by kernel_rfl)
    (of_decide_eq_true (by kernel_rfl)) (by unfold Func.isWrapper; first | (rw [if_pos (by decide +kernel)]; kernel_rfl) | (rw [if_neg (by decide +kernel)]; exact ⟨rfl, rfl⟩))
    (fun os started H enc _ F => by rw [OpenClaim.pre_eq_preRow]; exact lifted os started H enc F)

/-- No parameter wants a stand-in; the program's own looks are off. -/
theorem plain (f : FuncId) (fn : Func) (hf : Tryz.pinned.checked.prog.funcNamed Rows.pushoutFactorsRow.func = some f) (hfn : Tryz.pinned.checked.prog.funcs[f]? = some fn) :
    false = Tryz.pinned.checked.prog.looks [] ∧ ∀ (j : Nat) t, fn.params[j]? = some t → Tryz.pinned.checked.prog.wantsStandIn t = false := by
  obtain rfl : f = 11 := Option.some.inj ((show Tryz.prog.funcNamed Rows.pushoutFactorsRow.func = some 11 by kernel_rfl).symm.trans hf) |>.symm
  obtain rfl : fn = Tryz.f11 := (Option.some.inj (Tryz.func11.symm.trans hfn)).symm
  refine ⟨by kernel_rfl, fun j t ht => ?_⟩
  rw [Tryz.params11] at ht
  obtain rfl : t = 53 := by simpa using Array.mem_of_getElem? ht
  exact (show Tryz.prog.wantsStandIn 53 = false by kernel_rfl)

theorem card : Rows.PushoutFactorsCardSaid :=
  Claim7.holds_tied_plain_at .later [] _ _ _ _ said (fun _ h => by cases h) (by kernel_rfl) (fun _ h => by cases h) pushoutFactors_row_tie rfl ⟨rfl, rfl⟩ (by kernel_rfl) rfl plain (by kernel_rfl)
end Go.Proofs.YtgjphfmpodkgeaaGreatDoor.PushoutFactors
