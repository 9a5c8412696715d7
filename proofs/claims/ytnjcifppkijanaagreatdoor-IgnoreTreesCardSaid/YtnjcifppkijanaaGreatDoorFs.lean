/- Walks: IgnoreTrees. -/
import Derived.Test.YtnjcifppkijanaaGreatDoorJFk
import Derived.Test.YtnjcifppkijanaaGreatDoorPL
import Derived.Test.YtnjcifppkijanaaGreatDoorTi
set_option linter.unusedSimpArgs false
set_option linter.unusedVariables false
namespace Go.Proofs.YtnjcifppkijanaaGreatDoor
open Go Go.RowKit Go.Shelf
theorem Trs.tail {w : World} {b o : Nat} {f : Pf} {l : List Pf} (h : Trs w (some ⟨b, o, none⟩) (f :: l)) : Trs w (some ⟨b, o + 4, none⟩) l := fun h0 => by
  obtain ⟨b', o', e, hb, hr⟩ := h (Nat.succ_pos _)
  cases e
  refine ⟨b, o + 4, rfl, hb, fun j v hv => ?_⟩
  have := hr (4 + j) v (by
    show (f.v.cells.toList ++ fl l)[4 + j]? = some v
    rw [List.getElem?_append_right (by simp [Pf.v, Value.cells])]
    simpa [Pf.v, Value.cells] using hv)
  rw [show o + 4 + j = o + (4 + j) by omega]
  exact this
theorem keep_drop (l : List Ig.Fi) {t : List Pf} {k : Nat} {f : Pf} (h : t[k]? = some f) : (t.drop k).filter (Ig.keep l) = (if Ig.keep l f = true then [f] else []) ++ (t.drop (k + 1)).filter (Ig.keep l) := by
  obtain ⟨h1, h2⟩ := List.getElem?_eq_some_iff.1 h
  rw [List.drop_eq_getElem_cons h1, h2]
  cases hk : Ig.keep l f
  · simp [hk]
  · simp [hk]
set_option maxHeartbeats 16000000 in
set_option maxRecDepth 100000 in
theorem trees_walk (A B : Option Addr) (n c m d : Nat) (l : List Ig.Fi) (t : List Pf) (w : World) (hg : Glob w) (h : Fis w All A l) (hn : l.length = n) (hb : n ≤ 4611686018427387904) (hrl : ∀ f ∈ l, f.rules.length ≤ 4611686018427387904)
    (ht : Trs w B t) (hm : t.length = m) (hbm : m ≤ 1000000000000000) (hz : ∀ f ∈ t, f.path.size ≤ 140737488355328 ∧ f.data.size ≤ 140737488355328) :
    Calls Tryz.prog 9 #[.slice A n c, .slice B m d] w (Ret (.bool true) w) := by
  have HG := Lib.hid hg
  have HL := Lib.hid h
  have HN := Lib.hid hn
  have HT := Lib.hid ht
  have HM := Lib.hid hm
  have HGR := Lib.hid (great39_any A n c l w h hn hb hrl)
  have HGT : Hid (∀ W, Ext w W → Calls Tryz.prog 28 #[.slice B m d] W (Ret (.bool (Tr.great t)) W)) := Lib.hid fun W hW => greattree_any B m d t W (ht.ext hW) hm hbm hz
  obtain ⟨gr, hgr⟩ : ∃ gr, gr = Ig.great l := ⟨_, rfl⟩
  obtain ⟨gt, hgt⟩ : ∃ gt, gt = Tr.great t := ⟨_, rfl⟩
  rw [← hgr] at HGR
  rw [← hgt] at HGT
  have HE := Lib.hid hgr
  have HET := Lib.hid hgt
  have HAW : Hid (∀ W, Ext w W → Calls Tryz.prog 11 #[] W (Ret (.bool true) W)) := Lib.hid fun W hW => awake39_any W (HG.out.ext hW)
  have hx := Ext.refl w
  clear h hn hg hgr hrl ht hm hz hgt
  go_enter Tryz.func9, Tryz.ntmps9
  go_wp2_with fail
  refine HGR.out.mono ?_
  rintro e w1 ⟨rfl, hx0⟩
  have HX := Lib.hid (hx.trans hx0)
  clear hx hx0 HGR
  cases gr with
  | true =>
    go_wp2_with fail
    refine (HAW.out _ HX.out).mono ?_
    rintro e w2 ⟨rfl, hx0⟩
    have HX2 := Lib.hid (HX.out.trans hx0)
    clear hx0
    go_wp2_with fail
    go_ret
    exact ⟨rfl, HX2.out⟩
  | false =>
    go_wp2_with fail
    refine (HGT.out _ HX.out).mono ?_
    rintro e w2 ⟨rfl, hx0⟩
    have HX2 := Lib.hid (HX.out.trans hx0)
    clear hx0 HX HGT
    cases gt with
    | true =>
      go_wp2_with fail
      refine (HAW.out _ HX2.out).mono ?_
      rintro e w3 ⟨rfl, hx0⟩
      have HX3 := Lib.hid (HX2.out.trans hx0)
      clear hx0
      go_wp2_with fail
      go_ret
      exact ⟨rfl, HX3.out⟩
    | false =>
      have hn1 : n ≤ 5 := by rw [← HN.out]; exact (Ig.great_false HE.out.symm).1
      have HF := Lib.hid (Ig.great_false HE.out.symm).2
      have hm1 : m ≤ 12 := by
        have := HET.out.symm
        unfold Tr.great at this
        rw [Bool.or_eq_false_iff] at this
        have h1 := this.1
        simp at h1
        rw [← HM.out]
        exact h1
      have HFI := Lib.hid (filter_any A n c l B m d t w2 HN.out (by omega) (Sls.ext FiR.steadfast HL.out HX2.out) HF.out (HT.out.ext HX2.out) HM.out (by omega) (HG.out.ext HX2.out))
      obtain ⟨fr, hfr⟩ : ∃ z, z = Ig.filt l t := ⟨_, rfl⟩
      rw [← hfr] at HFI
      obtain ⟨xs, er⟩ := fr
      have HFR := Lib.hid hfr
      clear hfr
      go_wp2_with fail
      refine HFI.out.mono ?_
      rintro e w3 ⟨A3, n3, c3, rfl, hn3, hnc3, ht3, -, hx3⟩
      have HX3 := Lib.hid (HX2.out.trans hx3)
      have HT3 := Lib.hid ht3
      have HN3 := Lib.hid hn3
      clear hx3 HFI HX2 ht3 hn3
      have HCH : Hid (∀ W, Ext w W → Calls Tryz.prog 18 #[.slice A n c] W (Ret (.int .i64 (Ig.fcheck l)) W)) := Lib.hid fun W hW => icheck_any A n c l W (Sls.ext FiR.steadfast HL.out hW) HN.out (by omega) HF.out (HG.out.ext hW)
      by_cases he : er = 0
      · subst he
        have htl := Ig.trees_law (l := l) (t := t) (by rw [← HFR.out])
        obtain ⟨h1, h2, h3, h4, h5⟩ := htl
        rw [← HFR.out] at h3
        dsimp only at h3
        have H1 := Lib.hid h1
        have H3 := Lib.hid h3
        have H4 := Lib.hid h4
        have H5 := Lib.hid h5
        have HGD := Lib.hid (Tr.good_iff.1 h2)
        have HIG : Hid (∀ (q : ByteArray) (d : Bool) W, Ext w W → q.size ≤ 200 → Calls Tryz.prog 23 #[.slice A n c, .string q, .bool d] W (Ret (.bool (Ig.Ignored l q d)) W)) := Lib.hid fun q d W hW hq => Ignored_any A n c l q d W HN.out (by omega) (Sls.ext FiR.steadfast HL.out hW) HF.out (by omega) (HG.out.ext hW)
        clear h1 h2 h3 h4 h5 HFR
        go_wp2_with fail
        go_loopw [7, 46] (fun u v wr => ∃ (k r cr : Nat) (A' : Option Addr), u = .slice A' r cr ∧ v = .int .i64 k ∧ k ≤ m ∧ r ≤ cr ∧ r ≤ 12 ∧ Hid (((t.drop k).filter (Ig.keep l)).length = r) ∧ Hid (Trs w3 A' ((t.drop k).filter (Ig.keep l))) ∧ Hid (Ext w3 wr)) (fun _ v _ => m - (intOf v).toNat)
        case atStart => exact ⟨0, n3, c3, A3, rfl, rfl, Nat.zero_le _, hnc3, by rw [← HN3.out, H3.out]; exact Nat.le_trans (List.length_filter_le _ _) (by rw [HM.out]; exact hm1), Lib.hid (by rw [← HN3.out, H3.out]; rfl), Lib.hid (by have := HT3.out; rw [H3.out] at this; exact this), Lib.hid (Ext.refl w3)⟩
        case round =>
          rename World => wo
          obtain ⟨k, r, cr, A', rfl, rfl, hk, hrc, hr12, HRL, HRT, HXR⟩ := hrel
          by_cases hlt : k < m
          · have hkl : k < t.length := by rw [HM.out]; exact hlt
            have e0 : t[k]? = some (t[k]'hkl) := List.getElem?_eq_getElem hkl
            have hgd := HGD.out.el _ (List.getElem_mem hkl)
            obtain ⟨b, o, rfl, hbl, c0, c1, c2, c3'⟩ := (HT.out.ext (HX3.out.trans HXR.out)).get e0
            generalize t[k]'hkl = f at e0 c0 c1 c2 c3' hgd
            have HKD := Lib.hid (keep_drop l e0)
            have hpz := Ig.path_size (Tr.element_path hgd)
            have hpp := Tr.element_path hgd
            have HX1 := Lib.hid (HXR.out.alloc (.cells #[.string f.path, .int .i64 f.ty, .int .i64 f.mode, .string f.data] 54))
            have HB1 := Lib.hid (Blk.new' (w := wo) (g := wo.heap.size) (cs := #[.string f.path, .int .i64 f.ty, .int .i64 f.mode, .string f.data]) (t := 54) rfl)
            obtain ⟨ig, hig⟩ : ∃ z, z = Ig.Ignored l f.path (f.ty == 4) := ⟨_, rfl⟩
            have HKE : Hid (Ig.keep l f = !ig) := Lib.hid (by
              rw [hig]
              unfold Ig.Ignored Ig.keep
              rw [decide_eq_true H1.out, hpp]
              simp)
            have HCA := Lib.hid (HIG.out f.path (f.ty == 4) _ (HX3.out.trans HX1.out) hpz)
            rw [← hig] at HCA
            obtain ⟨hcr, hfr, hlr⟩ := HB1.out.all
            clear hkl e0 hgd hpz hpp hig
            go_wp2_with fail
            refine HCA.out.mono ?_
            rintro e w4 ⟨rfl, hx4⟩
            have HX4 := Lib.hid (HX1.out.trans hx4)
            have HB4 := Lib.hid (Blk.ext hx4 HB1.out)
            clear hcr hfr hlr hx4 HCA HX1 HB1 c0 c1 c2 c3'
            cases ig with
            | true =>
              have hke : (t.drop k).filter (Ig.keep l) = (t.drop (k + 1)).filter (Ig.keep l) := by rw [HKD.out, HKE.out]; rfl
              rw [hke] at HRL HRT
              clear hke
              go_wp2_with fail
              go_roundw
              case rel => exact ⟨k + 1, r, cr, A', rfl, rfl, hlt, hrc, hr12, HRL, HRT, HX4⟩
              case measure => simp [intOf]; omega
            | false =>
              have hke : (t.drop k).filter (Ig.keep l) = f :: (t.drop (k + 1)).filter (Ig.keep l) := by rw [HKD.out, HKE.out]; rfl
              rw [hke] at HRL HRT
              clear hke
              obtain ⟨r1, rfl⟩ : ∃ r1, r = r1 + 1 := ⟨r - 1, by have := HRL.out; simp at this; omega⟩
              obtain ⟨b2, o2, rfl, hbl2, d0, d1, d2, d3⟩ := (HRT.out.ext HX4.out).get (i := 0) rfl
              have HRT2 := Lib.hid HRT.out.tail
              have HRL2 : Hid (((t.drop (k + 1)).filter (Ig.keep l)).length = r1) := Lib.hid (by have := HRL.out; simpa using this)
              obtain ⟨hcr, hfr, hlr⟩ := HB4.out.all
              have e1 : ((((r1 + 1 : Nat) : Int)) == 0) = false := beq_eq_false_iff_ne.2 (by omega)
              have e2 : (((r1 : Int) + 1) == 0) = false := beq_eq_false_iff_ne.2 (by omega)
              have p1 : (0 : Int) < (r1 : Int) + 1 := by omega
              have p2 : (1 : Int) ≤ (r1 : Int) + 1 := by omega
              have p3 : (1 : Int) ≤ (cr : Int) := by omega
              have p4 : (r1 : Int) + 1 ≤ (cr : Int) := by omega
              simp only [Nat.zero_mul, Nat.add_zero] at d0 d1 d2 d3
              clear HRT HRL HKD
              go_wp2_with (go_quiet (fail))
              have HRT3 : Hid (Trs w3 (if cr = 1 then some ⟨b2, o2, none⟩ else some ⟨b2, o2 + 4, none⟩) ((t.drop (k + 1)).filter (Ig.keep l))) := Lib.hid (by
                by_cases h1 : cr = 1
                · have : (t.drop (k + 1)).filter (Ig.keep l) = [] := List.length_eq_zero_iff.1 (by rw [HRL2.out]; omega)
                  rw [this]
                  exact Trs.nil _ _
                · rw [if_neg h1]
                  exact HRT2.out)
              exact ⟨⟨k + 1, r1, cr - 1, _, rfl, rfl, hlt, by omega, by omega, HRL2, HRT3, Lib.hid (Ext.drewN HX4.out _)⟩, by simp [intOf]; omega⟩
          · obtain rfl : k = m := by omega
            obtain rfl : r = 0 := by rw [← HRL.out, List.drop_eq_nil_of_le (by rw [HM.out]; exact Nat.le_refl _)]; rfl
            have HXW := Lib.hid (HX3.out.trans HXR.out)
            have HT4 := Lib.hid (HT3.out.ext HXR.out)
            have HXS : Hid (n3 ≤ 12) := Lib.hid (by rw [← HN3.out, H3.out]; exact Nat.le_trans (List.length_filter_le _ _) (by rw [HM.out]; exact hm1))
            have HFI := Lib.hid (filter_any A n c l A3 n3 c3 xs wo HN.out (by omega) (Sls.ext FiR.steadfast HL.out HXW.out) HF.out HT4.out HN3.out (by have := HXS.out; omega) (HG.out.ext HXW.out))
            have h5 : Ig.filt l xs = (xs, 0) := by rw [H3.out]; exact H5.out
            have h4 : Tr.checkTree xs = 0 := by rw [H3.out]; exact H4.out
            rw [h5] at HFI
            have HC4 : Hid (∀ W, Ext wo W → Calls Tryz.prog 33 #[.slice A3 n3 c3] W (Ret (.int .i64 0) W)) := Lib.hid fun W hW => by
              have := checktree_any A3 n3 c3 xs W (HT4.out.ext hW) HN3.out (by have := HXS.out; omega) (HG.out.ext (HXW.out.trans hW))
              rw [h4] at this
              exact this
            clear h4 h5 H1 H3 H4 H5 HIG HRL HRT HXR HX3
            go_wp2_with fail
            refine HFI.out.mono ?_
            rintro e w5 ⟨A5, n5, c5, rfl, hn5, -, ht5, -, hx5⟩
            have HX5 := Lib.hid (HXW.out.trans hx5)
            have HC5 := Lib.hid (HC4.out _ hx5)
            have HSM : Hid (∀ W, Ext w5 W → Calls Tryz.prog 32 #[.slice A3 n3 c3, .slice A5 n5 c5] W (Ret (.bool true) W)) := Lib.hid fun W hW => by
              have := sametree_any A3 A5 n3 n5 c3 c5 xs xs W ((HT4.out.ext hx5).ext hW) (ht5.ext hW) HN3.out hn5 (by have := HXS.out; omega) (by have := HXS.out; have := HN3.out; dsimp only at hn5; omega)
              rw [decide_eq_true rfl] at this
              exact this
            clear hn5 ht5 hx5 HFI HC4
            go_wp2_with fail
            refine HC5.out.mono ?_
            rintro e w6 ⟨rfl, hx6⟩
            have HX6 := Lib.hid (HX5.out.trans hx6)
            have HS6 := Lib.hid (HSM.out _ hx6)
            clear hx6 HC5 HSM
            go_wp2_with fail
            refine HS6.out.mono ?_
            rintro e w7 ⟨rfl, hx7⟩
            have HX7 := Lib.hid (HX6.out.trans hx7)
            clear hx7 HS6
            go_wp2_with fail
            refine (HAW.out _ HX7.out).mono ?_
            rintro e w8 ⟨rfl, hx8⟩
            have HX8 := Lib.hid (HX7.out.trans hx8)
            clear hx8
            go_wp2_with fail
            go_ret
            exact ⟨rfl, HX8.out⟩
      · have he2 : (er != 0) = true := bne_iff_ne.2 he
        have HCT : Hid (∀ W, Ext w W → Calls Tryz.prog 33 #[.slice B m d] W (Ret (.int .i64 (Tr.checkTree t)) W)) := Lib.hid fun W hW => checktree_any B m d t W (HT.out.ext hW) HM.out (by omega) (HG.out.ext hW)
        have hcase : n3 = 0 ∧ ((Ig.fcheck l != 0) = true ∨ ((Ig.fcheck l != 0) = false ∧ (Tr.checkTree t != 0) = true)) := by
          have h1 := HFR.out
          unfold Ig.filt at h1
          by_cases h2 : Ig.fcheck l ≠ 0
          · rw [if_pos h2] at h1
            obtain ⟨rfl, -⟩ := Prod.mk.inj h1
            exact ⟨HN3.out.symm, .inl (bne_iff_ne.2 h2)⟩
          · rw [if_neg h2] at h1
            by_cases h3 : Tr.checkTree t ≠ 0
            · rw [if_pos h3] at h1
              obtain ⟨rfl, -⟩ := Prod.mk.inj h1
              exact ⟨HN3.out.symm, .inr ⟨by simpa using h2, bne_iff_ne.2 h3⟩⟩
            · rw [if_neg h3] at h1
              exact absurd (Prod.mk.inj h1).2 he
        obtain ⟨rfl, hcase⟩ := hcase
        generalize Ig.fcheck l = fc at HCH hcase
        generalize Tr.checkTree t = tc at HCT hcase
        clear he HFR
        go_wp2_with fail
        refine (HCH.out _ HX3.out).mono ?_
        rintro e w4 ⟨rfl, hx4⟩
        have HX4 := Lib.hid (HX3.out.trans hx4)
        clear hx4 HCH HX3
        rcases hcase with h1 | ⟨h1, h2⟩
        · go_wp2_with fail
          refine (HAW.out _ HX4.out).mono ?_
          rintro e w5 ⟨rfl, hx5⟩
          have HX5 := Lib.hid (HX4.out.trans hx5)
          clear hx5
          go_wp2_with fail
          go_ret
          exact ⟨rfl, HX5.out⟩
        · go_wp2_with fail
          refine (HCT.out _ HX4.out).mono ?_
          rintro e w5 ⟨rfl, hx5⟩
          have HX5 := Lib.hid (HX4.out.trans hx5)
          clear hx5
          go_wp2_with fail
          refine (HAW.out _ HX5.out).mono ?_
          rintro e w6 ⟨rfl, hx6⟩
          have HX6 := Lib.hid (HX5.out.trans hx6)
          clear hx6
          go_wp2_with fail
          go_ret
          exact ⟨rfl, HX6.out⟩
end Go.Proofs.YtnjcifppkijanaaGreatDoor
