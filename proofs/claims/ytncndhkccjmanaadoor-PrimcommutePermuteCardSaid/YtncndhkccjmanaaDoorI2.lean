/- Walks: three patches brought into the opposite order in both ways. -/
import Derived.Test.YtncndhkccjmanaaDoorI1
import Derived.Test.YtncndhkccjmanaaDoorPe
set_option linter.unusedSimpArgs false
set_option linter.unusedVariables false
namespace Go.Proofs.YtncndhkccjmanaaDoor
open Go.RowKit
attribute [local go_sem ↓] Go.wp_at_zero Go.wp_at_succ

/-- The cells of three patches in a row. -/
abbrev parr3 (p r s : Pv) : Array Value :=
  #[.int .i64 p.kind, .string p.path, .string p.to_, .int .i64 p.ty, .int .i64 p.at_, .slice p.A1 p.n1 p.c1, .slice p.A2 p.n2 p.c2, .int .i64 p.off, .string p.so, .string p.sn, .int .i64 p.om, .int .i64 p.nm,
    .int .i64 r.kind, .string r.path, .string r.to_, .int .i64 r.ty, .int .i64 r.at_, .slice r.A1 r.n1 r.c1, .slice r.A2 r.n2 r.c2, .int .i64 r.off, .string r.so, .string r.sn, .int .i64 r.om, .int .i64 r.nm,
    .int .i64 s.kind, .string s.path, .string s.to_, .int .i64 s.ty, .int .i64 s.at_, .slice s.A1 s.n1 s.c1, .slice s.A2 s.n2 s.c2, .int .i64 s.off, .string s.so, .string s.sn, .int .i64 s.om, .int .i64 s.nm]

set_option maxHeartbeats 8000000 in
set_option maxRecDepth 100000 in
theorem lgreat3_any (g : Nat) (t : TypeId) (p r s : Pv) (a b c : Qp) (w : World) (hb : Blk w g t (parr3 p r s)) {F : Nat → Prop} (ha : Is w F p a) (hb2 : Is w F r b) (hb3 : Is w F s c) (b1 : a.old.length ≤ 1152921504606846976) (b2 : a.new.length ≤ 1152921504606846976) (b3 : b.old.length ≤ 1152921504606846976) (b4 : b.new.length ≤ 1152921504606846976) (b5 : c.old.length ≤ 1152921504606846976) (b6 : c.new.length ≤ 1152921504606846976) :
    Calls Tryd.prog 9 #[.slice (some ⟨g, 0, none⟩) 3 3] w (Tells (a.Mild ∧ b.Mild ∧ c.Mild) w) := by
  have H1 := Lib.hid ha
  have H2 := Lib.hid hb2
  have H3 := Lib.hid hb3
  clear ha hb2 hb3
  have hcb := hb.cell
  have hlb := hb.lt
  go_enter Tryd.func9, Tryd.ntmps9
  have hx := Ext.refl w
  go_wp2_with fail
  refine wp_loop_rounds 4 ?_
  rw [rounds_succ]
  go_wp2_with fail
  refine (pgreat_any p a _ H1.out b1 b2).mono ?_
  rintro e w1 ⟨v1, rfl, k1, hx0⟩
  have hb' := hb.ext hx0
  have hcb' := hb'.cell
  have hlb' := hb'.lt
  have K1 := Lib.hid k1
  clear k1 hcb hlb hb
  cases v1
  · go_wp2_with fail
    rw [rounds_succ]
    go_wp2_with fail
    refine (pgreat_any r b _ (H2.out.ext hx0) b3 b4).mono ?_
    rintro e w2 ⟨v2, rfl, k2, hx1⟩
    have hb'' := hb'.ext hx1
    have hcb'' := hb''.cell
    have hlb'' := hb''.lt
    have hx := hx0.trans hx1
    have K2 := Lib.hid k2
    clear k2 hcb' hlb' hb'
    cases v2
    · go_wp2_with fail
      rw [rounds_succ]
      go_wp2_with fail
      refine (pgreat_any s c _ (H3.out.ext hx) b5 b6).mono ?_
      rintro e w3 ⟨v3, rfl, k3, hx2⟩
      have hb3 := hb''.ext hx2
      have hcb3 := hb3.cell
      have hlb3 := hb3.lt
      have hx3 := hx.trans hx2
      have K3 := Lib.hid k3
      clear k3 hcb'' hlb'' hb''
      cases v3
      · go_wp2_with fail
        rw [rounds_succ]
        go_wp2_with fail
        refine bodyPost_ret (v := .bool false) (by simp only [results, Tryd.results9]; go_simp) rfl ?_
        exact ⟨_, rfl, (fun _ => ⟨K1.out trivial, K2.out trivial, K3.out trivial⟩), hx3⟩
      · go_wp2_with fail
        refine bodyPost_ret (v := .bool true) (by simp only [results, Tryd.results9]; go_simp) rfl ?_
        exact ⟨_, rfl, (fun h => nomatch h), hx3⟩
    · go_wp2_with fail
      refine bodyPost_ret (v := .bool true) (by simp only [results, Tryd.results9]; go_simp) rfl ?_
      exact ⟨_, rfl, (fun h => nomatch h), hx⟩
  · go_wp2_with fail
    refine bodyPost_ret (v := .bool true) (by simp only [results, Tryd.results9]; go_simp) rfl ?_
    exact ⟨_, rfl, (fun h => nomatch h), hx0⟩

set_option maxHeartbeats 8000000 in
set_option maxRecDepth 100000 in
theorem lawgreat3_any (g : Nat) (t : TypeId) (p r s : Pv) (a b c : Qp) (w : World) (hb : Blk w g t (parr3 p r s)) {F : Nat → Prop} (ha : Is w F p a) (hb2 : Is w F r b) (hb3 : Is w F s c) (b1 : a.old.length ≤ 1152921504606846976) (b2 : a.new.length ≤ 1152921504606846976) (b3 : b.old.length ≤ 1152921504606846976) (b4 : b.new.length ≤ 1152921504606846976) (b5 : c.old.length ≤ 1152921504606846976) (b6 : c.new.length ≤ 1152921504606846976) :
    Calls Tryd.prog 5 #[.slice (some ⟨g, 0, none⟩) 3 3] w (Tells (a.Mild ∧ b.Mild ∧ c.Mild) w) := by
  have H := Lib.hid (lgreat3_any g t p r s a b c w hb ha hb2 hb3 b1 b2 b3 b4 b5 b6)
  go_enter Tryd.func5, Tryd.ntmps5
  have hx := Ext.refl w
  go_wp2_with fail
  refine H.out.mono ?_
  rintro e w1 ⟨v1, rfl, k1, hx0⟩
  go_wp2_with fail
  refine bodyPost_ret (v := .bool v1) (by simp only [results, Tryd.results5]; go_simp) rfl ?_
  exact ⟨_, rfl, k1, hx0⟩

/-- The patch reads so, wherever its lists lie. -/
abbrev Rd (w : World) (p : Pv) (q : Qp) : Prop := Is w (fun _ => True) p q
theorem commute_rd (p p' : Pv) (a b : Qp) (w : World) (hg : Glob w) (ha : Rd w p a) (hb : Rd w p' b) (fa : a.Fits) (fb : b.Fits) :
    Calls Tryd.prog 7 #[p.v, p'.v] w (fun e w' => ∃ P P' : Pv, e = .returned (.tuple #[P.v, P'.v, .bool (a.commute b).2.2]) ∧ Hid (Rd w' P (a.commute b).1) ∧ Hid (Rd w' P' (a.commute b).2.1) ∧ Ext w w') :=
  (commute_any p p' a b w hg ha hb fa fb).mono fun e w' ⟨P, P', he, i1, i2, hx⟩ => ⟨P, P', he, Lib.hid (i1.mono fun _ _ => trivial), Lib.hid (i2.mono fun _ _ => trivial), hx⟩
theorem commute_cm {a b c d : Qp} (h : a.commute b = (c, d, true)) : Cm a b c d ∧ c.check = 0 ∧ d.check = 0 := by
  refine ⟨?_, (commute_back h).2⟩
  unfold Qp.commute at h
  split at h
  · simp only [Prod.mk.injEq] at h
    exact absurd h.2.2 (by decide)
  rename_i h0
  simp only [ne_eq, not_or, Decidable.not_not] at h0
  split at h
  · simp only [Prod.mk.injEq] at h
    exact absurd h.2.2 (by decide)
  rename_i h1
  split at h
  · simp only [Prod.mk.injEq, and_true] at h
    refine run_cm ?_ h0.1 h0.2
    rw [← h.1, ← h.2]
    have : (a.run b).2.2 = true := by simpa using h1
    rw [← this]
  · simp only [Prod.mk.injEq] at h
    exact absurd h.2.2 (by decide)

set_option maxHeartbeats 32000000 in
set_option maxRecDepth 100000 in
theorem permute_walk (p p' p'' : Pv) (a b c : Qp) (w : World) (hg : Glob w) (ha : Rd w p a) (hb : Rd w p' b) (hc : Rd w p'' c) (b1 : a.old.length ≤ 1152921504606846976) (b2 : a.new.length ≤ 1152921504606846976) (b3 : b.old.length ≤ 1152921504606846976) (b4 : b.new.length ≤ 1152921504606846976) (b5 : c.old.length ≤ 1152921504606846976) (b6 : c.new.length ≤ 1152921504606846976) :
    Calls Tryd.prog 4 #[p.v, p'.v, p''.v] w (Ret (.bool true) w) := by
  have HG := Lib.hid hg
  have HAW := Lib.hid (fun W (hW : Ext w W) => awake_any W (hg.ext hW))
  have HGR := Lib.hid (fun W g t (hW : Ext w W) (h : Blk W g t (parr3 p p' p'')) => lawgreat3_any g t p p' p'' a b c W h (ha.ext hW) (hb.ext hW) (hc.ext hW) b1 b2 b3 b4 b5 b6)
  have IA := Lib.hid ha
  have IB := Lib.hid hb
  have IC := Lib.hid hc
  clear hg ha hb hc
  go_enter Tryd.func4, Tryd.ntmps4
  have hx := Ext.refl w
  go_wp2_with fail
  refine (HGR.out _ _ _ (by (repeat (first | with_reducible exact hx | with_reducible exact Ext.refl _ | with_reducible refine Ext.alloc ?_ _ | with_reducible refine Ext.drewN ?_ _ | with_reducible refine Ext.drew1 ?_ | ((with_reducible refine Ext.setCell ?_ ?_ _); rotate_left; (focus (first | (dsimp only; omega) | (simp; done) | (simp; omega))))))) (Blk.new' (by simp))).mono ?_
  rintro e w1 ⟨v, rfl, hv, hx0⟩
  have hb3 : Blk w1 w.heap.size 26 (parr p) := Blk.ext hx0 (Blk.alloc (Blk.alloc (Blk.alloc (Blk.new' (by simp)) _) _) _)
  have hb4 : Blk w1 (w.heap.size + 1) 26 (parr p') := Blk.ext hx0 (Blk.alloc (Blk.alloc (Blk.new' (by simp)) _) _)
  have hb5 : Blk w1 (w.heap.size + 1 + 1) 26 (parr p'') := Blk.ext hx0 (Blk.alloc (Blk.new' (by simp)) _)
  have hx1 := Ext.trans (a := w) (by (repeat (first | with_reducible exact hx | with_reducible exact Ext.refl _ | with_reducible refine Ext.alloc ?_ _ | with_reducible refine Ext.drewN ?_ _ | with_reducible refine Ext.drew1 ?_ | ((with_reducible refine Ext.setCell ?_ ?_ _); rotate_left; (focus (first | (dsimp only; omega) | (simp; done) | (simp; omega))))))) hx0
  clear hx hx0
  have hx := hx1
  clear hx1
  have HV := Lib.hid hv
  clear hv
  have IA := Lib.hid (IA.out.ext hx)
  have IB := Lib.hid (IB.out.ext hx)
  have IC := Lib.hid (IC.out.ext hx)
  cases v
  rotate_left
  ·
    go_wp2_with fail
    refine (HAW.out _ (by (repeat (first | with_reducible exact hx | with_reducible exact Ext.refl _ | with_reducible refine Ext.alloc ?_ _ | with_reducible refine Ext.drewN ?_ _ | with_reducible refine Ext.drew1 ?_ | ((with_reducible refine Ext.setCell ?_ ?_ _); rotate_left; (focus (first | (dsimp only; omega) | (simp; done) | (simp; omega)))))))).mono ?_
    rintro e w9 ⟨rfl, hx0⟩
    have hx1 := Ext.trans (a := w) (by (repeat (first | with_reducible exact hx | with_reducible exact Ext.refl _ | with_reducible refine Ext.alloc ?_ _ | with_reducible refine Ext.drewN ?_ _ | with_reducible refine Ext.drew1 ?_ | ((with_reducible refine Ext.setCell ?_ ?_ _); rotate_left; (focus (first | (dsimp only; omega) | (simp; done) | (simp; omega))))))) hx0
    clear hx hx0
    have hx := hx1
    clear hx1
    go_wp2_with fail
    (go_ret; refine Ret.mk ?_ ?_; (focus (rfl; done)); (focus ((repeat (first | with_reducible exact hx | with_reducible exact Ext.refl _ | with_reducible refine Ext.alloc ?_ _ | with_reducible refine Ext.drewN ?_ _ | with_reducible refine Ext.drew1 ?_ | ((with_reducible refine Ext.setCell ?_ ?_ _); rotate_left; (focus (first | (dsimp only; omega) | (simp; done) | (simp; omega)))))); done)))
  have HM := Lib.hid (HV.out rfl)
  clear HV HGR
  have HC1 := Lib.hid (fun W (hW : Ext w1 W) => commute_rd p p' a b W (HG.out.ext (hx.trans hW)) (IA.out.ext hW) (IB.out.ext hW) HM.out.1.fits HM.out.2.1.fits)
  obtain ⟨R1, hR1⟩ : ∃ R, a.commute b = R := ⟨_, rfl⟩
  rw [hR1] at HC1
  obtain ⟨qb1, qa1, k1⟩ := R1
  have HR1 := Lib.hid hR1
  clear hR1
  dsimp only at HC1
  have hc3 := hb3.cell
  have hc4 := hb4.cell
  have hl3 := hb3.lt
  have hl4 := hb4.lt
  go_wp2_with fail
  clear hc3 hc4 hl3 hl4
  refine (HC1.out _ (Ext.refl _)).mono ?_
  rintro e w2 ⟨P7, P8, rfl, I7, I8, hx0⟩
  clear HC1
  have hs : Ext w1 w2 := hx0
  replace hb3 := hb3.ext hx0
  replace hb4 := hb4.ext hx0
  replace hb5 := hb5.ext hx0
  replace IA := Lib.hid (IA.out.ext hs)
  replace IB := Lib.hid (IB.out.ext hs)
  replace IC := Lib.hid (IC.out.ext hs)
  have hx1 := hx.trans hs
  clear hx hx0 hs
  have hx := hx1
  clear hx1
  cases k1
  ·
    go_wp2_with fail
    refine (HAW.out _ (by (repeat (first | with_reducible exact hx | with_reducible exact Ext.refl _ | with_reducible refine Ext.alloc ?_ _ | with_reducible refine Ext.drewN ?_ _ | with_reducible refine Ext.drew1 ?_ | ((with_reducible refine Ext.setCell ?_ ?_ _); rotate_left; (focus (first | (dsimp only; omega) | (simp; done) | (simp; omega)))))))).mono ?_
    rintro e w9 ⟨rfl, hx0⟩
    have hx1 := Ext.trans (a := w) (by (repeat (first | with_reducible exact hx | with_reducible exact Ext.refl _ | with_reducible refine Ext.alloc ?_ _ | with_reducible refine Ext.drewN ?_ _ | with_reducible refine Ext.drew1 ?_ | ((with_reducible refine Ext.setCell ?_ ?_ _); rotate_left; (focus (first | (dsimp only; omega) | (simp; done) | (simp; omega))))))) hx0
    clear hx hx0
    have hx := hx1
    clear hx1
    go_wp2_with fail
    (go_ret; refine Ret.mk ?_ ?_; (focus (rfl; done)); (focus ((repeat (first | with_reducible exact hx | with_reducible exact Ext.refl _ | with_reducible refine Ext.alloc ?_ _ | with_reducible refine Ext.drewN ?_ _ | with_reducible refine Ext.drew1 ?_ | ((with_reducible refine Ext.setCell ?_ ?_ _); rotate_left; (focus (first | (dsimp only; omega) | (simp; done) | (simp; omega)))))); done)))
  have HK1 := Lib.hid (commute_cm HR1.out)
  clear HR1
  have HC2 := Lib.hid (fun W (hW : Ext w2 W) => commute_rd P8 p'' qa1 c W (HG.out.ext (hx.trans hW)) (I8.out.ext hW) (IC.out.ext hW) (check_fits HK1.out.2.2) HM.out.2.2.fits)
  obtain ⟨R2, hR2⟩ : ∃ R, qa1.commute c = R := ⟨_, rfl⟩
  rw [hR2] at HC2
  obtain ⟨qc1, qa2, k2⟩ := R2
  have HR2 := Lib.hid hR2
  clear hR2
  dsimp only at HC2
  have hc5 := hb5.cell
  have hl3 := hb3.lt
  have hl4 := hb4.lt
  have hl5 := hb5.lt
  go_wp2_with fail
  clear hc5 hl3 hl4 hl5
  refine (HC2.out _ ((Ext.refl w2).alloc _ |>.alloc _)).mono ?_
  rintro e w3 ⟨P10, P11, rfl, I10, I11, hx0⟩
  clear HC2
  have hs : Ext w2 w3 := ((Ext.refl w2).alloc _ |>.alloc _).trans hx0
  replace hb3 := Blk.ext hx0 (Blk.alloc (Blk.alloc hb3 _) _)
  replace hb4 := Blk.ext hx0 (Blk.alloc (Blk.alloc hb4 _) _)
  replace hb5 := Blk.ext hx0 (Blk.alloc (Blk.alloc hb5 _) _)
  have hb7 : Blk w3 w2.heap.size 26 (parr P7) := Blk.ext hx0 (Blk.alloc (Blk.new' (by simp)) _)
  have hb8 : Blk w3 (w2.heap.size + 1) 26 (parr P8) := Blk.ext hx0 (Blk.new' (by simp))
  replace IA := Lib.hid (IA.out.ext hs)
  replace IB := Lib.hid (IB.out.ext hs)
  replace IC := Lib.hid (IC.out.ext hs)
  replace I7 := Lib.hid (I7.out.ext hs)
  replace I8 := Lib.hid (I8.out.ext hs)
  have hx1 := hx.trans hs
  clear hx hx0 hs
  have hx := hx1
  clear hx1
  cases k2
  ·
    go_wp2_with fail
    refine (HAW.out _ (by (repeat (first | with_reducible exact hx | with_reducible exact Ext.refl _ | with_reducible refine Ext.alloc ?_ _ | with_reducible refine Ext.drewN ?_ _ | with_reducible refine Ext.drew1 ?_ | ((with_reducible refine Ext.setCell ?_ ?_ _); rotate_left; (focus (first | (dsimp only; omega) | (simp; done) | (simp; omega)))))))).mono ?_
    rintro e w9 ⟨rfl, hx0⟩
    have hx1 := Ext.trans (a := w) (by (repeat (first | with_reducible exact hx | with_reducible exact Ext.refl _ | with_reducible refine Ext.alloc ?_ _ | with_reducible refine Ext.drewN ?_ _ | with_reducible refine Ext.drew1 ?_ | ((with_reducible refine Ext.setCell ?_ ?_ _); rotate_left; (focus (first | (dsimp only; omega) | (simp; done) | (simp; omega))))))) hx0
    clear hx hx0
    have hx := hx1
    clear hx1
    go_wp2_with fail
    (go_ret; refine Ret.mk ?_ ?_; (focus (rfl; done)); (focus ((repeat (first | with_reducible exact hx | with_reducible exact Ext.refl _ | with_reducible refine Ext.alloc ?_ _ | with_reducible refine Ext.drewN ?_ _ | with_reducible refine Ext.drew1 ?_ | ((with_reducible refine Ext.setCell ?_ ?_ _); rotate_left; (focus (first | (dsimp only; omega) | (simp; done) | (simp; omega)))))); done)))
  have HK2 := Lib.hid (commute_cm HR2.out)
  clear HR2
  have HC3 := Lib.hid (fun W (hW : Ext w3 W) => commute_rd P7 P10 qb1 qc1 W (HG.out.ext (hx.trans hW)) (I7.out.ext hW) (I10.out.ext hW) (check_fits HK1.out.2.1) (check_fits HK2.out.2.1))
  obtain ⟨R3, hR3⟩ : ∃ R, qb1.commute qc1 = R := ⟨_, rfl⟩
  rw [hR3] at HC3
  obtain ⟨qc2, qb2, k3⟩ := R3
  have HR3 := Lib.hid hR3
  clear hR3
  dsimp only at HC3
  have hc7 := hb7.cell
  have hl7 := hb7.lt
  go_wp2_with fail
  clear hc7 hl7
  refine (HC3.out _ ((Ext.refl w3).alloc _ |>.alloc _)).mono ?_
  rintro e w4 ⟨P12, P13, rfl, I12, I13, hx0⟩
  clear HC3
  have hs : Ext w3 w4 := ((Ext.refl w3).alloc _ |>.alloc _).trans hx0
  replace hb3 := Blk.ext hx0 (Blk.alloc (Blk.alloc hb3 _) _)
  replace hb4 := Blk.ext hx0 (Blk.alloc (Blk.alloc hb4 _) _)
  replace hb5 := Blk.ext hx0 (Blk.alloc (Blk.alloc hb5 _) _)
  replace hb7 := Blk.ext hx0 (Blk.alloc (Blk.alloc hb7 _) _)
  replace hb8 := Blk.ext hx0 (Blk.alloc (Blk.alloc hb8 _) _)
  have hb10 : Blk w4 w3.heap.size 26 (parr P10) := Blk.ext hx0 (Blk.alloc (Blk.new' (by simp)) _)
  have hb11 : Blk w4 (w3.heap.size + 1) 26 (parr P11) := Blk.ext hx0 (Blk.new' (by simp))
  replace IA := Lib.hid (IA.out.ext hs)
  replace IB := Lib.hid (IB.out.ext hs)
  replace IC := Lib.hid (IC.out.ext hs)
  replace I7 := Lib.hid (I7.out.ext hs)
  replace I8 := Lib.hid (I8.out.ext hs)
  replace I10 := Lib.hid (I10.out.ext hs)
  replace I11 := Lib.hid (I11.out.ext hs)
  have hx1 := hx.trans hs
  clear hx hx0 hs
  have hx := hx1
  clear hx1
  cases k3
  ·
    go_wp2_with fail
    refine (HAW.out _ (by (repeat (first | with_reducible exact hx | with_reducible exact Ext.refl _ | with_reducible refine Ext.alloc ?_ _ | with_reducible refine Ext.drewN ?_ _ | with_reducible refine Ext.drew1 ?_ | ((with_reducible refine Ext.setCell ?_ ?_ _); rotate_left; (focus (first | (dsimp only; omega) | (simp; done) | (simp; omega)))))))).mono ?_
    rintro e w9 ⟨rfl, hx0⟩
    have hx1 := Ext.trans (a := w) (by (repeat (first | with_reducible exact hx | with_reducible exact Ext.refl _ | with_reducible refine Ext.alloc ?_ _ | with_reducible refine Ext.drewN ?_ _ | with_reducible refine Ext.drew1 ?_ | ((with_reducible refine Ext.setCell ?_ ?_ _); rotate_left; (focus (first | (dsimp only; omega) | (simp; done) | (simp; omega))))))) hx0
    clear hx hx0
    have hx := hx1
    clear hx1
    go_wp2_with fail
    (go_ret; refine Ret.mk ?_ ?_; (focus (rfl; done)); (focus ((repeat (first | with_reducible exact hx | with_reducible exact Ext.refl _ | with_reducible refine Ext.alloc ?_ _ | with_reducible refine Ext.drewN ?_ _ | with_reducible refine Ext.drew1 ?_ | ((with_reducible refine Ext.setCell ?_ ?_ _); rotate_left; (focus (first | (dsimp only; omega) | (simp; done) | (simp; omega)))))); done)))
  have HK3 := Lib.hid (commute_cm HR3.out)
  clear HR3
  have HC4 := Lib.hid (fun W (hW : Ext w4 W) => commute_rd p' p'' b c W (HG.out.ext (hx.trans hW)) (IB.out.ext hW) (IC.out.ext hW) HM.out.2.1.fits HM.out.2.2.fits)
  obtain ⟨R4, hR4⟩ : ∃ R, b.commute c = R := ⟨_, rfl⟩
  rw [hR4] at HC4
  obtain ⟨qx1, qy1, k4⟩ := R4
  have HR4 := Lib.hid hR4
  clear hR4
  dsimp only at HC4
  have hc4 := hb4.cell
  have hc5 := hb5.cell
  have hl3 := hb3.lt
  have hl4 := hb4.lt
  have hl5 := hb5.lt
  go_wp2_with fail
  clear hc4 hc5 hl3 hl4 hl5
  refine (HC4.out _ ((Ext.refl w4).alloc _ |>.alloc _)).mono ?_
  rintro e w5 ⟨P14, P15, rfl, I14, I15, hx0⟩
  clear HC4
  have hs : Ext w4 w5 := ((Ext.refl w4).alloc _ |>.alloc _).trans hx0
  replace hb3 := Blk.ext hx0 (Blk.alloc (Blk.alloc hb3 _) _)
  replace hb4 := Blk.ext hx0 (Blk.alloc (Blk.alloc hb4 _) _)
  replace hb5 := Blk.ext hx0 (Blk.alloc (Blk.alloc hb5 _) _)
  replace hb7 := Blk.ext hx0 (Blk.alloc (Blk.alloc hb7 _) _)
  replace hb8 := Blk.ext hx0 (Blk.alloc (Blk.alloc hb8 _) _)
  replace hb10 := Blk.ext hx0 (Blk.alloc (Blk.alloc hb10 _) _)
  replace hb11 := Blk.ext hx0 (Blk.alloc (Blk.alloc hb11 _) _)
  have hb12 : Blk w5 w4.heap.size 26 (parr P12) := Blk.ext hx0 (Blk.alloc (Blk.new' (by simp)) _)
  have hb13 : Blk w5 (w4.heap.size + 1) 26 (parr P13) := Blk.ext hx0 (Blk.new' (by simp))
  replace IA := Lib.hid (IA.out.ext hs)
  replace IB := Lib.hid (IB.out.ext hs)
  replace IC := Lib.hid (IC.out.ext hs)
  replace I7 := Lib.hid (I7.out.ext hs)
  replace I8 := Lib.hid (I8.out.ext hs)
  replace I10 := Lib.hid (I10.out.ext hs)
  replace I11 := Lib.hid (I11.out.ext hs)
  replace I12 := Lib.hid (I12.out.ext hs)
  replace I13 := Lib.hid (I13.out.ext hs)
  have hx1 := hx.trans hs
  clear hx hx0 hs
  have hx := hx1
  clear hx1
  cases k4
  ·
    go_wp2_with fail
    refine (HAW.out _ (by (repeat (first | with_reducible exact hx | with_reducible exact Ext.refl _ | with_reducible refine Ext.alloc ?_ _ | with_reducible refine Ext.drewN ?_ _ | with_reducible refine Ext.drew1 ?_ | ((with_reducible refine Ext.setCell ?_ ?_ _); rotate_left; (focus (first | (dsimp only; omega) | (simp; done) | (simp; omega)))))))).mono ?_
    rintro e w9 ⟨rfl, hx0⟩
    have hx1 := Ext.trans (a := w) (by (repeat (first | with_reducible exact hx | with_reducible exact Ext.refl _ | with_reducible refine Ext.alloc ?_ _ | with_reducible refine Ext.drewN ?_ _ | with_reducible refine Ext.drew1 ?_ | ((with_reducible refine Ext.setCell ?_ ?_ _); rotate_left; (focus (first | (dsimp only; omega) | (simp; done) | (simp; omega))))))) hx0
    clear hx hx0
    have hx := hx1
    clear hx1
    go_wp2_with fail
    (go_ret; refine Ret.mk ?_ ?_; (focus (rfl; done)); (focus ((repeat (first | with_reducible exact hx | with_reducible exact Ext.refl _ | with_reducible refine Ext.alloc ?_ _ | with_reducible refine Ext.drewN ?_ _ | with_reducible refine Ext.drew1 ?_ | ((with_reducible refine Ext.setCell ?_ ?_ _); rotate_left; (focus (first | (dsimp only; omega) | (simp; done) | (simp; omega)))))); done)))
  have HK4 := Lib.hid (commute_cm HR4.out)
  clear HR4
  have HC5 := Lib.hid (fun W (hW : Ext w5 W) => commute_rd p P14 a qx1 W (HG.out.ext (hx.trans hW)) (IA.out.ext hW) (I14.out.ext hW) HM.out.1.fits (check_fits HK4.out.2.1))
  obtain ⟨R5, hR5⟩ : ∃ R, a.commute qx1 = R := ⟨_, rfl⟩
  rw [hR5] at HC5
  obtain ⟨qx2, qz1, k5⟩ := R5
  have HR5 := Lib.hid hR5
  clear hR5
  dsimp only at HC5
  have hc3 := hb3.cell
  have hl3 := hb3.lt
  go_wp2_with fail
  clear hc3 hl3
  refine (HC5.out _ ((Ext.refl w5).alloc _ |>.alloc _)).mono ?_
  rintro e w6 ⟨P16, P17, rfl, I16, I17, hx0⟩
  clear HC5
  have hs : Ext w5 w6 := ((Ext.refl w5).alloc _ |>.alloc _).trans hx0
  replace hb3 := Blk.ext hx0 (Blk.alloc (Blk.alloc hb3 _) _)
  replace hb4 := Blk.ext hx0 (Blk.alloc (Blk.alloc hb4 _) _)
  replace hb5 := Blk.ext hx0 (Blk.alloc (Blk.alloc hb5 _) _)
  replace hb7 := Blk.ext hx0 (Blk.alloc (Blk.alloc hb7 _) _)
  replace hb8 := Blk.ext hx0 (Blk.alloc (Blk.alloc hb8 _) _)
  replace hb10 := Blk.ext hx0 (Blk.alloc (Blk.alloc hb10 _) _)
  replace hb11 := Blk.ext hx0 (Blk.alloc (Blk.alloc hb11 _) _)
  replace hb12 := Blk.ext hx0 (Blk.alloc (Blk.alloc hb12 _) _)
  replace hb13 := Blk.ext hx0 (Blk.alloc (Blk.alloc hb13 _) _)
  have hb14 : Blk w6 w5.heap.size 26 (parr P14) := Blk.ext hx0 (Blk.alloc (Blk.new' (by simp)) _)
  have hb15 : Blk w6 (w5.heap.size + 1) 26 (parr P15) := Blk.ext hx0 (Blk.new' (by simp))
  replace IA := Lib.hid (IA.out.ext hs)
  replace IB := Lib.hid (IB.out.ext hs)
  replace IC := Lib.hid (IC.out.ext hs)
  replace I7 := Lib.hid (I7.out.ext hs)
  replace I8 := Lib.hid (I8.out.ext hs)
  replace I10 := Lib.hid (I10.out.ext hs)
  replace I11 := Lib.hid (I11.out.ext hs)
  replace I12 := Lib.hid (I12.out.ext hs)
  replace I13 := Lib.hid (I13.out.ext hs)
  replace I14 := Lib.hid (I14.out.ext hs)
  replace I15 := Lib.hid (I15.out.ext hs)
  have hx1 := hx.trans hs
  clear hx hx0 hs
  have hx := hx1
  clear hx1
  cases k5
  ·
    go_wp2_with fail
    refine (HAW.out _ (by (repeat (first | with_reducible exact hx | with_reducible exact Ext.refl _ | with_reducible refine Ext.alloc ?_ _ | with_reducible refine Ext.drewN ?_ _ | with_reducible refine Ext.drew1 ?_ | ((with_reducible refine Ext.setCell ?_ ?_ _); rotate_left; (focus (first | (dsimp only; omega) | (simp; done) | (simp; omega)))))))).mono ?_
    rintro e w9 ⟨rfl, hx0⟩
    have hx1 := Ext.trans (a := w) (by (repeat (first | with_reducible exact hx | with_reducible exact Ext.refl _ | with_reducible refine Ext.alloc ?_ _ | with_reducible refine Ext.drewN ?_ _ | with_reducible refine Ext.drew1 ?_ | ((with_reducible refine Ext.setCell ?_ ?_ _); rotate_left; (focus (first | (dsimp only; omega) | (simp; done) | (simp; omega))))))) hx0
    clear hx hx0
    have hx := hx1
    clear hx1
    go_wp2_with fail
    (go_ret; refine Ret.mk ?_ ?_; (focus (rfl; done)); (focus ((repeat (first | with_reducible exact hx | with_reducible exact Ext.refl _ | with_reducible refine Ext.alloc ?_ _ | with_reducible refine Ext.drewN ?_ _ | with_reducible refine Ext.drew1 ?_ | ((with_reducible refine Ext.setCell ?_ ?_ _); rotate_left; (focus (first | (dsimp only; omega) | (simp; done) | (simp; omega)))))); done)))
  have HK5 := Lib.hid (commute_cm HR5.out)
  clear HR5
  have HC6 := Lib.hid (fun W (hW : Ext w6 W) => commute_rd P17 P15 qz1 qy1 W (HG.out.ext (hx.trans hW)) (I17.out.ext hW) (I15.out.ext hW) (check_fits HK5.out.2.2) (check_fits HK4.out.2.2))
  obtain ⟨R6, hR6⟩ : ∃ R, qz1.commute qy1 = R := ⟨_, rfl⟩
  rw [hR6] at HC6
  obtain ⟨qy2, qz2, k6⟩ := R6
  have HR6 := Lib.hid hR6
  clear hR6
  dsimp only at HC6
  have hc15 := hb15.cell
  have hl14 := hb14.lt
  have hl15 := hb15.lt
  go_wp2_with fail
  clear hc15 hl14 hl15
  refine (HC6.out _ ((Ext.refl w6).alloc _ |>.alloc _)).mono ?_
  rintro e w7 ⟨P18, P19, rfl, I18, I19, hx0⟩
  clear HC6
  have hs : Ext w6 w7 := ((Ext.refl w6).alloc _ |>.alloc _).trans hx0
  replace hb3 := Blk.ext hx0 (Blk.alloc (Blk.alloc hb3 _) _)
  replace hb4 := Blk.ext hx0 (Blk.alloc (Blk.alloc hb4 _) _)
  replace hb5 := Blk.ext hx0 (Blk.alloc (Blk.alloc hb5 _) _)
  replace hb7 := Blk.ext hx0 (Blk.alloc (Blk.alloc hb7 _) _)
  replace hb8 := Blk.ext hx0 (Blk.alloc (Blk.alloc hb8 _) _)
  replace hb10 := Blk.ext hx0 (Blk.alloc (Blk.alloc hb10 _) _)
  replace hb11 := Blk.ext hx0 (Blk.alloc (Blk.alloc hb11 _) _)
  replace hb12 := Blk.ext hx0 (Blk.alloc (Blk.alloc hb12 _) _)
  replace hb13 := Blk.ext hx0 (Blk.alloc (Blk.alloc hb13 _) _)
  replace hb14 := Blk.ext hx0 (Blk.alloc (Blk.alloc hb14 _) _)
  replace hb15 := Blk.ext hx0 (Blk.alloc (Blk.alloc hb15 _) _)
  have hb16 : Blk w7 w6.heap.size 26 (parr P16) := Blk.ext hx0 (Blk.alloc (Blk.new' (by simp)) _)
  have hb17 : Blk w7 (w6.heap.size + 1) 26 (parr P17) := Blk.ext hx0 (Blk.new' (by simp))
  replace IA := Lib.hid (IA.out.ext hs)
  replace IB := Lib.hid (IB.out.ext hs)
  replace IC := Lib.hid (IC.out.ext hs)
  replace I7 := Lib.hid (I7.out.ext hs)
  replace I8 := Lib.hid (I8.out.ext hs)
  replace I10 := Lib.hid (I10.out.ext hs)
  replace I11 := Lib.hid (I11.out.ext hs)
  replace I12 := Lib.hid (I12.out.ext hs)
  replace I13 := Lib.hid (I13.out.ext hs)
  replace I14 := Lib.hid (I14.out.ext hs)
  replace I15 := Lib.hid (I15.out.ext hs)
  replace I16 := Lib.hid (I16.out.ext hs)
  replace I17 := Lib.hid (I17.out.ext hs)
  have hx1 := hx.trans hs
  clear hx hx0 hs
  have hx := hx1
  clear hx1
  cases k6
  ·
    go_wp2_with fail
    refine (HAW.out _ (by (repeat (first | with_reducible exact hx | with_reducible exact Ext.refl _ | with_reducible refine Ext.alloc ?_ _ | with_reducible refine Ext.drewN ?_ _ | with_reducible refine Ext.drew1 ?_ | ((with_reducible refine Ext.setCell ?_ ?_ _); rotate_left; (focus (first | (dsimp only; omega) | (simp; done) | (simp; omega)))))))).mono ?_
    rintro e w9 ⟨rfl, hx0⟩
    have hx1 := Ext.trans (a := w) (by (repeat (first | with_reducible exact hx | with_reducible exact Ext.refl _ | with_reducible refine Ext.alloc ?_ _ | with_reducible refine Ext.drewN ?_ _ | with_reducible refine Ext.drew1 ?_ | ((with_reducible refine Ext.setCell ?_ ?_ _); rotate_left; (focus (first | (dsimp only; omega) | (simp; done) | (simp; omega))))))) hx0
    clear hx hx0
    have hx := hx1
    clear hx1
    go_wp2_with fail
    (go_ret; refine Ret.mk ?_ ?_; (focus (rfl; done)); (focus ((repeat (first | with_reducible exact hx | with_reducible exact Ext.refl _ | with_reducible refine Ext.alloc ?_ _ | with_reducible refine Ext.drewN ?_ _ | with_reducible refine Ext.drew1 ?_ | ((with_reducible refine Ext.setCell ?_ ?_ _); rotate_left; (focus (first | (dsimp only; omega) | (simp; done) | (simp; omega)))))); done)))
  have HK6 := Lib.hid (commute_cm HR6.out)
  clear HR6
  obtain ⟨rfl, rfl, rfl⟩ := permute HK1.out.1 HK2.out.1 HK3.out.1 HK4.out.1 HK5.out.1 HK6.out.1
  have HS1 := Lib.hid (fun W (hW : Ext w7 W) => psame_true P12 P16 _ W (I12.out.ext hW) (I16.out.ext hW) (check_fits HK3.out.2.1).1 (check_fits HK3.out.2.1).2.1)
  have HS2 := Lib.hid (fun W (hW : Ext w7 W) => psame_true P13 P18 _ W (I13.out.ext hW) (I18.out.ext hW) (check_fits HK3.out.2.2).1 (check_fits HK3.out.2.2).2.1)
  have HS3 := Lib.hid (fun W (hW : Ext w7 W) => psame_true P11 P19 _ W (I11.out.ext hW) (I19.out.ext hW) (check_fits HK2.out.2.2).1 (check_fits HK2.out.2.2).2.1)
  clear HK1 HK2 HK3 HK4 HK5 HK6 IA IB IC HM I7 I8 I10 I11 I12 I13 I14 I15 I16 I17 I18 I19
  have hc12 := hb12.cell
  have hc16 := hb16.cell
  have hl12 := hb12.lt
  have hl16 := hb16.lt
  go_wp2_with fail
  clear hc12 hc16 hl12 hl16
  refine (HS1.out _ ((Ext.refl w7).alloc _ |>.alloc _)).mono ?_
  rintro e w8 ⟨rfl, hx0⟩
  have hs : Ext w7 w8 := ((Ext.refl w7).alloc _ |>.alloc _).trans hx0
  replace hb12 := Blk.ext hx0 (Blk.alloc (Blk.alloc hb12 _) _)
  replace hb13 := Blk.ext hx0 (Blk.alloc (Blk.alloc hb13 _) _)
  replace hb10 := Blk.ext hx0 (Blk.alloc (Blk.alloc hb10 _) _)
  replace hb11 := Blk.ext hx0 (Blk.alloc (Blk.alloc hb11 _) _)
  have hb18 : Blk w8 w7.heap.size 26 (parr P18) := Blk.ext hx0 (Blk.alloc (Blk.new' (by simp)) _)
  have hb19 : Blk w8 (w7.heap.size + 1) 26 (parr P19) := Blk.ext hx0 (Blk.new' (by simp))
  have hx1 := hx.trans hs
  have hsb' : Ext w7 w8 := hs
  clear hx hx0 hs
  have hx := hx1
  have hsb := hsb'
  clear hx1 hsb'
  have hc13 := hb13.cell
  have hc18 := hb18.cell
  have hl12 := hb12.lt
  have hl13 := hb13.lt
  have hl18 := hb18.lt
  go_wp2_with fail
  clear hc13 hc18 hl12 hl13 hl18
  refine (HS2.out _ hsb).mono ?_
  rintro e w9 ⟨rfl, hx0⟩
  have hs : Ext w8 w9 := hx0
  replace hb10 := hb10.ext hx0
  replace hb11 := hb11.ext hx0
  replace hb12 := hb12.ext hx0
  replace hb13 := hb13.ext hx0
  replace hb18 := hb18.ext hx0
  replace hb19 := hb19.ext hx0
  have hx1 := hx.trans hs
  have hsb' : Ext w7 w9 := hsb.trans hs
  clear hx hx0 hs hsb
  have hx := hx1
  have hsb := hsb'
  clear hx1 hsb'
  have hc11 := hb11.cell
  have hc19 := hb19.cell
  have hl10 := hb10.lt
  have hl11 := hb11.lt
  have hl18 := hb18.lt
  have hl19 := hb19.lt
  go_wp2_with fail
  clear hc11 hc19 hl10 hl11 hl18 hl19
  refine (HS3.out _ hsb).mono ?_
  rintro e w10 ⟨rfl, hx0⟩
  have hs : Ext w9 w10 := hx0
  replace hb10 := hb10.ext hx0
  replace hb11 := hb11.ext hx0
  replace hb12 := hb12.ext hx0
  replace hb13 := hb13.ext hx0
  replace hb18 := hb18.ext hx0
  replace hb19 := hb19.ext hx0
  have hx1 := hx.trans hs
  have hsb' : Ext w7 w10 := hsb.trans hs
  clear hx hx0 hs hsb
  have hx := hx1
  have hsb := hsb'
  clear hx1 hsb'
  go_wp2_with fail
  refine (HAW.out _ (by (repeat (first | with_reducible exact hx | with_reducible exact Ext.refl _ | with_reducible refine Ext.alloc ?_ _ | with_reducible refine Ext.drewN ?_ _ | with_reducible refine Ext.drew1 ?_ | ((with_reducible refine Ext.setCell ?_ ?_ _); rotate_left; (focus (first | (dsimp only; omega) | (simp; done) | (simp; omega)))))))).mono ?_
  rintro e w9 ⟨rfl, hx0⟩
  have hx1 := Ext.trans (a := w) (by (repeat (first | with_reducible exact hx | with_reducible exact Ext.refl _ | with_reducible refine Ext.alloc ?_ _ | with_reducible refine Ext.drewN ?_ _ | with_reducible refine Ext.drew1 ?_ | ((with_reducible refine Ext.setCell ?_ ?_ _); rotate_left; (focus (first | (dsimp only; omega) | (simp; done) | (simp; omega))))))) hx0
  clear hx hx0
  have hx := hx1
  clear hx1
  go_wp2_with fail
  (go_ret; refine Ret.mk ?_ ?_; (focus (rfl; done)); (focus ((repeat (first | with_reducible exact hx | with_reducible exact Ext.refl _ | with_reducible refine Ext.alloc ?_ _ | with_reducible refine Ext.drewN ?_ _ | with_reducible refine Ext.drew1 ?_ | ((with_reducible refine Ext.setCell ?_ ?_ _); rotate_left; (focus (first | (dsimp only; omega) | (simp; done) | (simp; omega)))))); done)))
end Go.Proofs.YtncndhkccjmanaaDoor
