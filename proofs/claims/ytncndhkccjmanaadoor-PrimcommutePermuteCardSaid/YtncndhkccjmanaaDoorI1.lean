/- Walks: if two patches commute, the results commute back. -/
import Derived.Test.YtncndhkccjmanaaDoorAw
set_option linter.unusedSimpArgs false
set_option linter.unusedVariables false
namespace Go.Proofs.YtncndhkccjmanaaDoor
open Go.RowKit
attribute [local go_sem ↓] Go.wp_at_zero Go.wp_at_succ

theorem commute_back {a b c d : Qp} (h : a.commute b = (c, d, true)) : c.commute d = (a, b, true) ∧ c.check = 0 ∧ d.check = 0 := by
  unfold Qp.commute at h
  split at h
  · simp only [Prod.mk.injEq] at h
    exact absurd h.2.2 (by decide)
  rename_i h0
  split at h
  · simp only [Prod.mk.injEq] at h
    exact absurd h.2.2 (by decide)
  rename_i h1
  split at h
  · rename_i h2
    simp only [Prod.mk.injEq, and_true] at h
    generalize hr : a.run b = R at h h1 h2
    obtain ⟨c', d', k⟩ := R
    dsimp only at h h1 h2
    obtain ⟨rfl, rfl⟩ := h
    obtain rfl : k = true := by simpa using h1
    have hc := run_ok hr rfl
    generalize hs : c'.run d' = S at h2
    obtain ⟨x, y, k2⟩ := S
    simp only [Bool.and_eq_true] at h2
    obtain ⟨rfl, h3, h4⟩ := h2
    have ex := Qp.same_iff.1 h3
    have ey := Qp.same_iff.1 h4
    subst ex ey
    refine ⟨?_, hc⟩
    unfold Qp.commute
    rw [if_neg (by simp [hc.1, hc.2]), hs]
    dsimp only
    rw [if_neg (by simp), hr]
    dsimp only
    rw [if_pos (by simp [Qp.same_iff.2 rfl])]
  · simp only [Prod.mk.injEq] at h
    exact absurd h.2.2 (by decide)
theorem commute_none {a b c d : Qp} (h : a.commute b = (c, d, false)) : c = Qp.zero ∧ d = Qp.zero := by
  unfold Qp.commute at h
  repeat' split at h
  all_goals
    simp only [Prod.mk.injEq] at h
    first
      | exact ⟨h.1.symm, h.2.1.symm⟩
      | exact absurd h.2.2 (by decide)
theorem check_fits {q : Qp} (h : q.check = 0) : q.Fits := by
  have s := Qp.bounds h
  have t := Qp.small h
  have h1 := s.path
  have h2 := s.to_
  exact ⟨by omega, by omega, by omega, by omega⟩

set_option maxHeartbeats 16000000 in
set_option maxRecDepth 100000 in
theorem involution_walk (p p' : Pv) (a b : Qp) (w : World) (hg : Glob w) {F : Nat → Prop} (ha : Is w F p a) (hb : Is w F p' b) (b1 : a.old.length ≤ 1152921504606846976) (b2 : a.new.length ≤ 1152921504606846976) (b3 : b.old.length ≤ 1152921504606846976) (b4 : b.new.length ≤ 1152921504606846976) :
    Calls Tryd.prog 3 #[p.v, p'.v] w (Ret (.bool true) w) := by
  have HA := Lib.hid ha.in
  have HB := Lib.hid hb.in
  have HG := Lib.hid hg
  have HAW := Lib.hid (fun W (hW : Ext w W) => awake_any W (hg.ext hW))
  have HGR := Lib.hid (fun W g t (hW : Ext w W) (h : Blk W g t (parr2 p p')) => lawgreat2_any g t p p' a b W h (HA.out.ext hW) (HB.out.ext hW) b1 b2 b3 b4)
  have HC := Lib.hid (fun (m : a.Mild ∧ b.Mild) W (hW : Ext w W) => commute_any p p' a b W (hg.ext hW) (HA.out.ext hW) (HB.out.ext hW) m.1.fits m.2.fits)
  have HLF : Hid (∀ c d, a.commute b = (c, d, false) → c = Qp.zero ∧ d = Qp.zero) := Lib.hid (fun c d h => commute_none h)
  have HLT : Hid (∀ c d, a.commute b = (c, d, true) → c.commute d = (a, b, true) ∧ c.check = 0 ∧ d.check = 0) := Lib.hid (fun c d h => commute_back h)
  generalize a.commute b = R at HC HLF HLT
  obtain ⟨c, d, k⟩ := R
  clear hg ha hb
  go_enter Tryd.func3, Tryd.ntmps3
  have hx := Ext.refl w
  go_wp2_with fail
  refine (HGR.out _ _ _ (by (repeat (first | with_reducible exact hx | with_reducible exact Ext.refl _ | with_reducible refine Ext.alloc ?_ _ | with_reducible refine Ext.drewN ?_ _ | with_reducible refine Ext.drew1 ?_ | ((with_reducible refine Ext.setCell ?_ ?_ _); rotate_left; (focus (first | (dsimp only; omega) | (simp; done) | (simp; omega))))))) (Blk.new' (by simp))).mono ?_
  rintro e w1 ⟨v, rfl, hv, hx0⟩
  have hb0 : Blk w1 w.heap.size 26 (parr p) := Blk.ext hx0 (Blk.alloc (Blk.alloc (Blk.new' (by simp)) _) _)
  have hb1 : Blk w1 (w.heap.size + 1) 26 (parr p') := Blk.ext hx0 (Blk.alloc (Blk.new' (by simp)) _)
  have hx1 := Ext.trans (a := w) (by (repeat (first | with_reducible exact hx | with_reducible exact Ext.refl _ | with_reducible refine Ext.alloc ?_ _ | with_reducible refine Ext.drewN ?_ _ | with_reducible refine Ext.drew1 ?_ | ((with_reducible refine Ext.setCell ?_ ?_ _); rotate_left; (focus (first | (dsimp only; omega) | (simp; done) | (simp; omega))))))) hx0
  clear hx hx0
  have hx := hx1
  clear hx1
  have HV := Lib.hid hv
  clear hv
  cases v
  rotate_left
  ·
    have hc0 := hb0.cell
    have hf0 := hb0.frozen
    have hl0 := hb0.lt
    have hc1 := hb1.cell
    have hf1 := hb1.frozen
    have hl1 := hb1.lt
    go_wp2_with fail
    refine (HAW.out _ (by (repeat (first | with_reducible exact hx | with_reducible exact Ext.refl _ | with_reducible refine Ext.alloc ?_ _ | with_reducible refine Ext.drewN ?_ _ | with_reducible refine Ext.drew1 ?_ | ((with_reducible refine Ext.setCell ?_ ?_ _); rotate_left; (focus (first | (dsimp only; omega) | (simp; done) | (simp; omega)))))))).mono ?_
    rintro e w9 ⟨rfl, hx0⟩
    have hx1 := Ext.trans (a := w) (by (repeat (first | with_reducible exact hx | with_reducible exact Ext.refl _ | with_reducible refine Ext.alloc ?_ _ | with_reducible refine Ext.drewN ?_ _ | with_reducible refine Ext.drew1 ?_ | ((with_reducible refine Ext.setCell ?_ ?_ _); rotate_left; (focus (first | (dsimp only; omega) | (simp; done) | (simp; omega))))))) hx0
    clear hx hx0
    have hx := hx1
    clear hx1
    go_wp2_with fail
    (go_ret; refine Ret.mk ?_ ?_; (focus (rfl; done)); (focus ((repeat (first | with_reducible exact hx | with_reducible exact Ext.refl _ | with_reducible refine Ext.alloc ?_ _ | with_reducible refine Ext.drewN ?_ _ | with_reducible refine Ext.drew1 ?_ | ((with_reducible refine Ext.setCell ?_ ?_ _); rotate_left; (focus (first | (dsimp only; omega) | (simp; done) | (simp; omega)))))); done)))
  have HC := Lib.hid (HC.out (HV.out rfl))
  clear HV HGR
  have hc0 := hb0.cell
  have hf0 := hb0.frozen
  have hl0 := hb0.lt
  have hc1 := hb1.cell
  have hf1 := hb1.frozen
  have hl1 := hb1.lt
  go_wp2_with fail
  clear hc0 hf0 hl0 hc1 hf1 hl1
  refine (HC.out _ hx).mono ?_
  rintro e w2 ⟨P1, P2, rfl, i1, i2, hx0⟩
  clear HC
  have hx1 := Ext.trans (a := w) (by (repeat (first | with_reducible exact hx | with_reducible exact Ext.refl _ | with_reducible refine Ext.alloc ?_ _ | with_reducible refine Ext.drewN ?_ _ | with_reducible refine Ext.drew1 ?_ | ((with_reducible refine Ext.setCell ?_ ?_ _); rotate_left; (focus (first | (dsimp only; omega) | (simp; done) | (simp; omega))))))) hx0
  replace hb0 := hb0.ext hx0
  replace hb1 := hb1.ext hx0
  clear hx hx0
  have hx := hx1
  clear hx1
  dsimp only
  cases k
  · obtain ⟨rfl, rfl⟩ := HLF.out _ _ rfl
    have HS1 := Lib.hid (fun W (hW : Ext w2 W) => psame_true P1 (Qp.zero.pv none 0 none 0) Qp.zero W (i1.ext hW) (Is.none W (fun _ => False) _ rfl rfl) (by decide) (by decide))
    have HS2 := Lib.hid (fun W (hW : Ext w2 W) => psame_true P2 (Qp.zero.pv none 0 none 0) Qp.zero W (i2.ext hW) (Is.none W (fun _ => False) _ rfl rfl) (by decide) (by decide))
    clear i1 i2 HLF HLT
    have hc0 := hb0.cell
    have hf0 := hb0.frozen
    have hl0 := hb0.lt
    have hc1 := hb1.cell
    have hf1 := hb1.frozen
    have hl1 := hb1.lt
    go_wp2_with fail
    clear hc0 hf0 hl0 hc1 hf1 hl1
    refine (HS1.out _ ((Ext.refl w2).alloc _ |>.alloc _)).mono ?_
    rintro e w3 ⟨rfl, hx0⟩
    have hs2 : Ext w2 w3 := ((Ext.refl w2).alloc _ |>.alloc _).trans hx0
    have hb5 : Blk w3 w2.heap.size 26 (parr P1) := Blk.ext hx0 (Blk.alloc (Blk.new' (by simp)) _)
    have hb6 : Blk w3 (w2.heap.size + 1) 26 (parr P2) := Blk.ext hx0 (Blk.new' (by simp))
    have hx1 := Ext.trans (a := w) (by (repeat (first | with_reducible exact hx | with_reducible exact Ext.refl _ | with_reducible refine Ext.alloc ?_ _ | with_reducible refine Ext.drewN ?_ _ | with_reducible refine Ext.drew1 ?_ | ((with_reducible refine Ext.setCell ?_ ?_ _); rotate_left; (focus (first | (dsimp only; omega) | (simp; done) | (simp; omega))))))) hx0
    replace hb0 := Blk.ext hx0 (Blk.alloc (Blk.alloc hb0 _) _)
    replace hb1 := Blk.ext hx0 (Blk.alloc (Blk.alloc hb1 _) _)
    clear hx hx0
    have hx := hx1
    clear hx1
    have hc0 := hb0.cell
    have hf0 := hb0.frozen
    have hl0 := hb0.lt
    have hc1 := hb1.cell
    have hf1 := hb1.frozen
    have hl1 := hb1.lt
    have hc5 := hb5.cell
    have hf5 := hb5.frozen
    have hl5 := hb5.lt
    have hc6 := hb6.cell
    have hf6 := hb6.frozen
    have hl6 := hb6.lt
    go_wp2_with fail
    clear hc0 hf0 hl0 hc1 hf1 hl1 hc5 hf5 hl5 hc6 hf6 hl6
    refine (HS2.out _ hs2).mono ?_
    rintro e w4 ⟨rfl, hx0⟩
    have hx1 := Ext.trans (a := w) (by (repeat (first | with_reducible exact hx | with_reducible exact Ext.refl _ | with_reducible refine Ext.alloc ?_ _ | with_reducible refine Ext.drewN ?_ _ | with_reducible refine Ext.drew1 ?_ | ((with_reducible refine Ext.setCell ?_ ?_ _); rotate_left; (focus (first | (dsimp only; omega) | (simp; done) | (simp; omega))))))) hx0
    replace hb0 := hb0.ext hx0
    replace hb1 := hb1.ext hx0
    replace hb5 := hb5.ext hx0
    replace hb6 := hb6.ext hx0
    clear hx hx0
    have hx := hx1
    clear hx1
    have hc0 := hb0.cell
    have hf0 := hb0.frozen
    have hl0 := hb0.lt
    have hc1 := hb1.cell
    have hf1 := hb1.frozen
    have hl1 := hb1.lt
    have hc5 := hb5.cell
    have hf5 := hb5.frozen
    have hl5 := hb5.lt
    have hc6 := hb6.cell
    have hf6 := hb6.frozen
    have hl6 := hb6.lt
    go_wp2_with fail
    refine (HAW.out _ (by (repeat (first | with_reducible exact hx | with_reducible exact Ext.refl _ | with_reducible refine Ext.alloc ?_ _ | with_reducible refine Ext.drewN ?_ _ | with_reducible refine Ext.drew1 ?_ | ((with_reducible refine Ext.setCell ?_ ?_ _); rotate_left; (focus (first | (dsimp only; omega) | (simp; done) | (simp; omega)))))))).mono ?_
    rintro e w9 ⟨rfl, hx0⟩
    have hx1 := Ext.trans (a := w) (by (repeat (first | with_reducible exact hx | with_reducible exact Ext.refl _ | with_reducible refine Ext.alloc ?_ _ | with_reducible refine Ext.drewN ?_ _ | with_reducible refine Ext.drew1 ?_ | ((with_reducible refine Ext.setCell ?_ ?_ _); rotate_left; (focus (first | (dsimp only; omega) | (simp; done) | (simp; omega))))))) hx0
    clear hx hx0
    have hx := hx1
    clear hx1
    go_wp2_with fail
    (go_ret; refine Ret.mk ?_ ?_; (focus (rfl; done)); (focus ((repeat (first | with_reducible exact hx | with_reducible exact Ext.refl _ | with_reducible refine Ext.alloc ?_ _ | with_reducible refine Ext.drewN ?_ _ | with_reducible refine Ext.drew1 ?_ | ((with_reducible refine Ext.setCell ?_ ?_ _); rotate_left; (focus (first | (dsimp only; omega) | (simp; done) | (simp; omega)))))); done)))
  · have hL := HLT.out _ _ rfl
    have HC2 := Lib.hid (fun W (hW : Ext w2 W) => commute_any P1 P2 c d W (HG.out.ext (hx.trans hW)) (i1.ext hW) (i2.ext hW) (check_fits hL.2.1) (check_fits hL.2.2))
    rw [hL.1] at HC2
    have HA2 := Lib.hid (HA.out.ext hx)
    have HB2 := Lib.hid (HB.out.ext hx)
    clear i1 i2 HLF HLT hL HA HB HG
    have hc0 := hb0.cell
    have hf0 := hb0.frozen
    have hl0 := hb0.lt
    have hc1 := hb1.cell
    have hf1 := hb1.frozen
    have hl1 := hb1.lt
    go_wp2_with fail
    clear hc0 hf0 hl0 hc1 hf1 hl1
    refine (HC2.out _ ((Ext.refl w2).alloc _ |>.alloc _)).mono ?_
    rintro e w3 ⟨X1, X2, rfl, j1, j2, hx0⟩
    have hs2 : Ext w2 w3 := ((Ext.refl w2).alloc _ |>.alloc _).trans hx0
    have HS1 := Lib.hid (fun W (hW : Ext w3 W) => psame_true X1 p a W (j1.ext hW) (HA2.out.ext (hs2.trans hW)) b1 b2)
    have HS2 := Lib.hid (fun W (hW : Ext w3 W) => psame_true X2 p' b W (j2.ext hW) (HB2.out.ext (hs2.trans hW)) b3 b4)
    have hb5 : Blk w3 w2.heap.size 26 (parr P1) := Blk.ext hx0 (Blk.alloc (Blk.new' (by simp)) _)
    have hb6 : Blk w3 (w2.heap.size + 1) 26 (parr P2) := Blk.ext hx0 (Blk.new' (by simp))
    clear j1 j2 HA2 HB2 HC2 hs2
    have hx1 := Ext.trans (a := w) (by (repeat (first | with_reducible exact hx | with_reducible exact Ext.refl _ | with_reducible refine Ext.alloc ?_ _ | with_reducible refine Ext.drewN ?_ _ | with_reducible refine Ext.drew1 ?_ | ((with_reducible refine Ext.setCell ?_ ?_ _); rotate_left; (focus (first | (dsimp only; omega) | (simp; done) | (simp; omega))))))) hx0
    replace hb0 := Blk.ext hx0 (Blk.alloc (Blk.alloc hb0 _) _)
    replace hb1 := Blk.ext hx0 (Blk.alloc (Blk.alloc hb1 _) _)
    clear hx hx0
    have hx := hx1
    clear hx1
    have hc0 := hb0.cell
    have hf0 := hb0.frozen
    have hl0 := hb0.lt
    have hc1 := hb1.cell
    have hf1 := hb1.frozen
    have hl1 := hb1.lt
    have hc5 := hb5.cell
    have hf5 := hb5.frozen
    have hl5 := hb5.lt
    have hc6 := hb6.cell
    have hf6 := hb6.frozen
    have hl6 := hb6.lt
    dsimp only
    go_wp2_with fail
    clear hc0 hf0 hl0 hc1 hf1 hl1 hc5 hf5 hl5 hc6 hf6 hl6
    refine (HS1.out _ ((Ext.refl w3).alloc _ |>.alloc _)).mono ?_
    rintro e w4 ⟨rfl, hx0⟩
    have hs3 : Ext w3 w4 := ((Ext.refl w3).alloc _ |>.alloc _).trans hx0
    have hb8 : Blk w4 w3.heap.size 26 (parr X1) := Blk.ext hx0 (Blk.alloc (Blk.new' (by simp)) _)
    have hb9 : Blk w4 (w3.heap.size + 1) 26 (parr X2) := Blk.ext hx0 (Blk.new' (by simp))
    have hx1 := Ext.trans (a := w) (by (repeat (first | with_reducible exact hx | with_reducible exact Ext.refl _ | with_reducible refine Ext.alloc ?_ _ | with_reducible refine Ext.drewN ?_ _ | with_reducible refine Ext.drew1 ?_ | ((with_reducible refine Ext.setCell ?_ ?_ _); rotate_left; (focus (first | (dsimp only; omega) | (simp; done) | (simp; omega))))))) hx0
    replace hb0 := Blk.ext hx0 (Blk.alloc (Blk.alloc hb0 _) _)
    replace hb1 := Blk.ext hx0 (Blk.alloc (Blk.alloc hb1 _) _)
    replace hb5 := Blk.ext hx0 (Blk.alloc (Blk.alloc hb5 _) _)
    replace hb6 := Blk.ext hx0 (Blk.alloc (Blk.alloc hb6 _) _)
    clear hx hx0
    have hx := hx1
    clear hx1
    have hc0 := hb0.cell
    have hf0 := hb0.frozen
    have hl0 := hb0.lt
    have hc1 := hb1.cell
    have hf1 := hb1.frozen
    have hl1 := hb1.lt
    have hc5 := hb5.cell
    have hf5 := hb5.frozen
    have hl5 := hb5.lt
    have hc6 := hb6.cell
    have hf6 := hb6.frozen
    have hl6 := hb6.lt
    have hc8 := hb8.cell
    have hf8 := hb8.frozen
    have hl8 := hb8.lt
    have hc9 := hb9.cell
    have hf9 := hb9.frozen
    have hl9 := hb9.lt
    go_wp2_with fail
    clear hc0 hf0 hl0 hc1 hf1 hl1 hc5 hf5 hl5 hc6 hf6 hl6 hc8 hf8 hl8 hc9 hf9 hl9
    refine (HS2.out _ hs3).mono ?_
    rintro e w5 ⟨rfl, hx0⟩
    have hx1 := Ext.trans (a := w) (by (repeat (first | with_reducible exact hx | with_reducible exact Ext.refl _ | with_reducible refine Ext.alloc ?_ _ | with_reducible refine Ext.drewN ?_ _ | with_reducible refine Ext.drew1 ?_ | ((with_reducible refine Ext.setCell ?_ ?_ _); rotate_left; (focus (first | (dsimp only; omega) | (simp; done) | (simp; omega))))))) hx0
    replace hb0 := hb0.ext hx0
    replace hb1 := hb1.ext hx0
    replace hb5 := hb5.ext hx0
    replace hb6 := hb6.ext hx0
    replace hb8 := hb8.ext hx0
    replace hb9 := hb9.ext hx0
    clear hx hx0
    have hx := hx1
    clear hx1
    have hc0 := hb0.cell
    have hf0 := hb0.frozen
    have hl0 := hb0.lt
    have hc1 := hb1.cell
    have hf1 := hb1.frozen
    have hl1 := hb1.lt
    have hc5 := hb5.cell
    have hf5 := hb5.frozen
    have hl5 := hb5.lt
    have hc6 := hb6.cell
    have hf6 := hb6.frozen
    have hl6 := hb6.lt
    have hc8 := hb8.cell
    have hf8 := hb8.frozen
    have hl8 := hb8.lt
    have hc9 := hb9.cell
    have hf9 := hb9.frozen
    have hl9 := hb9.lt
    go_wp2_with fail
    refine (HAW.out _ (by (repeat (first | with_reducible exact hx | with_reducible exact Ext.refl _ | with_reducible refine Ext.alloc ?_ _ | with_reducible refine Ext.drewN ?_ _ | with_reducible refine Ext.drew1 ?_ | ((with_reducible refine Ext.setCell ?_ ?_ _); rotate_left; (focus (first | (dsimp only; omega) | (simp; done) | (simp; omega)))))))).mono ?_
    rintro e w9 ⟨rfl, hx0⟩
    have hx1 := Ext.trans (a := w) (by (repeat (first | with_reducible exact hx | with_reducible exact Ext.refl _ | with_reducible refine Ext.alloc ?_ _ | with_reducible refine Ext.drewN ?_ _ | with_reducible refine Ext.drew1 ?_ | ((with_reducible refine Ext.setCell ?_ ?_ _); rotate_left; (focus (first | (dsimp only; omega) | (simp; done) | (simp; omega))))))) hx0
    clear hx hx0
    have hx := hx1
    clear hx1
    go_wp2_with fail
    (go_ret; refine Ret.mk ?_ ?_; (focus (rfl; done)); (focus ((repeat (first | with_reducible exact hx | with_reducible exact Ext.refl _ | with_reducible refine Ext.alloc ?_ _ | with_reducible refine Ext.drewN ?_ _ | with_reducible refine Ext.drew1 ?_ | ((with_reducible refine Ext.setCell ?_ ?_ _); rotate_left; (focus (first | (dsimp only; omega) | (simp; done) | (simp; omega)))))); done)))
end Go.Proofs.YtncndhkccjmanaaDoor
