/- Walks: the reference's Same of two patches. No condition. -/
import Derived.Test.YtdbokolbheileaaGreatDoorYp
import Derived.Test.YtdbokolbheileaaGreatDoorW
set_option linter.unusedSimpArgs false
set_option linter.unusedVariables false
namespace Go.Proofs.YtdbokolbheileaaGreatDoor
open Go.RowKit
attribute [local go_sem ↓] Go.wp_at_zero Go.wp_at_succ

set_option maxHeartbeats 16000000 in
set_option maxRecDepth 100000 in
/-- The reference's Same of two patches: field by field. -/
theorem psame_any (p p' : Pv) (a b : Qp) (w : World) {F G : Nat → Prop} (h1 : Is w F p a) (h2 : Is w G p' b) (b1 : a.old.length ≤ 1152921504606846976) (b2 : a.new.length ≤ 1152921504606846976) (b3 : b.old.length ≤ 1152921504606846976) (b4 : b.new.length ≤ 1152921504606846976) :
    Calls Tryz.prog 24 #[p.v, p'.v] w (Ret (.bool (a.same b)) w) := by
  obtain ⟨A1, c1, A2, c2, rfl, ⟨s1, s2⟩, _⟩ := h1
  obtain ⟨B1, d1, B2, d2, rfl, ⟨t1, t2⟩, _⟩ := h2
  obtain ⟨kind1, path1, to_1, ty1, at_1, old1, new1, off1, so1, sn1, om1, nm1⟩ := a
  obtain ⟨kind2, path2, to_2, ty2, at_2, old2, new2, off2, so2, sn2, om2, nm2⟩ := b
  have hs : ∀ W, Ext w W → ∀ g g' t t', Blk W g t #[.int .i64 at_1, .slice A1 old1.length c1, .slice A2 new1.length c2] → Blk W g' t' #[.int .i64 at_2, .slice B1 old2.length d1, .slice B2 new2.length d2] → Calls Tryz.prog 44 #[.slice (some ⟨g, 0, none⟩) 1 1, .slice (some ⟨g', 0, none⟩) 1 1] W (Ret (.bool (at_1 == at_2 && (decide (old1 = old2) && decide (new1 = new2)))) W) :=
    fun W hW g g' t t' hb hb2 => hsame_any g g' t t' (Qp.pv ⟨kind1, path1, to_1, ty1, at_1, old1, new1, off1, so1, sn1, om1, nm1⟩ A1 c1 A2 c2) (Qp.pv ⟨kind2, path2, to_2, ty2, at_2, old2, new2, off2, so2, sn2, om2, nm2⟩ B1 d1 B2 d2) old1 new1 old2 new2 W hb hb2 (s1.ext hW).1 (s2.ext hW).1 (t1.ext hW).1 (t2.ext hW).1 b1 b2 b3 b4
  have HN : ∀ x, (at_1 == at_2 && (decide (old1 = old2) && decide (new1 = new2))) = x → (x = true ↔ at_1 = at_2 ∧ old1 = old2 ∧ new1 = new2) := fun x hx => by rw [← hx]; simp
  generalize (at_1 == at_2 && (decide (old1 = old2) && decide (new1 = new2))) = hv at hs HN
  have HN1 := HN hv rfl
  have HS := Lib.hid hs
  clear hs s1 s2 t1 t2 b1 b2 b3 b4 HN
  have HR : ∀ x, Qp.same ⟨kind1, path1, to_1, ty1, at_1, old1, new1, off1, so1, sn1, om1, nm1⟩ ⟨kind2, path2, to_2, ty2, at_2, old2, new2, off2, so2, sn2, om2, nm2⟩ = x → (x = true ↔ kind1 = kind2 ∧ path1 = path2 ∧ to_1 = to_2 ∧ ty1 = ty2 ∧ hv = true ∧ off1 = off2 ∧ so1 = so2 ∧ sn1 = sn2 ∧ om1 = om2 ∧ nm1 = nm2) := fun x hx => by
    rw [← hx, Qp.same_iff, HN1]
    simp only [Qp.mk.injEq]
    constructor
    · rintro ⟨h1, h2, h3, h4, h5, h6, h7, h8, h9, h10, h11, h12⟩
      exact ⟨h1, h2, h3, h4, ⟨h5, h6, h7⟩, h8, h9, h10, h11, h12⟩
    · rintro ⟨h1, h2, h3, h4, ⟨h5, h6, h7⟩, h8, h9, h10, h11, h12⟩
      exact ⟨h1, h2, h3, h4, h5, h6, h7, h8, h9, h10, h11, h12⟩
  generalize Qp.same ⟨kind1, path1, to_1, ty1, at_1, old1, new1, off1, so1, sn1, om1, nm1⟩ ⟨kind2, path2, to_2, ty2, at_2, old2, new2, off2, so2, sn2, om2, nm2⟩ = R at HR ⊢
  have HR := HR R rfl
  clear HN1
  dsimp only [Pv.v, Qp.pv]
  by_cases h : kind1 = kind2
  rotate_left
  · have hv : R = false := by
      cases e : R
      · rfl
      · exact absurd (HR.1 e).1 h
    rw [hv]
    have hk1 : (kind1 == kind2) = false := by simp [h]
    have hk2 : (kind1 != kind2) = true := by simp [h]
    clear HR hv h
    go_enter Tryz.func24, Tryz.ntmps24
    have hx := Ext.refl w
    go_wp2_with fail
    (go_ret; refine Ret.mk ?_ ?_; (focus (rfl; done)); (focus (exact EX; done)))
  subst h
  by_cases h : path1 = path2
  rotate_left
  · have hv : R = false := by
      cases e : R
      · rfl
      · exact absurd (HR.1 e).2.1 h
    rw [hv]
    have hk1 : (path1.toList == path2.toList) = false := bytes_ne h
    have hk2 : (path1.toList != path2.toList) = true := by rw [bne, hk1]; rfl
    clear HR hv h
    go_enter Tryz.func24, Tryz.ntmps24
    have hx := Ext.refl w
    go_wp2_with fail
    (go_ret; refine Ret.mk ?_ ?_; (focus (rfl; done)); (focus (exact EX; done)))
  subst h
  by_cases h : to_1 = to_2
  rotate_left
  · have hv : R = false := by
      cases e : R
      · rfl
      · exact absurd (HR.1 e).2.2.1 h
    rw [hv]
    have hk1 : (to_1.toList == to_2.toList) = false := bytes_ne h
    have hk2 : (to_1.toList != to_2.toList) = true := by rw [bne, hk1]; rfl
    clear HR hv h
    go_enter Tryz.func24, Tryz.ntmps24
    have hx := Ext.refl w
    go_wp2_with fail
    (go_ret; refine Ret.mk ?_ ?_; (focus (rfl; done)); (focus (exact EX; done)))
  subst h
  by_cases h : ty1 = ty2
  rotate_left
  · have hv : R = false := by
      cases e : R
      · rfl
      · exact absurd (HR.1 e).2.2.2.1 h
    rw [hv]
    have hk1 : (ty1 == ty2) = false := by simp [h]
    have hk2 : (ty1 != ty2) = true := by simp [h]
    clear HR hv h
    go_enter Tryz.func24, Tryz.ntmps24
    have hx := Ext.refl w
    go_wp2_with fail
    (go_ret; refine Ret.mk ?_ ?_; (focus (rfl; done)); (focus (exact EX; done)))
  subst h
  cases hv
  · have hv : R = false := by
      cases e : R
      · rfl
      · exact absurd (HR.1 e).2.2.2.2.1 (by simp)
    rw [hv]
    clear HR hv
    go_enter Tryz.func24, Tryz.ntmps24
    have hx := Ext.refl w
    go_wp2_with fail
    refine (HS.out _ EX _ _ _ _ (Blk.alloc (Blk.new' (by simp)) _) (Blk.new' (by simp))).mono ?_
    rintro e w1 ⟨rfl, hx0⟩
    have hb0 : Blk w1 w.heap.size 37 (parr ⟨kind1, path1, to_1, ty1, at_1, A1, old1.length, c1, A2, new1.length, c2, off1, so1, sn1, om1, nm1⟩) := Blk.ext hx0 (Blk.alloc (Blk.alloc (Blk.alloc (Blk.new' (by simp)) _) _) _)
    have hb1 : Blk w1 (w.heap.size + 1) 37 (parr ⟨kind1, path1, to_1, ty1, at_2, B1, old2.length, d1, B2, new2.length, d2, off2, so2, sn2, om2, nm2⟩) := Blk.ext hx0 (Blk.alloc (Blk.alloc (Blk.new' (by simp)) _) _)
    have hx1 := Ext.trans (a := w) EX hx0
    clear hx hx0
    have hx := hx1
    clear hx1
    have hc0 := hb0.cell
    have hc1 := hb1.cell
    go_wp2_with fail
    (go_ret; refine Ret.mk ?_ ?_; (focus (rfl; done)); (focus (exact EX; done)))
  by_cases h : off1 = off2
  rotate_left
  · have hv : R = false := by
      cases e : R
      · rfl
      · exact absurd (HR.1 e).2.2.2.2.2.1 h
    rw [hv]
    have hk1 : (off1 == off2) = false := by simp [h]
    have hk2 : (off1 != off2) = true := by simp [h]
    clear HR hv h
    go_enter Tryz.func24, Tryz.ntmps24
    have hx := Ext.refl w
    go_wp2_with fail
    refine (HS.out _ EX _ _ _ _ (Blk.alloc (Blk.new' (by simp)) _) (Blk.new' (by simp))).mono ?_
    rintro e w1 ⟨rfl, hx0⟩
    have hb0 : Blk w1 w.heap.size 37 (parr ⟨kind1, path1, to_1, ty1, at_1, A1, old1.length, c1, A2, new1.length, c2, off1, so1, sn1, om1, nm1⟩) := Blk.ext hx0 (Blk.alloc (Blk.alloc (Blk.alloc (Blk.new' (by simp)) _) _) _)
    have hb1 : Blk w1 (w.heap.size + 1) 37 (parr ⟨kind1, path1, to_1, ty1, at_2, B1, old2.length, d1, B2, new2.length, d2, off2, so2, sn2, om2, nm2⟩) := Blk.ext hx0 (Blk.alloc (Blk.alloc (Blk.new' (by simp)) _) _)
    have hx1 := Ext.trans (a := w) EX hx0
    clear hx hx0
    have hx := hx1
    clear hx1
    have hc0 := hb0.cell
    have hc1 := hb1.cell
    go_wp2_with fail
    (go_ret; refine Ret.mk ?_ ?_; (focus (rfl; done)); (focus (exact EX; done)))
  subst h
  by_cases h : so1 = so2
  rotate_left
  · have hv : R = false := by
      cases e : R
      · rfl
      · exact absurd (HR.1 e).2.2.2.2.2.2.1 h
    rw [hv]
    have hk1 : (so1.toList == so2.toList) = false := bytes_ne h
    have hk2 : (so1.toList != so2.toList) = true := by rw [bne, hk1]; rfl
    clear HR hv h
    go_enter Tryz.func24, Tryz.ntmps24
    have hx := Ext.refl w
    go_wp2_with fail
    refine (HS.out _ EX _ _ _ _ (Blk.alloc (Blk.new' (by simp)) _) (Blk.new' (by simp))).mono ?_
    rintro e w1 ⟨rfl, hx0⟩
    have hb0 : Blk w1 w.heap.size 37 (parr ⟨kind1, path1, to_1, ty1, at_1, A1, old1.length, c1, A2, new1.length, c2, off1, so1, sn1, om1, nm1⟩) := Blk.ext hx0 (Blk.alloc (Blk.alloc (Blk.alloc (Blk.new' (by simp)) _) _) _)
    have hb1 : Blk w1 (w.heap.size + 1) 37 (parr ⟨kind1, path1, to_1, ty1, at_2, B1, old2.length, d1, B2, new2.length, d2, off1, so2, sn2, om2, nm2⟩) := Blk.ext hx0 (Blk.alloc (Blk.alloc (Blk.new' (by simp)) _) _)
    have hx1 := Ext.trans (a := w) EX hx0
    clear hx hx0
    have hx := hx1
    clear hx1
    have hc0 := hb0.cell
    have hc1 := hb1.cell
    go_wp2_with fail
    (go_ret; refine Ret.mk ?_ ?_; (focus (rfl; done)); (focus (exact EX; done)))
  subst h
  by_cases h : sn1 = sn2
  rotate_left
  · have hv : R = false := by
      cases e : R
      · rfl
      · exact absurd (HR.1 e).2.2.2.2.2.2.2.1 h
    rw [hv]
    have hk1 : (sn1.toList == sn2.toList) = false := bytes_ne h
    have hk2 : (sn1.toList != sn2.toList) = true := by rw [bne, hk1]; rfl
    clear HR hv h
    go_enter Tryz.func24, Tryz.ntmps24
    have hx := Ext.refl w
    go_wp2_with fail
    refine (HS.out _ EX _ _ _ _ (Blk.alloc (Blk.new' (by simp)) _) (Blk.new' (by simp))).mono ?_
    rintro e w1 ⟨rfl, hx0⟩
    have hb0 : Blk w1 w.heap.size 37 (parr ⟨kind1, path1, to_1, ty1, at_1, A1, old1.length, c1, A2, new1.length, c2, off1, so1, sn1, om1, nm1⟩) := Blk.ext hx0 (Blk.alloc (Blk.alloc (Blk.alloc (Blk.new' (by simp)) _) _) _)
    have hb1 : Blk w1 (w.heap.size + 1) 37 (parr ⟨kind1, path1, to_1, ty1, at_2, B1, old2.length, d1, B2, new2.length, d2, off1, so1, sn2, om2, nm2⟩) := Blk.ext hx0 (Blk.alloc (Blk.alloc (Blk.new' (by simp)) _) _)
    have hx1 := Ext.trans (a := w) EX hx0
    clear hx hx0
    have hx := hx1
    clear hx1
    have hc0 := hb0.cell
    have hc1 := hb1.cell
    go_wp2_with fail
    (go_ret; refine Ret.mk ?_ ?_; (focus (rfl; done)); (focus (exact EX; done)))
  subst h
  by_cases h : om1 = om2
  rotate_left
  · have hv : R = false := by
      cases e : R
      · rfl
      · exact absurd (HR.1 e).2.2.2.2.2.2.2.2.1 h
    rw [hv]
    have hk1 : (om1 == om2) = false := by simp [h]
    have hk2 : (om1 != om2) = true := by simp [h]
    clear HR hv h
    go_enter Tryz.func24, Tryz.ntmps24
    have hx := Ext.refl w
    go_wp2_with fail
    refine (HS.out _ EX _ _ _ _ (Blk.alloc (Blk.new' (by simp)) _) (Blk.new' (by simp))).mono ?_
    rintro e w1 ⟨rfl, hx0⟩
    have hb0 : Blk w1 w.heap.size 37 (parr ⟨kind1, path1, to_1, ty1, at_1, A1, old1.length, c1, A2, new1.length, c2, off1, so1, sn1, om1, nm1⟩) := Blk.ext hx0 (Blk.alloc (Blk.alloc (Blk.alloc (Blk.new' (by simp)) _) _) _)
    have hb1 : Blk w1 (w.heap.size + 1) 37 (parr ⟨kind1, path1, to_1, ty1, at_2, B1, old2.length, d1, B2, new2.length, d2, off1, so1, sn1, om2, nm2⟩) := Blk.ext hx0 (Blk.alloc (Blk.alloc (Blk.new' (by simp)) _) _)
    have hx1 := Ext.trans (a := w) EX hx0
    clear hx hx0
    have hx := hx1
    clear hx1
    have hc0 := hb0.cell
    have hc1 := hb1.cell
    go_wp2_with fail
    (go_ret; refine Ret.mk ?_ ?_; (focus (rfl; done)); (focus (exact EX; done)))
  subst h
  by_cases h : nm1 = nm2
  rotate_left
  · have hv : R = false := by
      cases e : R
      · rfl
      · exact absurd (HR.1 e).2.2.2.2.2.2.2.2.2 h
    rw [hv]
    have hk1 : (nm1 == nm2) = false := by simp [h]
    have hk2 : (nm1 != nm2) = true := by simp [h]
    clear HR hv h
    go_enter Tryz.func24, Tryz.ntmps24
    have hx := Ext.refl w
    go_wp2_with fail
    refine (HS.out _ EX _ _ _ _ (Blk.alloc (Blk.new' (by simp)) _) (Blk.new' (by simp))).mono ?_
    rintro e w1 ⟨rfl, hx0⟩
    have hb0 : Blk w1 w.heap.size 37 (parr ⟨kind1, path1, to_1, ty1, at_1, A1, old1.length, c1, A2, new1.length, c2, off1, so1, sn1, om1, nm1⟩) := Blk.ext hx0 (Blk.alloc (Blk.alloc (Blk.alloc (Blk.new' (by simp)) _) _) _)
    have hb1 : Blk w1 (w.heap.size + 1) 37 (parr ⟨kind1, path1, to_1, ty1, at_2, B1, old2.length, d1, B2, new2.length, d2, off1, so1, sn1, om1, nm2⟩) := Blk.ext hx0 (Blk.alloc (Blk.alloc (Blk.new' (by simp)) _) _)
    have hx1 := Ext.trans (a := w) EX hx0
    clear hx hx0
    have hx := hx1
    clear hx1
    have hc0 := hb0.cell
    have hc1 := hb1.cell
    go_wp2_with fail
    (go_ret; refine Ret.mk ?_ ?_; (focus (rfl; done)); (focus (exact EX; done)))
  subst h
  have hv : R = true := HR.2 (by simp)
  rw [hv]
  clear HR hv
  go_enter Tryz.func24, Tryz.ntmps24
  have hx := Ext.refl w
  go_wp2_with fail
  refine (HS.out _ EX _ _ _ _ (Blk.alloc (Blk.new' (by simp)) _) (Blk.new' (by simp))).mono ?_
  rintro e w1 ⟨rfl, hx0⟩
  have hb0 : Blk w1 w.heap.size 37 (parr ⟨kind1, path1, to_1, ty1, at_1, A1, old1.length, c1, A2, new1.length, c2, off1, so1, sn1, om1, nm1⟩) := Blk.ext hx0 (Blk.alloc (Blk.alloc (Blk.alloc (Blk.new' (by simp)) _) _) _)
  have hb1 : Blk w1 (w.heap.size + 1) 37 (parr ⟨kind1, path1, to_1, ty1, at_2, B1, old2.length, d1, B2, new2.length, d2, off1, so1, sn1, om1, nm1⟩) := Blk.ext hx0 (Blk.alloc (Blk.alloc (Blk.new' (by simp)) _) _)
  have hx1 := Ext.trans (a := w) EX hx0
  clear hx hx0
  have hx := hx1
  clear hx1
  have hc0 := hb0.cell
  have hc1 := hb1.cell
  go_wp2_with fail
  (go_ret; refine Ret.mk ?_ ?_; (focus (rfl; done)); (focus (exact EX; done)))
end Go.Proofs.YtdbokolbheileaaGreatDoor
