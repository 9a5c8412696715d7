/- Walks: a patch passed through a sequence is the first one moved to the end. -/
import Derived.Test.YtgfiddlmeopebaaGreatDoorAy
import Derived.Test.YtgfiddlmeopebaaGreatDoorCn
import Derived.Test.YtgfiddlmeopebaaGreatDoorPs
set_option linter.unusedSimpArgs false
set_option linter.unusedVariables false
namespace Go.Proofs.YtgfiddlmeopebaaGreatDoor
open Go Go.RowKit
section
variable {P : Program} {Q : Exit → Act → World → Prop}
/-- append(v, l2...), whatever l2, as one operation. -/
theorem wp_grows (w : World) {o : Oper} {a : Act} {K : Act → World → Prop} (s x : Operand) (t : TypeId)
    (ho : o.op = .call { callee := .builtin .append, args := #[s, x], argTypes := #[t, t] }) (ht : P.underlying t = some (.slice 38)) (hinfo : (P.info? 38).map (fun i => (i.zero, i.size, i.bytes)) = some (some (.agg zcells), 12, 160))
    (base : Nat) {F : Nat → Prop} (v : Value) (l l2 : List Qp) (hs : a.eval s = v) (h : Grows w base F v l) (ad : Option Addr) (n2 c : Nat) (hx : a.eval x = .slice ad n2 c) (hn2 : l2.length = n2) {G : Nat → Prop} (hq : Qs w G ad l2) (hG : ∀ b, G b → b < w.heap.size ∧ F b ∧ some b ≠ v.ownBlock)
    (hn : l.length + n2 ≤ 800000000000) (hbase : base ≤ w.heap.size)
    (hK : ∀ v' w', Grows w' base F v' (l ++ l2) → w.grownBy w' v.ownBlock → K (a.put o.dst v') w') : o.wp P a w K Q := by
  subst hn2
  by_cases h0 : l2 = []
  · subst h0
    obtain ⟨i, hi, hzz⟩ := Option.map_eq_some_iff.1 hinfo
    obtain ⟨ps, h1, h2, h3⟩ := h
    have hrun := run_append_zero (P := P) (w := w) base t o.type 38 i 12 ht hi v l.length (flat ps) h2 ad c
    have := hK v w (by rw [List.append_nil]; exact ⟨ps, h1, h2, h3⟩) (World.grownBy.refl _ _)
    unfold Oper.wp
    simp [execOp, ho, resolve, invoke, builtin, hs, hx, hrun, Result.andThen]
    exact this
  · have hm : 0 < l2.length := List.length_pos_iff.2 h0
    have hsome : ∃ b o', ad = some ⟨b, o', none⟩ := by
      obtain ⟨ps, g1, g2, _⟩ := hq
      obtain ⟨b, o', e, _⟩ := g2 (by omega)
      exact ⟨b, o', e⟩
    obtain ⟨b, o', rfl⟩ := hsome
    exact wp_grow w s x t ho ht hinfo base v l l2 hs h ⟨b, o', none⟩ l2.length c hx rfl hq hG hm hn hbase (fun g cap w' hgr hgrow _ => hK _ _ hgr hgrow)
end
/-- A literal of one patch is a list that grows. -/
theorem Grows.lit {w : World} {base : Nat} {F : Nat → Prop} {P : Pv} {q : Qp} (hb : base ≤ w.heap.size) (hi : Is w (fun b => F b ∧ b < w.heap.size) P q) : Grows (w.alloc (.cells (parr P) 38)) base F (.slice (some ⟨w.heap.size, 0, none⟩) 1 1) [q] := by
  refine ⟨[P], rfl, World.ownsRow_lit w (parr P) 1 hb (by unfold maxLen; omega) rfl, fun i p q' hp hq => ?_⟩
  cases i with
  | zero =>
    obtain rfl := Option.some.inj hp
    obtain rfl := Option.some.inj hq
    exact (hi.alloc _).mono fun b hb => ⟨hb.1, fun e => by simp [Value.ownBlock] at e; omega⟩
  | succ i => simp at hp
attribute [local go_sem ↓] Go.wp_at_zero Go.wp_at_succ

set_option maxHeartbeats 16000000 in
set_option maxRecDepth 100000 in
theorem pass_walk (p : Pv) (x : Qp) (A : Option Addr) (n c : Nat) (l : List Qp) (w : World) (hg : Glob w) (hx0 : Is w (fun _ => True) p x) (h : Qs w (fun _ => True) A l) (hn : l.length = n) (hb : n ≤ 1152921504606846976) (x1 : x.old.length ≤ 1152921504606846976) (x2 : x.new.length ≤ 1152921504606846976) (hs : ∀ q ∈ l, q.old.length ≤ 1152921504606846976 ∧ q.new.length ≤ 1152921504606846976) :
    Calls Tryz.prog 6 #[p.v, .slice A n c] w (Ret (.bool true) w) := by
  have HL := Lib.hid h
  have HX := Lib.hid hx0
  have HN := Lib.hid hn
  have HG := Lib.hid hg
  have HAW := Lib.hid (fun W (hW : Ext w W) => awake14_any W (hg.ext hW))
  have HGR := Lib.hid (fun W (hW : Ext w W) => lawgreat14_any A n c l W (h.ext hW) hn hb hs)
  have HPG := Lib.hid (fun W (hW : Ext w W) => pgreat_any p x W (hx0.ext hW) x1 x2)
  clear h hn hs hg hb hx0 x1 x2
  go_enter Tryz.func6, Tryz.ntmps6
  have hx := Ext.refl w
  go_wp2_with fail
  refine (HGR.out _ ((Ext.refl w).alloc _)).mono ?_
  rintro e u1 ⟨v, rfl, hsm, hx0⟩
  have HB := Lib.hid (Blk.ext hx0 (Blk.new' (w := w) (cs := parr p) (t := 38) (g := w.heap.size) rfl))
  have hs : Ext w u1 := ((Ext.refl w).alloc _).trans hx0
  replace HL := Lib.hid (HL.out.ext hs)
  replace HX := Lib.hid (HX.out.ext hs)
  clear hx hx0
  have hx := hs
  clear hs
  dsimp only
  have HS := Lib.hid hsm
  clear hsm HGR
  cases v
  rotate_left
  · go_wp2_with fail
    refine (HAW.out _ (hx.trans (by repeat (first | with_reducible exact Ext.refl _ | with_reducible refine Ext.alloc ?_ _)))).mono ?_
    rintro e u2 ⟨rfl, hx0⟩
    have hs : Ext u1 u2 := Ext.trans (by repeat (first | with_reducible exact Ext.refl _ | with_reducible refine Ext.alloc ?_ _)) hx0
    replace HL := Lib.hid (HL.out.ext hs)
    replace HX := Lib.hid (HX.out.ext hs)
    replace HB := Lib.hid (HB.out.ext hs)
    have hx1 := hx.trans hs
    clear hx hs hx0
    have hx := hx1
    clear hx1
    dsimp only
    go_wp2_with fail
    (go_ret; refine Ret.mk ?_ ?_; (focus (rfl; done)); (focus ((repeat (first | with_reducible exact hx | with_reducible exact Ext.refl _ | with_reducible refine Ext.alloc ?_ _ | with_reducible refine Ext.drewN ?_ _ | with_reducible refine Ext.drew1 ?_ | ((with_reducible refine Ext.setCell ?_ ?_ _); rotate_left; (focus (first | (dsimp only; omega) | (simp; done) | (simp; omega)))))); done)))
  have S1 : Small l := HS.out rfl
  have F1 := Lib.hid S1.fits
  have n8 : n ≤ 8 := by have := S1.1; have := HN.out; omega
  clear HS S1
  by_cases h7 : 7 < n
  · have h7' : (7 : Int) < n := by omega
    go_wp2_with fail
    refine (HAW.out _ (hx.trans (by repeat (first | with_reducible exact Ext.refl _ | with_reducible refine Ext.alloc ?_ _)))).mono ?_
    rintro e u2 ⟨rfl, hx0⟩
    have hs : Ext u1 u2 := Ext.trans (by repeat (first | with_reducible exact Ext.refl _ | with_reducible refine Ext.alloc ?_ _)) hx0
    replace HL := Lib.hid (HL.out.ext hs)
    replace HX := Lib.hid (HX.out.ext hs)
    replace HB := Lib.hid (HB.out.ext hs)
    have hx1 := hx.trans hs
    clear hx hs hx0
    have hx := hx1
    clear hx1
    dsimp only
    go_wp2_with fail
    (go_ret; refine Ret.mk ?_ ?_; (focus (rfl; done)); (focus ((repeat (first | with_reducible exact hx | with_reducible exact Ext.refl _ | with_reducible refine Ext.alloc ?_ _ | with_reducible refine Ext.drewN ?_ _ | with_reducible refine Ext.drew1 ?_ | ((with_reducible refine Ext.setCell ?_ ?_ _); rotate_left; (focus (first | (dsimp only; omega) | (simp; done) | (simp; omega)))))); done)))
  have h7' : ¬ (7 : Int) < n := by omega
  have hcb := HB.out.cell
  have hlb := HB.out.lt
  go_wp2_with fail
  clear hcb hlb
  refine (HPG.out _ (hx.trans (by repeat (first | with_reducible exact Ext.refl _ | with_reducible refine Ext.alloc ?_ _)))).mono ?_
  rintro e u2 ⟨v, rfl, hsm, hx0⟩
  have hs : Ext u1 u2 := Ext.trans (by repeat (first | with_reducible exact Ext.refl _ | with_reducible refine Ext.alloc ?_ _)) hx0
  replace HL := Lib.hid (HL.out.ext hs)
  replace HX := Lib.hid (HX.out.ext hs)
  replace HB := Lib.hid (HB.out.ext hs)
  have hx1 := hx.trans hs
  clear hx hs hx0
  have hx := hx1
  clear hx1
  dsimp only
  have HS := Lib.hid hsm
  clear hsm HPG
  cases v
  rotate_left
  · go_wp2_with fail
    refine (HAW.out _ (hx.trans (by repeat (first | with_reducible exact Ext.refl _ | with_reducible refine Ext.alloc ?_ _)))).mono ?_
    rintro e u3 ⟨rfl, hx0⟩
    have hs : Ext u2 u3 := Ext.trans (by repeat (first | with_reducible exact Ext.refl _ | with_reducible refine Ext.alloc ?_ _)) hx0
    replace HL := Lib.hid (HL.out.ext hs)
    replace HX := Lib.hid (HX.out.ext hs)
    replace HB := Lib.hid (HB.out.ext hs)
    have hx1 := hx.trans hs
    clear hx hs hx0
    have hx := hx1
    clear hx1
    dsimp only
    go_wp2_with fail
    (go_ret; refine Ret.mk ?_ ?_; (focus (rfl; done)); (focus ((repeat (first | with_reducible exact hx | with_reducible exact Ext.refl _ | with_reducible refine Ext.alloc ?_ _ | with_reducible refine Ext.drewN ?_ _ | with_reducible refine Ext.drew1 ?_ | ((with_reducible refine Ext.setCell ?_ ?_ _); rotate_left; (focus (first | (dsimp only; omega) | (simp; done) | (simp; omega)))))); done)))
  have FX := Lib.hid (Qp.Mild.fits (HS.out rfl))
  clear HS
  have hcb := HB.out.cell
  have hlb := HB.out.lt
  go_wp2_with (at_builtin; refine wpList_grows _ rfl _ _ 22 rfl Tryz.underlying22 (by kernel_rfl) u2.heap.size _ [x] l rfl (Grows.lit (F := fun b => b < u2.heap.size) (Nat.le_refl _) (HX.out.in.mono fun b hb => ⟨hb.2, hb.2⟩)) A n c rfl HN.out (HL.out.in.ext ((Ext.refl u2).alloc _)) (fun b hb => ⟨by have := hb.2; simp; omega, hb.2, own_ne hb.2⟩) (by simp; omega) (by simp) ?_; intro v1 w1 hgr hgrow)
  have hs : Ext u2 w1 := Ext.grownBy ((Ext.refl u2).alloc _) hgrow (fun k e => Nat.le_of_eq (Option.some.inj (show some u2.heap.size = some k from e)))
  obtain ⟨C, cc, rfl, hqs, hle, _⟩ := hgr.qs
  have hl1 : ([x] ++ l).length = n + 1 := by have := HN.out; simp; omega
  rw [hl1] at hle ⊢
  have HQC : Hid (Qs w1 (fun _ => True) C (x :: l)) := Lib.hid (hqs.mono fun _ _ => trivial)
  have HN1 : Hid ((x :: l).length = n + 1) := Lib.hid hl1
  have HF1 : Hid (∀ q ∈ x :: l, q.Fits) := Lib.hid fun q hq => (List.mem_cons.1 hq).elim (fun e => e ▸ FX.out) (F1.out q)
  replace HL := Lib.hid (HL.out.ext hs)
  replace HX := Lib.hid (HX.out.ext hs)
  replace HB := Lib.hid (HB.out.ext hs)
  have hx1 := hx.trans hs
  clear hx hs hgr hgrow hqs hl1 hcb hlb
  have hx := hx1
  clear hx1
  go_wp2_with fail
  refine (move_any C (n + 1) cc 0 n (x :: l) _ (HG.out.ext (hx.trans (by repeat (first | with_reducible exact Ext.refl _ | with_reducible refine Ext.alloc ?_ _)))) (HQC.out.ext (by repeat (first | with_reducible exact Ext.refl _ | with_reducible refine Ext.alloc ?_ _))) HN1.out (by omega) (by omega) (by omega) HF1.out).mono ?_
  rintro e u3 ⟨hres, hx0⟩
  have hs : Ext w1 u3 := Ext.trans (by repeat (first | with_reducible exact Ext.refl _ | with_reducible refine Ext.alloc ?_ _)) hx0
  replace HL := Lib.hid (HL.out.ext hs)
  replace HX := Lib.hid (HX.out.ext hs)
  replace HB := Lib.hid (HB.out.ext hs)
  replace HQC := Lib.hid (HQC.out.ext hs)
  have hx1 := hx.trans hs
  clear hx hs hx0
  have hx := hx1
  clear hx1
  rcases hres with ⟨hm, rfl⟩ | ⟨m, g, hm, rfl, hgw, HO⟩
  · have hcb := HB.out.cell
    have hlb := HB.out.lt
    dsimp only
    go_wp2_with fail
    clear hcb hlb
    refine (pass_any p x A n c l _ (HG.out.ext (hx.trans (by repeat (first | with_reducible exact Ext.refl _ | with_reducible refine Ext.alloc ?_ _)))) (HX.out.ext (by repeat (first | with_reducible exact Ext.refl _ | with_reducible refine Ext.alloc ?_ _))) (HL.out.ext (by repeat (first | with_reducible exact Ext.refl _ | with_reducible refine Ext.alloc ?_ _))) HN.out (by omega) FX.out F1.out).mono ?_
    rintro e u4 ⟨hres, hx0⟩
    have hs : Ext u3 u4 := Ext.trans (by repeat (first | with_reducible exact Ext.refl _ | with_reducible refine Ext.alloc ?_ _)) hx0
    replace HL := Lib.hid (HL.out.ext hs)
    replace HX := Lib.hid (HX.out.ext hs)
    replace HB := Lib.hid (HB.out.ext hs)
    replace HQC := Lib.hid (HQC.out.ext hs)
    have hx1 := hx.trans hs
    clear hx hs hx0
    have hx := hx1
    clear hx1
    rcases hres with ⟨_, rfl⟩ | ⟨m2, g2, c2, P2, y2, hm2, _⟩
    rotate_left
    · exact nomatch hm.symm.trans hm2
    clear hm
    have HZ := Lib.hid (Is.none (u4.alloc (.cells (parr (Qp.zero.pv none 0 none 0)) 38)) (fun _ => True) Qp.zero rfl rfl)
    go_wp2_with fail
    refine (psame_true (Qp.zero.pv none 0 none 0) (Qp.zero.pv none 0 none 0) Qp.zero _ (F := fun _ => True) (G := fun _ => True) (Is.none _ _ _ rfl rfl) (Is.none _ _ _ rfl rfl) (Nat.zero_le _) (Nat.zero_le _)).mono ?_
    rintro e u5 ⟨rfl, hx0⟩
    have hs : Ext u4 u5 := Ext.trans (by repeat (first | with_reducible exact Ext.refl _ | with_reducible refine Ext.alloc ?_ _)) hx0
    replace HL := Lib.hid (HL.out.ext hs)
    replace HX := Lib.hid (HX.out.ext hs)
    replace HB := Lib.hid (HB.out.ext hs)
    replace HQC := Lib.hid (HQC.out.ext hs)
    have hx1 := hx.trans hs
    clear hx hs hx0
    have hx := hx1
    clear hx1
    dsimp only
    go_wp2_with fail
    refine (HAW.out _ (hx.trans (by repeat (first | with_reducible exact Ext.refl _ | with_reducible refine Ext.alloc ?_ _)))).mono ?_
    rintro e u6 ⟨rfl, hx0⟩
    have hs : Ext u5 u6 := Ext.trans (by repeat (first | with_reducible exact Ext.refl _ | with_reducible refine Ext.alloc ?_ _)) hx0
    replace HL := Lib.hid (HL.out.ext hs)
    replace HX := Lib.hid (HX.out.ext hs)
    replace HB := Lib.hid (HB.out.ext hs)
    replace HQC := Lib.hid (HQC.out.ext hs)
    have hx1 := hx.trans hs
    clear hx hs hx0
    have hx := hx1
    clear hx1
    dsimp only
    go_wp2_with fail
    (go_ret; refine Ret.mk ?_ ?_; (focus (rfl; done)); (focus ((repeat (first | with_reducible exact hx | with_reducible exact Ext.refl _ | with_reducible refine Ext.alloc ?_ _ | with_reducible refine Ext.drewN ?_ _ | with_reducible refine Ext.drew1 ?_ | ((with_reducible refine Ext.setCell ?_ ?_ _); rotate_left; (focus (first | (dsimp only; omega) | (simp; done) | (simp; omega)))))); done)))
  · have HM := Lib.hid (HO.out.qs.mono (G := fun _ => True) fun _ _ => trivial)
    clear hgw HO
    have hcb := HB.out.cell
    have hlb := HB.out.lt
    dsimp only
    go_wp2_with fail
    clear hcb hlb
    refine (pass_any p x A n c l _ (HG.out.ext (hx.trans (by repeat (first | with_reducible exact Ext.refl _ | with_reducible refine Ext.alloc ?_ _)))) (HX.out.ext (by repeat (first | with_reducible exact Ext.refl _ | with_reducible refine Ext.alloc ?_ _))) (HL.out.ext (by repeat (first | with_reducible exact Ext.refl _ | with_reducible refine Ext.alloc ?_ _))) HN.out (by omega) FX.out F1.out).mono ?_
    rintro e u4 ⟨hres, hx0⟩
    have hs : Ext u3 u4 := Ext.trans (by repeat (first | with_reducible exact Ext.refl _ | with_reducible refine Ext.alloc ?_ _)) hx0
    replace HL := Lib.hid (HL.out.ext hs)
    replace HX := Lib.hid (HX.out.ext hs)
    replace HB := Lib.hid (HB.out.ext hs)
    replace HQC := Lib.hid (HQC.out.ext hs)
    replace HM := Lib.hid (HM.out.ext hs)
    have hx1 := hx.trans hs
    clear hx hs hx0
    have hx := hx1
    clear hx1
    rcases hres with ⟨hm2, _⟩ | ⟨m2, g2, c2, P, y, hm2, hy, rfl, HC, HP⟩
    · exact nomatch hm.symm.trans hm2
    obtain rfl : m = m2 := Option.some.inj (hm.symm.trans hm2)
    have hml : m.length = n + 1 := (Sq.move_length hm).trans HN1.out
    have HMF := Lib.hid (Sq.move_fits hm HF1.out)
    have HMY : Hid (m.take n ++ [y] = m) := Lib.hid (by have h0 := List.take_append_drop n m; rw [List.drop_eq_getElem_cons (by omega), List.drop_of_length_le (by omega)] at h0; rw [List.getElem?_eq_getElem (by omega)] at hy; rw [← Option.some.inj hy]; exact h0)
    have HTL : Hid ((m.take n).length = n) := Lib.hid (by simp; omega)
    have HML := Lib.hid hml
    clear hm hm2 hy hml
    dsimp only
    go_upto_region 7 with fail
    generalize hw3 : World.alloc u4 _ = w3
    have hbq : Blk w3 u4.heap.size 38 (parr P) := by rw [← hw3]; exact Blk.new' rfl
    have hs : Ext u4 w3 := by rw [← hw3]; exact (Ext.refl u4).alloc _
    generalize u4.heap.size = gq at hbq ⊢
    replace HL := Lib.hid (HL.out.ext hs)
    replace HX := Lib.hid (HX.out.ext hs)
    replace HB := Lib.hid (HB.out.ext hs)
    replace HQC := Lib.hid (HQC.out.ext hs)
    replace HM := Lib.hid (HM.out.ext hs)
    replace HC := Lib.hid (HC.out.ext hs)
    replace HP := Lib.hid (HP.out.ext hs)
    have HBQ := Lib.hid hbq
    have hx1 := hx.trans hs
    clear hx hs hw3 hbq
    have hx := hx1
    clear hx1
    have HX3 := Lib.hid hx
    clear hx
    refine wp_region_noPanic (wp_region_held_drew (S := fun w' => Ext w3 w') (by kernel_rfl) (Ext.refl w3).drew1 (fun hv => ?_))
    generalize hv0 : w3.drew = v0 at hv ⊢
    obtain ⟨B0, eB0⟩ : ∃ b, b = v0.heap.size := ⟨_, rfl⟩
    have HC : Hid (Qs v0 (fun b => b < B0) (some ⟨g2, 0, none⟩) (m.take n)) := Lib.hid ((HC.out.ext hv).in.mono fun b hb => by have := hb.2; omega)
    have HP : Hid (Is v0 (fun b => b < B0) P y) := Lib.hid ((HP.out.ext hv).in.mono fun b hb => by have := hb.2; omega)
    have EB := Lib.hid eB0
    clear hv0 eB0
    refine take_free (i := 0) (v := .bool true) rfl rfl (by kernel_rfl) (by kernel_rfl) (by kernel_rfl) (by kernel_rfl) (fun _ => rfl) hv ?_
    try simp only [Act.put, List.setIfInBounds_toArray, List.set_cons_zero, List.set_cons_succ]
    refine take_free (i := 1) (v := .bool true) rfl rfl (by kernel_rfl) (by kernel_rfl) (by kernel_rfl) (by kernel_rfl) (fun _ => rfl) hv ?_
    try simp only [Act.put, List.setIfInBounds_toArray, List.set_cons_zero, List.set_cons_succ]
    refine take_free (i := 3) (v := .slice (some ⟨g2, 0, none⟩) n c2) rfl rfl (by kernel_rfl) (by kernel_rfl) (by kernel_rfl) (by kernel_rfl) (fun _ => rfl) hv ?_
    try simp only [Act.put, List.setIfInBounds_toArray, List.set_cons_zero, List.set_cons_succ]
    refine take_loadg (i := 5) (parr P).toList rfl rfl rfl (by kernel_rfl) (by kernel_rfl) (by kernel_rfl) (by kernel_rfl) rfl Tryz.underlying38 rfl (by kernel_rfl) (fun _ h => (HBQ.out.ext h).range 0 _ (fun j _ => by rw [Nat.zero_add, Array.getElem?_toList])) hv ?_
    try simp only [Act.put, List.setIfInBounds_toArray, List.set_cons_zero, List.set_cons_succ]
    refine take_free (i := 8) (v := .slice (some ⟨g, 0, none⟩) (n + 1) (n + 1)) rfl rfl (by kernel_rfl) (by kernel_rfl) (by kernel_rfl) (by kernel_rfl) (fun _ => rfl) hv ?_
    try simp only [Act.put, List.setIfInBounds_toArray, List.set_cons_zero, List.set_cons_succ]
    have hsz : B0 ≤ v0.heap.size := Nat.le_of_eq EB.out
    have hy0 := Ext.refl v0
    have hv0 := hv
    refine wpAnyH_ready (rs := [2, 6]) (by kernel_rfl) (by simp) ?_
    refine (AllReadyH.cons rfl (fun K hK => ?_) (AllReadyH.cons rfl (fun K hK => ?_) AllReadyH.nil))
    · go_simp
      refine hK.out _ _ (hv.alloc _) (fun _ => ?_)
      clear hK
      try simp only [Act.put, List.setIfInBounds_toArray, List.set_cons_zero, List.set_cons_succ]
      have HGR := Lib.hid (Grows.empty (w := v0) (base := B0) (fun b => b < B0) hsz)
      have hxs : Ext v0 (v0.alloc (.cells #[] 38)) := (Ext.refl v0).alloc _
      have hsz := Nat.le_trans hsz hxs.size_le
      have hv := hv.trans hxs
      have hy0 := hy0.trans hxs
      obtain ⟨g2v1, eg2v1⟩ : ∃ b, b = v0.heap.size := ⟨_, rfl⟩
      rw [← eg2v1] at HGR ⊢
      have Lg2v1 := Lib.hid (show B0 ≤ g2v1 ∧ g2v1 < (v0.alloc (.cells #[] 38)).heap.size by simp; omega)
      clear eg2v1 hxs
      generalize v0.alloc (.cells #[] 38) = v1 at *
      refine wpAnyH_ready (rs := [4, 6]) (by kernel_rfl) (by simp) ?_
      refine (AllReadyH.cons rfl (fun K hK => ?_) (AllReadyH.cons rfl (fun K hK => ?_) AllReadyH.nil))
      · rw [if_pos (show _ = true by kernel_rfl)]
        refine wp_grows v1 _ _ 22 rfl Tryz.underlying22 (by kernel_rfl) B0 _ [] (m.take n) rfl HGR.out (some ⟨g2, 0, none⟩) n c2 rfl HTL.out (HC.out.ext hy0) (fun b hb => ⟨by omega, hb, fun e => by have := (HGR.out.own b e.symm).1; omega⟩) (by simp; omega) hsz ?_
        intro r4 v2 hgr hgrow
        have hxs : Ext v0 v2 := Ext.grownBy hy0 hgrow (fun k e => by have := (HGR.out.own k e).1; have := EB.out; omega)
        have hvn := hv0.trans hxs
        refine hK.out _ _ hvn (fun _ => ?_)
        clear hK
        try simp only [Act.put, List.setIfInBounds_toArray, List.set_cons_zero, List.set_cons_succ]
        have hsz := Nat.le_trans (Nat.le_of_eq EB.out) hxs.size_le
        have hy0 := hxs
        have hv := hvn
        have HGR := Lib.hid hgr
        clear hgr hgrow hxs hvn
        refine wpAnyH_one (i := 6) (by kernel_rfl) rfl (by kernel_rfl) ?_
        go_simp
        refine ⟨hv.alloc _, ?_⟩
        try simp only [Act.put, List.setIfInBounds_toArray, List.set_cons_zero, List.set_cons_succ]
        have HB6 := Lib.hid (Blk.new' (w := v2) (cs := parr P) (t := 38) (g := v2.heap.size) rfl)
        have hxs : Ext v2 (v2.alloc (.cells (parr P) 38)) := (Ext.refl v2).alloc _
        replace HGR := Lib.hid (HGR.out.ext hxs)
        have hsz := Nat.le_trans hsz hxs.size_le
        have hv := hv.trans hxs
        have hy0 := hy0.trans hxs
        obtain ⟨g6v3, eg6v3⟩ : ∃ b, b = v2.heap.size := ⟨_, rfl⟩
        rw [← eg6v3] at HB6 ⊢
        have Lg6v3 := Lib.hid (show B0 ≤ g6v3 ∧ g6v3 < (v2.alloc (.cells (parr P) 38)).heap.size by simp; omega)
        clear eg6v3 hxs
        generalize v2.alloc (.cells (parr P) 38) = v3 at *
        refine wpAnyH_one (i := 7) (by kernel_rfl) rfl (by kernel_rfl) ?_
        refine wp_grows v3 _ _ 22 rfl Tryz.underlying22 (by kernel_rfl) B0 r4 ([] ++ m.take n) [y] rfl HGR.out (some ⟨g6v3, 0, none⟩) 1 1 rfl rfl (Qs.one HB6.out (HP.out.ext hy0)) (fun b hb => ⟨by omega, hb, fun e => by have := (HGR.out.own b e.symm).1; omega⟩) (by have := HTL.out; simp; omega) hsz ?_
        intro r7 v4 hgr hgrow
        have hxs : Ext v0 v4 := Ext.grownBy hy0 hgrow (fun k e => by have := (HGR.out.own k e).1; have := EB.out; omega)
        have hvn := hv0.trans hxs
        refine ⟨hvn, ?_⟩
        try simp only [Act.put, List.setIfInBounds_toArray, List.set_cons_zero, List.set_cons_succ]
        have hv := hvn
        have hy0 := hxs
        have HGR := Lib.hid hgr
        clear hgr hgrow hxs hvn
        obtain ⟨C9, c9, rfl, hq9, _, _⟩ := HGR.out.qs
        have hq8 : Qs v4 (fun _ => True) C9 m := by have := hq9.mono (G := fun _ => True) (fun _ _ => trivial); rwa [List.nil_append, HMY.out] at this
        have hl9 : ([] ++ m.take n ++ [y]).length = n + 1 := by rw [List.nil_append, HMY.out]; exact HML.out
        rw [hl9]
        have HQ9 := Lib.hid hq8
        clear hq9 hq8 hl9 HGR HB6
        refine wpAnyH_one (i := 9) (by kernel_rfl) rfl (by kernel_rfl) ?_
        go_simp
        refine (samelist_true C9 (some ⟨g, 0, none⟩) (n + 1) c9 (n + 1) m _ (F := fun _ => True) (G := fun _ => True) HQ9.out (HM.out.ext hv) HML.out (by omega) HMF.out).mono ?_
        rintro e v5 ⟨rfl, hx0⟩
        have hv2 := hv.trans hx0
        clear hv hx0 HQ9
        have hv := hv2
        clear hv2
        refine ⟨hv, ?_⟩
        try simp only [Act.put, List.setIfInBounds_toArray, List.set_cons_zero, List.set_cons_succ]
        refine take_free (i := 10) (v := .bool true) rfl rfl (by kernel_rfl) (by kernel_rfl) (by kernel_rfl) (by kernel_rfl) (fun _ => rfl) hv ?_
        try simp only [Act.put, List.setIfInBounds_toArray, List.set_cons_zero, List.set_cons_succ]
        refine take_free (i := 11) (v := .bool true) rfl rfl (by kernel_rfl) (by kernel_rfl) (by kernel_rfl) (by kernel_rfl) (fun _ => rfl) hv ?_
        try simp only [Act.put, List.setIfInBounds_toArray, List.set_cons_zero, List.set_cons_succ]
        refine wpAnyH_one (i := 12) (by kernel_rfl) rfl (by kernel_rfl) ?_
        go_simp
        refine (HAW.out _ (HX3.out.trans hv)).mono ?_
        rintro e v6 ⟨rfl, hx0⟩
        have hv2 := hv.trans hx0
        clear hv hx0
        have hv := hv2
        clear hv2
        refine ⟨hv, ?_⟩
        try simp only [Act.put, List.setIfInBounds_toArray, List.set_cons_zero, List.set_cons_succ]
        refine take_free (i := 13) (v := .bool true) rfl rfl (by kernel_rfl) (by kernel_rfl) (by kernel_rfl) (by kernel_rfl) (fun _ => rfl) hv ?_
        try simp only [Act.put, List.setIfInBounds_toArray, List.set_cons_zero, List.set_cons_succ]
        refine take_free (i := 14) (v := .bool true) rfl rfl (by kernel_rfl) (by kernel_rfl) (by kernel_rfl) (by kernel_rfl) (fun _ => rfl) hv ?_
        try simp only [Act.put, List.setIfInBounds_toArray, List.set_cons_zero, List.set_cons_succ]
        refine wpAnyH_done (by kernel_rfl) (NoPanic.normal ?_) _
        have hx := HX3.out.trans hv
        clear hv
        go_wp2_with fail
        (go_ret; refine Ret.mk ?_ ?_; (focus (rfl; done)); (focus ((repeat (first | with_reducible exact hx | with_reducible exact Ext.refl _ | with_reducible refine Ext.alloc ?_ _ | with_reducible refine Ext.drewN ?_ _ | with_reducible refine Ext.drew1 ?_ | ((with_reducible refine Ext.setCell ?_ ?_ _); rotate_left; (focus (first | (dsimp only; omega) | (simp; done) | (simp; omega)))))); done)))
      · go_simp
        refine hK.out _ _ (hv.alloc _) (fun _ => ?_)
        clear hK
        try simp only [Act.put, List.setIfInBounds_toArray, List.set_cons_zero, List.set_cons_succ]
        have HB6 := Lib.hid (Blk.new' (w := v1) (cs := parr P) (t := 38) (g := v1.heap.size) rfl)
        have hxs : Ext v1 (v1.alloc (.cells (parr P) 38)) := (Ext.refl v1).alloc _
        replace HGR := Lib.hid (HGR.out.ext hxs)
        have hsz := Nat.le_trans hsz hxs.size_le
        have hv := hv.trans hxs
        have hy0 := hy0.trans hxs
        obtain ⟨g6v7, eg6v7⟩ : ∃ b, b = v1.heap.size := ⟨_, rfl⟩
        rw [← eg6v7] at HB6 ⊢
        have Lg6v7 := Lib.hid (show B0 ≤ g6v7 ∧ g6v7 < (v1.alloc (.cells (parr P) 38)).heap.size by simp; omega)
        have NE := Lib.hid (show g6v7 ≠ g2v1 by have h9 := Lg2v1.out; omega)
        clear eg6v7 hxs
        generalize v1.alloc (.cells (parr P) 38) = v7 at *
        refine wpAnyH_one (i := 4) (by kernel_rfl) rfl (by kernel_rfl) ?_
        refine wp_grows v7 _ _ 22 rfl Tryz.underlying22 (by kernel_rfl) B0 _ [] (m.take n) rfl HGR.out (some ⟨g2, 0, none⟩) n c2 rfl HTL.out (HC.out.ext hy0) (fun b hb => ⟨by omega, hb, fun e => by have := (HGR.out.own b e.symm).1; omega⟩) (by simp; omega) hsz ?_
        intro r4 v8 hgr hgrow
        have hxs : Ext v0 v8 := Ext.grownBy hy0 hgrow (fun k e => by have := (HGR.out.own k e).1; have := EB.out; omega)
        have HB6o := Lib.hid (HB6.out.offD (Off.grown (D := fun b => some b = Value.ownBlock (.slice (some ⟨g2v1, 0, none⟩) 0 0)) hgrow (fun k e => e.symm)) (fun e => by have := Option.some.inj (show some g6v7 = some g2v1 from e); exact NE.out this))
        have hvn := hv0.trans hxs
        refine ⟨hvn, ?_⟩
        try simp only [Act.put, List.setIfInBounds_toArray, List.set_cons_zero, List.set_cons_succ]
        replace HB6 := HB6o
        clear HB6o
        have hsz := Nat.le_trans (Nat.le_of_eq EB.out) hxs.size_le
        have hy0 := hxs
        have hv := hvn
        have HGR := Lib.hid hgr
        clear hgr hgrow hxs hvn
        refine wpAnyH_one (i := 7) (by kernel_rfl) rfl (by kernel_rfl) ?_
        refine wp_grows v8 _ _ 22 rfl Tryz.underlying22 (by kernel_rfl) B0 r4 ([] ++ m.take n) [y] rfl HGR.out (some ⟨g6v7, 0, none⟩) 1 1 rfl rfl (Qs.one HB6.out (HP.out.ext hy0)) (fun b hb => ⟨by omega, hb, fun e => by have := (HGR.out.own b e.symm).1; omega⟩) (by have := HTL.out; simp; omega) hsz ?_
        intro r7 v9 hgr hgrow
        have hxs : Ext v0 v9 := Ext.grownBy hy0 hgrow (fun k e => by have := (HGR.out.own k e).1; have := EB.out; omega)
        have hvn := hv0.trans hxs
        refine ⟨hvn, ?_⟩
        try simp only [Act.put, List.setIfInBounds_toArray, List.set_cons_zero, List.set_cons_succ]
        have hv := hvn
        have hy0 := hxs
        have HGR := Lib.hid hgr
        clear hgr hgrow hxs hvn
        obtain ⟨C9, c9, rfl, hq9, _, _⟩ := HGR.out.qs
        have hq8 : Qs v9 (fun _ => True) C9 m := by have := hq9.mono (G := fun _ => True) (fun _ _ => trivial); rwa [List.nil_append, HMY.out] at this
        have hl9 : ([] ++ m.take n ++ [y]).length = n + 1 := by rw [List.nil_append, HMY.out]; exact HML.out
        rw [hl9]
        have HQ9 := Lib.hid hq8
        clear hq9 hq8 hl9 HGR HB6
        refine wpAnyH_one (i := 9) (by kernel_rfl) rfl (by kernel_rfl) ?_
        go_simp
        refine (samelist_true C9 (some ⟨g, 0, none⟩) (n + 1) c9 (n + 1) m _ (F := fun _ => True) (G := fun _ => True) HQ9.out (HM.out.ext hv) HML.out (by omega) HMF.out).mono ?_
        rintro e v10 ⟨rfl, hx0⟩
        have hv2 := hv.trans hx0
        clear hv hx0 HQ9
        have hv := hv2
        clear hv2
        refine ⟨hv, ?_⟩
        try simp only [Act.put, List.setIfInBounds_toArray, List.set_cons_zero, List.set_cons_succ]
        refine take_free (i := 10) (v := .bool true) rfl rfl (by kernel_rfl) (by kernel_rfl) (by kernel_rfl) (by kernel_rfl) (fun _ => rfl) hv ?_
        try simp only [Act.put, List.setIfInBounds_toArray, List.set_cons_zero, List.set_cons_succ]
        refine take_free (i := 11) (v := .bool true) rfl rfl (by kernel_rfl) (by kernel_rfl) (by kernel_rfl) (by kernel_rfl) (fun _ => rfl) hv ?_
        try simp only [Act.put, List.setIfInBounds_toArray, List.set_cons_zero, List.set_cons_succ]
        refine wpAnyH_one (i := 12) (by kernel_rfl) rfl (by kernel_rfl) ?_
        go_simp
        refine (HAW.out _ (HX3.out.trans hv)).mono ?_
        rintro e v11 ⟨rfl, hx0⟩
        have hv2 := hv.trans hx0
        clear hv hx0
        have hv := hv2
        clear hv2
        refine ⟨hv, ?_⟩
        try simp only [Act.put, List.setIfInBounds_toArray, List.set_cons_zero, List.set_cons_succ]
        refine take_free (i := 13) (v := .bool true) rfl rfl (by kernel_rfl) (by kernel_rfl) (by kernel_rfl) (by kernel_rfl) (fun _ => rfl) hv ?_
        try simp only [Act.put, List.setIfInBounds_toArray, List.set_cons_zero, List.set_cons_succ]
        refine take_free (i := 14) (v := .bool true) rfl rfl (by kernel_rfl) (by kernel_rfl) (by kernel_rfl) (by kernel_rfl) (fun _ => rfl) hv ?_
        try simp only [Act.put, List.setIfInBounds_toArray, List.set_cons_zero, List.set_cons_succ]
        refine wpAnyH_done (by kernel_rfl) (NoPanic.normal ?_) _
        have hx := HX3.out.trans hv
        clear hv
        go_wp2_with fail
        (go_ret; refine Ret.mk ?_ ?_; (focus (rfl; done)); (focus ((repeat (first | with_reducible exact hx | with_reducible exact Ext.refl _ | with_reducible refine Ext.alloc ?_ _ | with_reducible refine Ext.drewN ?_ _ | with_reducible refine Ext.drew1 ?_ | ((with_reducible refine Ext.setCell ?_ ?_ _); rotate_left; (focus (first | (dsimp only; omega) | (simp; done) | (simp; omega)))))); done)))
    · go_simp
      refine hK.out _ _ (hv.alloc _) (fun _ => ?_)
      clear hK
      try simp only [Act.put, List.setIfInBounds_toArray, List.set_cons_zero, List.set_cons_succ]
      have HB6 := Lib.hid (Blk.new' (w := v0) (cs := parr P) (t := 38) (g := v0.heap.size) rfl)
      have hxs : Ext v0 (v0.alloc (.cells (parr P) 38)) := (Ext.refl v0).alloc _
      have hsz := Nat.le_trans hsz hxs.size_le
      have hv := hv.trans hxs
      have hy0 := hy0.trans hxs
      obtain ⟨g6v12, eg6v12⟩ : ∃ b, b = v0.heap.size := ⟨_, rfl⟩
      rw [← eg6v12] at HB6 ⊢
      have Lg6v12 := Lib.hid (show B0 ≤ g6v12 ∧ g6v12 < (v0.alloc (.cells (parr P) 38)).heap.size by simp; omega)
      clear eg6v12 hxs
      generalize v0.alloc (.cells (parr P) 38) = v12 at *
      refine wpAnyH_one (i := 2) (by kernel_rfl) rfl (by kernel_rfl) ?_
      go_simp
      refine ⟨hv.alloc _, ?_⟩
      try simp only [Act.put, List.setIfInBounds_toArray, List.set_cons_zero, List.set_cons_succ]
      have HGR := Lib.hid (Grows.empty (w := v12) (base := B0) (fun b => b < B0) hsz)
      have hxs : Ext v12 (v12.alloc (.cells #[] 38)) := (Ext.refl v12).alloc _
      replace HB6 := Lib.hid (HB6.out.ext hxs)
      have hsz := Nat.le_trans hsz hxs.size_le
      have hv := hv.trans hxs
      have hy0 := hy0.trans hxs
      obtain ⟨g2v13, eg2v13⟩ : ∃ b, b = v12.heap.size := ⟨_, rfl⟩
      rw [← eg2v13] at HGR ⊢
      have Lg2v13 := Lib.hid (show B0 ≤ g2v13 ∧ g2v13 < (v12.alloc (.cells #[] 38)).heap.size by simp; omega)
      have NE := Lib.hid (show g6v12 ≠ g2v13 by have h9 := Lg6v12.out; omega)
      clear eg2v13 hxs
      generalize v12.alloc (.cells #[] 38) = v13 at *
      refine wpAnyH_one (i := 4) (by kernel_rfl) rfl (by kernel_rfl) ?_
      refine wp_grows v13 _ _ 22 rfl Tryz.underlying22 (by kernel_rfl) B0 _ [] (m.take n) rfl HGR.out (some ⟨g2, 0, none⟩) n c2 rfl HTL.out (HC.out.ext hy0) (fun b hb => ⟨by omega, hb, fun e => by have := (HGR.out.own b e.symm).1; omega⟩) (by simp; omega) hsz ?_
      intro r4 v14 hgr hgrow
      have hxs : Ext v0 v14 := Ext.grownBy hy0 hgrow (fun k e => by have := (HGR.out.own k e).1; have := EB.out; omega)
      have HB6o := Lib.hid (HB6.out.offD (Off.grown (D := fun b => some b = Value.ownBlock (.slice (some ⟨g2v13, 0, none⟩) 0 0)) hgrow (fun k e => e.symm)) (fun e => by have := Option.some.inj (show some g6v12 = some g2v13 from e); exact NE.out this))
      have hvn := hv0.trans hxs
      refine ⟨hvn, ?_⟩
      try simp only [Act.put, List.setIfInBounds_toArray, List.set_cons_zero, List.set_cons_succ]
      replace HB6 := HB6o
      clear HB6o
      have hsz := Nat.le_trans (Nat.le_of_eq EB.out) hxs.size_le
      have hy0 := hxs
      have hv := hvn
      have HGR := Lib.hid hgr
      clear hgr hgrow hxs hvn
      refine wpAnyH_one (i := 7) (by kernel_rfl) rfl (by kernel_rfl) ?_
      refine wp_grows v14 _ _ 22 rfl Tryz.underlying22 (by kernel_rfl) B0 r4 ([] ++ m.take n) [y] rfl HGR.out (some ⟨g6v12, 0, none⟩) 1 1 rfl rfl (Qs.one HB6.out (HP.out.ext hy0)) (fun b hb => ⟨by omega, hb, fun e => by have := (HGR.out.own b e.symm).1; omega⟩) (by have := HTL.out; simp; omega) hsz ?_
      intro r7 v15 hgr hgrow
      have hxs : Ext v0 v15 := Ext.grownBy hy0 hgrow (fun k e => by have := (HGR.out.own k e).1; have := EB.out; omega)
      have hvn := hv0.trans hxs
      refine ⟨hvn, ?_⟩
      try simp only [Act.put, List.setIfInBounds_toArray, List.set_cons_zero, List.set_cons_succ]
      have hv := hvn
      have hy0 := hxs
      have HGR := Lib.hid hgr
      clear hgr hgrow hxs hvn
      obtain ⟨C9, c9, rfl, hq9, _, _⟩ := HGR.out.qs
      have hq8 : Qs v15 (fun _ => True) C9 m := by have := hq9.mono (G := fun _ => True) (fun _ _ => trivial); rwa [List.nil_append, HMY.out] at this
      have hl9 : ([] ++ m.take n ++ [y]).length = n + 1 := by rw [List.nil_append, HMY.out]; exact HML.out
      rw [hl9]
      have HQ9 := Lib.hid hq8
      clear hq9 hq8 hl9 HGR HB6
      refine wpAnyH_one (i := 9) (by kernel_rfl) rfl (by kernel_rfl) ?_
      go_simp
      refine (samelist_true C9 (some ⟨g, 0, none⟩) (n + 1) c9 (n + 1) m _ (F := fun _ => True) (G := fun _ => True) HQ9.out (HM.out.ext hv) HML.out (by omega) HMF.out).mono ?_
      rintro e v16 ⟨rfl, hx0⟩
      have hv2 := hv.trans hx0
      clear hv hx0 HQ9
      have hv := hv2
      clear hv2
      refine ⟨hv, ?_⟩
      try simp only [Act.put, List.setIfInBounds_toArray, List.set_cons_zero, List.set_cons_succ]
      refine take_free (i := 10) (v := .bool true) rfl rfl (by kernel_rfl) (by kernel_rfl) (by kernel_rfl) (by kernel_rfl) (fun _ => rfl) hv ?_
      try simp only [Act.put, List.setIfInBounds_toArray, List.set_cons_zero, List.set_cons_succ]
      refine take_free (i := 11) (v := .bool true) rfl rfl (by kernel_rfl) (by kernel_rfl) (by kernel_rfl) (by kernel_rfl) (fun _ => rfl) hv ?_
      try simp only [Act.put, List.setIfInBounds_toArray, List.set_cons_zero, List.set_cons_succ]
      refine wpAnyH_one (i := 12) (by kernel_rfl) rfl (by kernel_rfl) ?_
      go_simp
      refine (HAW.out _ (HX3.out.trans hv)).mono ?_
      rintro e v17 ⟨rfl, hx0⟩
      have hv2 := hv.trans hx0
      clear hv hx0
      have hv := hv2
      clear hv2
      refine ⟨hv, ?_⟩
      try simp only [Act.put, List.setIfInBounds_toArray, List.set_cons_zero, List.set_cons_succ]
      refine take_free (i := 13) (v := .bool true) rfl rfl (by kernel_rfl) (by kernel_rfl) (by kernel_rfl) (by kernel_rfl) (fun _ => rfl) hv ?_
      try simp only [Act.put, List.setIfInBounds_toArray, List.set_cons_zero, List.set_cons_succ]
      refine take_free (i := 14) (v := .bool true) rfl rfl (by kernel_rfl) (by kernel_rfl) (by kernel_rfl) (by kernel_rfl) (fun _ => rfl) hv ?_
      try simp only [Act.put, List.setIfInBounds_toArray, List.set_cons_zero, List.set_cons_succ]
      refine wpAnyH_done (by kernel_rfl) (NoPanic.normal ?_) _
      have hx := HX3.out.trans hv
      clear hv
      go_wp2_with fail
      (go_ret; refine Ret.mk ?_ ?_; (focus (rfl; done)); (focus ((repeat (first | with_reducible exact hx | with_reducible exact Ext.refl _ | with_reducible refine Ext.alloc ?_ _ | with_reducible refine Ext.drewN ?_ _ | with_reducible refine Ext.drew1 ?_ | ((with_reducible refine Ext.setCell ?_ ?_ _); rotate_left; (focus (first | (dsimp only; omega) | (simp; done) | (simp; omega)))))); done)))
end Go.Proofs.YtgfiddlmeopebaaGreatDoor
