/- Walks: a patch carried through a sequence. -/
import Derived.Test.YtgfiddlmeopebaaGreatDoorTh
import Derived.Test.YtgfiddlmeopebaaGreatDoorCl
import Derived.Test.YtgfiddlmeopebaaGreatDoorUe
set_option linter.unusedSimpArgs false
set_option linter.unusedVariables false
namespace Go.Proofs.YtgfiddlmeopebaaGreatDoor
open Go Go.RowKit
attribute [local go_sem ↓] Go.wp_at_zero Go.wp_at_succ

/-- How far x has been carried through l: k patches are behind it. -/
def Car (x : Qp) (l : List Qp) (k : Nat) (xk : Qp) (outs : List Qp) : Prop :=
  outs.length = k ∧ xk.Fits ∧ Sq.carried x l = match Sq.carried xk (l.drop k) with
    | .ok r => .ok (r.1, outs ++ r.2)
    | .error j => .error (j + k)
theorem Car.start (x : Qp) (l : List Qp) (hf : x.Fits) : Car x l 0 x [] := by
  refine ⟨rfl, hf, ?_⟩
  rw [List.drop_zero]
  cases Sq.carried x l <;> rfl
theorem Car.step {x : Qp} {l : List Qp} {k : Nat} {xk y : Qp} {outs : List Qp} (h : Car x l k xk outs) (hy : l[k]? = some y) (hm : (xk.merge y).2.2 = true) : Car x l (k + 1) (xk.merge y).2.1 (outs ++ [(xk.merge y).1]) := by
  obtain ⟨h1, h2, h3⟩ := h
  refine ⟨by simp [h1], (merge_fits hm).2, ?_⟩
  obtain ⟨hlt, e⟩ := List.getElem?_eq_some_iff.1 hy
  rw [h3, List.drop_eq_getElem_cons hlt, e, Sq.carried, if_pos hm]
  cases Sq.carried (xk.merge y).2.1 (l.drop (k + 1)) with
  | ok r => simp
  | error j => simp; omega
theorem Car.dies {x : Qp} {l : List Qp} {k : Nat} {xk y : Qp} {outs : List Qp} (h : Car x l k xk outs) (hy : l[k]? = some y) (hm : ¬ (xk.merge y).2.2 = true) : Sq.carried x l = .error k := by
  obtain ⟨h1, h2, h3⟩ := h
  obtain ⟨hlt, e⟩ := List.getElem?_eq_some_iff.1 hy
  rw [h3, List.drop_eq_getElem_cons hlt, e, Sq.carried, if_neg hm]
  simp
theorem Car.ends {x : Qp} {l : List Qp} {k : Nat} {xk : Qp} {outs : List Qp} (h : Car x l k xk outs) (hk : l.length ≤ k) : Sq.carried x l = .ok (xk, outs) := by
  obtain ⟨h1, h2, h3⟩ := h
  rw [h3, List.drop_of_length_le hk]
  simp [Sq.carried]
/-- The cells of a row of the grid. -/
def rowCells (P : Pv) (B : Option Addr) (n c : Nat) (at_ : Int) (ok : Bool) : Array Value :=
  #[.int .i64 P.kind, .string P.path, .string P.to_, .int .i64 P.ty, .int .i64 P.at_, .slice P.A1 P.n1 P.c1, .slice P.A2 P.n2 P.c2, .int .i64 P.off, .string P.so, .string P.sn, .int .i64 P.om, .int .i64 P.nm, .slice B n c, .int .i64 at_, .bool ok]
/-- Where it lay, or new since w. -/
def Fresh (F : Nat → Prop) (w : World) (b : Nat) : Prop := (F b ∧ b < w.heap.size) ∨ w.heap.size ≤ b
/-- What carried hands back: the list's block is new. -/
def Carried (F : Nat → Prop) (R : Except Nat (Qp × List Qp)) (w : World) (e : Ending) (w' : World) : Prop :=
  (match R with
    | .ok r => ∃ P B c, e = .returned (.agg (rowCells P B r.2.length c 0 true)) ∧ Hid (Is w' (Fresh F w) P r.1) ∧ Hid (Qs w' (Fresh F w) B r.2) ∧ Hid ((B = none → c = 0) ∧ ∀ ad, B = some ad → w.heap.size ≤ ad.block ∧ ad.block < w'.heap.size)
    | .error k => e = .returned (.agg (rowCells (Qp.zero.pv none 0 none 0) none 0 0 k false))) ∧ Ext w w'

theorem Qs.one {W : World} {g : Nat} {G : Nat → Prop} {P : Pv} {q : Qp} (hb : Blk W g 38 (parr P)) (hi : Is W G P q) : Qs W G (some ⟨g, 0, none⟩) [q] := by
  refine ⟨[P], rfl, fun _ => ⟨g, 0, rfl, hb.lt, fun i p hp j v hv => ?_⟩, fun i p q' hp hq => ?_⟩
  · have h0 : i = 0 := by have := (List.getElem?_eq_some_iff.1 hp).1; simpa using this
    subst h0
    obtain rfl : P = p := Option.some.inj hp
    rw [hb.cell]
    simpa using hv
  · have h0 : i = 0 := by have := (List.getElem?_eq_some_iff.1 hp).1; simpa using this
    subst h0
    obtain rfl : P = p := Option.some.inj hp
    obtain rfl : q = q' := Option.some.inj hq
    exact hi
abbrev z15 : Array Value := #[.int .i64 0, .string ⟨#[]⟩, .string ⟨#[]⟩, .int .i64 0, .int .i64 0, .slice none 0 0, .slice none 0 0, .int .i64 0, .string ⟨#[]⟩, .string ⟨#[]⟩, .int .i64 0, .int .i64 0, .slice none 0 0, .int .i64 0, .bool false]
set_option maxHeartbeats 16000000 in
set_option maxRecDepth 100000 in
theorem carried_any (A : Option Addr) (n c : Nat) (l : List Qp) (p : Pv) (x : Qp) (w : World) (hg : Glob w) {F : Nat → Prop} (hq : Qs w F A l) (hn : l.length = n) (hx : Is w F p x) (fx : x.Fits) (hf : ∀ q ∈ l, q.Fits) (hb : n ≤ 100000000000) :
    Calls Tryz.prog 56 #[p.v, .slice A n c] w (Carried F (Sq.carried x l) w) := by
  have HQ := Lib.hid hq.in
  have HX := Lib.hid hx.in
  have HG := Lib.hid hg
  have HN := Lib.hid hn
  have HF := Lib.hid hf
  have HC0 := Lib.hid (Car.start x l fx)
  have HR : Hid (∀ k xk y outs, Car x l k xk outs → l[k]? = some y → ¬ (xk.merge y).2.2 = true → Sq.carried x l = .error k) := Lib.hid fun k xk y outs h => h.dies
  have HE : Hid (∀ k xk outs, Car x l k xk outs → l.length ≤ k → Sq.carried x l = .ok (xk, outs)) := Lib.hid fun k xk outs h => h.ends
  generalize Sq.carried x l = R at HR HE ⊢
  clear hq hx hg hn hf fx
  go_enter Tryz.func56, Tryz.ntmps56
  have hx := Ext.refl w
  go_wp2_with fail
  have hbx := Lib.hid (show Blk ((w.alloc (.cells (parr p) 38)).alloc (.cells z15 62)) w.heap.size 38 (parr p) from Blk.alloc (Blk.new' rfl) _)
  have hbr := Lib.hid (show Blk ((w.alloc (.cells (parr p) 38)).alloc (.cells z15 62)) (w.heap.size + 1) 62 z15 from Blk.new' (by simp))
  have hx0 : Ext w ((w.alloc (.cells (parr p) 38)).alloc (.cells z15 62)) := ((Ext.refl w).alloc _).alloc _
  generalize ((w.alloc (.cells (parr p) 38)).alloc (.cells z15 62)) = w0 at hbx hbr hx0 ⊢
  have HP0 := Lib.hid ((HX.out.ext hx0).mono (G := fun b => ((b ≠ w.heap.size ∧ b ≠ w.heap.size + 1) ∧ Fresh F w b) ∧ some b ≠ Value.ownBlock (.slice none 0 0)) fun b hb => ⟨⟨⟨Nat.ne_of_lt hb.2, by have := hb.2; omega⟩, .inl hb⟩, by simp [Value.ownBlock]⟩)
  clear hx HX
  go_loopw [6, 14] (fun u6 u14 wr => ∃ (k : Nat) (xk : Qp) (P : Pv) (outs : List Qp), k ≤ n ∧ u14 = .int .i64 k ∧ Hid (Car x l k xk outs) ∧ Hid (Grows wr (w.heap.size + 2) (fun b => (b ≠ w.heap.size ∧ b ≠ w.heap.size + 1) ∧ Fresh F w b) u6 outs) ∧ Hid (Is wr (fun b => ((b ≠ w.heap.size ∧ b ≠ w.heap.size + 1) ∧ Fresh F w b) ∧ some b ≠ u6.ownBlock) P xk) ∧ Hid (Blk wr w.heap.size 38 (parr P)) ∧ Hid (Blk wr (w.heap.size + 1) 62 z15) ∧ Ext w wr) (fun u6 u14 wr => n - (intOf u14).toNat)
  case atStart => exact ⟨0, x, p, [], Nat.zero_le _, rfl, HC0, Lib.hid (Grows.nil _ _ _), HP0, hbx, hbr, hx0⟩
  case round =>
    clear HC0 HP0 hbx hbr hx0
    obtain ⟨k, xk, P, outs, hk, rfl, HCar, HGr, HP, HB, HRow, hx⟩ := hrel
    by_cases hlt : k < n
    · have hkl : k < l.length := by rw [HN.out]; exact hlt
      have e1 : l[k]? = some (l[k]'hkl) := List.getElem?_eq_getElem hkl
      obtain ⟨b, o, p2, rfl, hbl, hc, hi⟩ := (HQ.out.ext hx).get e1
      have fy := HF.out _ (List.mem_of_getElem? e1)
      generalize l[k]'hkl = y at e1 hi fy
      have E1 := Lib.hid e1
      have hown := HGr.out.own
      have HTB := Lib.hid (fun W (hW : Ext wr W) => through_box w.heap.size P p2 xk y W (HG.out.ext (hx.trans hW)) (Blk.ext hW HB.out) (F := fun b => (b ≠ w.heap.size + 1 ∧ Fresh F w b) ∧ some b ≠ u6.ownBlock) ((HP.out.ext hW).mono fun b hb => ⟨hb.1.1.1, ⟨hb.1.1.2, hb.1.2⟩, hb.2⟩) ((hi.ext hW).mono fun b hb => ⟨Nat.ne_of_lt hb.2, ⟨by have := hb.2; omega, .inl hb⟩, fun e => by have := (hown b e.symm).1; have := hb.2; omega⟩) HCar.out.2.1 fy)
      have HD : Hid (¬ (xk.merge y).2.2 = true → R = .error k) := Lib.hid (HR.out k xk y outs HCar.out e1)
      have HS : Hid ((xk.merge y).2.2 = true → Car x l (k + 1) (xk.merge y).2.1 (outs ++ [(xk.merge y).1])) := Lib.hid (HCar.out.step e1)
      have HOW := Lib.hid hown
      unfold Stepped at HTB
      generalize xk.merge y = M at HTB HD HS
      obtain ⟨c1, d1, m⟩ := M
      dsimp only at HTB HD HS
      obtain ⟨q0, q1, q2, q3, q4, q5, q6, q7, q8, q9, q10, q11⟩ := cells12 hc
      clear hc hi fy e1 hown hkl
      have hrow := HRow.out.lt
      go_wp2_with fail
      clear q0 q1 q2 q3 q4 q5 q6 q7 q8 q9 q10 q11
      refine (HTB.out _ (by exact (Ext.refl wr).alloc _)).mono ?_
      rintro e w1 ⟨P1, P2, rfl, i1, i2, hbg, hkept⟩
      have hx1 : Ext w w1 := hkept.out.ext w (hx.alloc _) (Nat.le_refl _)
      have hr1 : Blk w1 (w.heap.size + 1) 62 z15 := hkept.out.blk _ _ _ (Blk.alloc HRow.out _) (by omega)
      have gr1 := (HGr.out.ext ((Ext.refl wr).alloc _)).kept hkept.out (by omega) (fun b hb => hb.1.1)
      have hyv : Blk w1 wr.heap.size 38 (parr p2) := hkept.out.blk _ _ _ (Blk.new' rfl) (by have := hx.size_le; omega)
      have I1 : Hid (Is w1 (fun b => ((b ≠ w.heap.size ∧ b ≠ w.heap.size + 1) ∧ Fresh F w b) ∧ some b ≠ u6.ownBlock) P1 c1) := Lib.hid (i1.out.mono fun b hb => ⟨⟨⟨hb.1, hb.2.elim (fun h => h.1.1) fun h => by simp at h; omega⟩, hb.2.elim (fun h => h.1.2) fun h => .inr (by simp at h; omega)⟩, hb.2.elim (fun h => h.2) fun h e => by have := (HOW.out b e.symm).2; simp at h; omega⟩)
      have I2 : Hid (Is w1 (fun b => ((b ≠ w.heap.size ∧ b ≠ w.heap.size + 1) ∧ Fresh F w b) ∧ some b ≠ u6.ownBlock) P2 (if m = true then d1 else xk)) := Lib.hid (i2.out.mono fun b hb => ⟨⟨⟨hb.1, hb.2.elim (fun h => h.1.1) fun h => by simp at h; omega⟩, hb.2.elim (fun h => h.1.2) fun h => .inr (by simp at h; omega)⟩, hb.2.elim (fun h => h.2) fun h e => by have := (HOW.out b e.symm).2; simp at h; omega⟩)
      have HGr1 := Lib.hid gr1
      have HL := Lib.hid HCar.out.1
      have HB1 := Lib.hid hbg
      have HR1 := Lib.hid hr1
      have hgl := hbg.lt
      have hyl := hyv.lt
      clear i1 i2 gr1 HGr HB HRow HP hkept hx hyv hrow HTB HCar
      have hx := hx1
      clear hx1 hbg
      have hcr := hr1.cell
      have hfr := hr1.frozen
      have hlr := hr1.lt
      clear hr1
      cases m
      · go_wp2_with fail
        refine bodyPost_ret (v := .agg (rowCells (Qp.zero.pv none 0 none 0) none 0 0 k false)) ?_ rfl ?_
        · simp only [results, Tryz.results56]
          go_simp
          simp [rowCells, Qp.zero]
        · rw [HD.out (by simp)]
          exact ⟨rfl, (by (repeat (first | with_reducible exact hx | with_reducible exact Ext.refl _ | with_reducible refine Ext.alloc ?_ _ | with_reducible refine Ext.drewN ?_ _ | with_reducible refine Ext.drew1 ?_ | ((with_reducible refine Ext.setCell ?_ ?_ _); rotate_left; (focus (first | (dsimp only; omega) | (simp; done) | (simp; omega)))))))⟩
      · have II := Lib.hid I2.out
        go_wp2_with (at_builtin; refine wpList_grow _ rfl _ _ 22 rfl Tryz.underlying22 (by kernel_rfl) (w.heap.size + 2) u6 outs [c1] rfl (HGr1.out.ext (by repeat (first | with_reducible exact Ext.refl _ | with_reducible refine Ext.alloc ?_ _ | with_reducible refine Ext.drew1 ?_))) ⟨_, 0, none⟩ 1 rfl (Qs.one (Blk.new' (by simp)) (I1.out.in.ext (by repeat (first | with_reducible exact Ext.refl _ | with_reducible refine Ext.alloc ?_ _ | with_reducible refine Ext.drew1 ?_)))) (fun b hb => ⟨Nat.lt_of_lt_of_le hb.2 (Ext.size_le (by repeat (first | with_reducible exact Ext.refl _ | with_reducible refine Ext.alloc ?_ _ | with_reducible refine Ext.drew1 ?_))), hb.1.1, hb.1.2⟩) (by simp) (by have := HL.out; simp; omega) (Nat.le_trans (show w.heap.size + 2 ≤ w1.heap.size from hlr) (Ext.size_le (by repeat (first | with_reducible exact Ext.refl _ | with_reducible refine Ext.alloc ?_ _ | with_reducible refine Ext.drew1 ?_)))) ?_; intro g2 cap w3 hgr hgrow hlie)
        have iP : Is w3 (fun b => ((b ≠ w.heap.size ∧ b ≠ w.heap.size + 1) ∧ Fresh F w b) ∧ some b ≠ Value.ownBlock (.slice (some ⟨g2, 0, none⟩) (outs.length + [c1].length) cap)) P2 d1 :=
          (Is.grownBy (Is.ext (show Is w1 _ P2 d1 from I2.out.in) (by repeat (first | with_reducible exact Ext.refl _ | with_reducible refine Ext.alloc ?_ _ | with_reducible refine Ext.drew1 ?_))) hgrow (fun b hb => hb.1.2)).mono fun b hb => ⟨hb.1.1, fun e => by
            have e' : b = g2 := by simpa [Value.ownBlock] using e
            rcases hlie with h | h
            · exact hb.1.2 (by rw [h, e'])
            · have h2 := hb.2
              simp at h
              omega⟩
        have nG : ∀ j, j < w.heap.size + 2 → some j ≠ u6.ownBlock := fun j hj e => by have := (HOW.out j e.symm).1; omega
        have bg3 : Blk w3 w.heap.size 38 (parr P2) := (hgrow.block _ (Nat.lt_of_lt_of_le hgl (Ext.size_le (by repeat (first | with_reducible exact Ext.refl _ | with_reducible refine Ext.alloc ?_ _ | with_reducible refine Ext.drew1 ?_)))) (nG _ (by omega))).trans (Blk.ext (by repeat (first | with_reducible exact Ext.refl _ | with_reducible refine Ext.alloc ?_ _ | with_reducible refine Ext.drew1 ?_)) HB1.out)
        have br3 : Blk w3 (w.heap.size + 1) 62 z15 := (hgrow.block _ (Nat.lt_of_lt_of_le hlr (Ext.size_le (by repeat (first | with_reducible exact Ext.refl _ | with_reducible refine Ext.alloc ?_ _ | with_reducible refine Ext.drew1 ?_)))) (nG _ (by omega))).trans (Blk.ext (by repeat (first | with_reducible exact Ext.refl _ | with_reducible refine Ext.alloc ?_ _ | with_reducible refine Ext.drew1 ?_)) HR1.out)
        have hx3 : Ext w w3 := Ext.grownBy (hx.trans (by repeat (first | with_reducible exact Ext.refl _ | with_reducible refine Ext.alloc ?_ _ | with_reducible refine Ext.drew1 ?_))) hgrow (fun j hj => by have := (HOW.out j hj).1; omega)
        go_roundw
        case rel =>
          first
            | exact ⟨k + 1, d1, P2, outs ++ [c1], hlt, rfl, Lib.hid (by first | exact HS.out rfl | exact HS.out trivial), Lib.hid hgr, Lib.hid iP, Lib.hid bg3, Lib.hid br3, hx3⟩
            | ((repeat apply Exists.intro); exact ⟨⟨k + 1, d1, P2, outs ++ [c1], hlt, rfl, Lib.hid (by first | exact HS.out rfl | exact HS.out trivial), Lib.hid hgr, Lib.hid iP, Lib.hid bg3, Lib.hid br3, hx3⟩, rfl⟩)
        case measure => simp [intOf]; omega
    · have HZ := Lib.hid (fun h => HE.out k xk outs HCar.out h)
      have hOwn := HGr.out.own
      obtain ⟨B, cB, rfl, hqs, hle, hBn⟩ := HGr.out.qs
      have HQS := Lib.hid hqs
      have hkn : k = n := by omega
      have HL := Lib.hid HCar.out.1
      have hcg := HB.out.cell
      have hlg := HB.out.lt
      have hcr := HRow.out.cell
      have hfr := HRow.out.frozen
      have hlr := HRow.out.lt
      clear hqs
      have KQ : ∀ W', Kept (w.heap.size + 1) wr W' → Qs W' (Fresh F w) B outs := fun W' hk => by
        obtain ⟨B', c', e', hq', _⟩ := (HGr.out.kept hk (by omega) (fun b hb => hb.1.2)).qs
        cases e'
        exact hq'.mono fun _ hb => hb.1.2
      have HKQ := Lib.hid KQ
      clear KQ HGr
      have HBn : Hid ((B = none → cB = 0) ∧ ∀ ad, B = some ad → w.heap.size ≤ ad.block ∧ ad.block < wr.heap.size) := Lib.hid ⟨hBn, fun ad e => by have := hOwn ad.block (by rw [e]; rfl); omega⟩
      clear hBn hle hOwn
      go_wp2_with fail
      refine bodyPost_ret (v := .agg (rowCells P B outs.length cB 0 true)) ?_ rfl ?_
      · simp only [results, Tryz.results56]
        go_simp
        simp [rowCells]
      · rw [HZ.out (by rw [HN.out]; omega)]
        refine ⟨⟨P, B, cB, rfl, Lib.hid ?_, Lib.hid ?_, Lib.hid ⟨HBn.out.1, fun ad e => ⟨(HBn.out.2 ad e).1, Nat.lt_of_lt_of_le (HBn.out.2 ad e).2 ?sz⟩⟩⟩, ?_⟩
        · refine (Kept.isG (g := w.heap.size + 1) (w := wr) ?_ P xk _ HP.out.in (fun b hb => ⟨hb.1.1.1.2, hb.2⟩)).mono fun _ hb => hb.1.1.2
          (repeat (first | with_reducible exact Kept.refl _ _ | with_reducible refine Kept.alloc ?_ _ | with_reducible refine Kept.drew ?_ | with_reducible refine Kept.cell (b := w.heap.size + 1) ?_ (.inl rfl) _ _))
        · refine HKQ.out _ ?_
          (repeat (first | with_reducible exact Kept.refl _ _ | with_reducible refine Kept.alloc ?_ _ | with_reducible refine Kept.drew ?_ | with_reducible refine Kept.cell (b := w.heap.size + 1) ?_ (.inl rfl) _ _))
        case sz =>
          refine Kept.size (g := w.heap.size + 1) ?_
          (repeat (first | with_reducible exact Kept.refl _ _ | with_reducible refine Kept.alloc ?_ _ | with_reducible refine Kept.drew ?_ | with_reducible refine Kept.cell (b := w.heap.size + 1) ?_ (.inl rfl) _ _))
        · refine Kept.ext (g := w.heap.size + 1) (w := wr) ?_ w hx (by omega)
          (repeat (first | with_reducible exact Kept.refl _ _ | with_reducible refine Kept.alloc ?_ _ | with_reducible refine Kept.drew ?_ | with_reducible refine Kept.cell (b := w.heap.size + 1) ?_ (.inl rfl) _ _))
end Go.Proofs.YtgfiddlmeopebaaGreatDoor
