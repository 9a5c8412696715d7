/- Walks: a patch passed through a sequence. -/
import Derived.Test.YtgfiddlmeopebaaGreatDoorMe
import Derived.Test.YtgfiddlmeopebaaGreatDoorDl
set_option linter.unusedSimpArgs false
set_option linter.unusedVariables false
namespace Go.Proofs.YtgfiddlmeopebaaGreatDoor
open Go Go.RowKit
attribute [local go_sem ↓] Go.wp_at_zero Go.wp_at_succ

/-- What Pass hands back. -/
def Passed (R : Option (List Qp)) (n : Nat) (w : World) (e : Ending) (w' : World) : Prop :=
  ((R = none ∧ e = .returned (.tuple #[.slice none 0 0, (Qp.zero.pv none 0 none 0).v, .bool false])) ∨ ∃ m g c P y, R = some m ∧ m[n]? = some y ∧ e = .returned (.tuple #[.slice (some ⟨g, 0, none⟩) n c, P.v, .bool true]) ∧ Hid (Qs w' (fun _ => True) (some ⟨g, 0, none⟩) (m.take n)) ∧ Hid (Is w' (fun _ => True) P y)) ∧ Ext w w'
set_option maxHeartbeats 16000000 in
set_option maxRecDepth 100000 in
/-- sequence.Pass. -/
theorem pass_any (p : Pv) (x : Qp) (A : Option Addr) (n c : Nat) (l : List Qp) (w : World) (hg : Glob w) {F G : Nat → Prop} (hx : Is w F p x) (h : Qs w G A l) (hn : l.length = n) (hb : n ≤ 1000000000) (fx : x.Fits) (hf : ∀ q ∈ l, q.Fits) :
    Calls Tryz.prog 24 #[p.v, .slice A n c] w (Passed (Sq.move (x :: l) 0 n) n w) := by
  have HG := Lib.hid hg
  have HX := Lib.hid (hx.in.mono (G := fun b => b < w.heap.size) fun _ h => h.2)
  have HL := Lib.hid (h.in.mono (G := fun b => b < w.heap.size) fun _ h => h.2)
  have HN := Lib.hid hn
  have HN1 : Hid ((x :: l).length = 1 + n) := Lib.hid (by simp [hn]; omega)
  have HF1 : Hid (∀ q ∈ x :: l, q.Fits) := Lib.hid fun q hq => (List.mem_cons.1 hq).elim (fun e => e ▸ fx) (hf q)
  have HMV := Lib.hid (fun W S cs (hW : Ext w W) (hz : w.heap.size + 1 ≤ W.heap.size) (hq : Qs W (fun b => b < w.heap.size) S (x :: l)) => move_z (w.heap.size + 1) S (1 + n) cs 0 n (x :: l) W hz (hg.ext hW) hq (fun b hb _ => by omega) (by simp [hn]; omega) (by omega) (by omega) (by omega) HF1.out)
  have HML : Hid (∀ m, Sq.move (x :: l) 0 n = some m → m.length = 1 + n) := Lib.hid fun m hm => (Sq.move_length hm).trans (by simp [hn]; omega)
  generalize Sq.move (x :: l) 0 n = R at HMV HML ⊢
  clear hg hx h hn fx hf
  go_enter Tryz.func24, Tryz.ntmps24
  have hx := Ext.refl w
  go_wp2_with fail
  refine (pconcat_any (w.heap.size + 1 + 1 + 1) _ (some ⟨w.heap.size + 1 + 1, 0, none⟩) A 1 1 n c [x] l _ (Blk.new' (by simp)) (F := fun b => b < w.heap.size) (Qs.one (Blk.alloc (Blk.new' (by simp)) _) (HX.out.ext (by (repeat (first | with_reducible exact hx | with_reducible exact Ext.refl _ | with_reducible refine Ext.alloc ?_ _ | with_reducible refine Ext.drewN ?_ _ | with_reducible refine Ext.drew1 ?_ | ((with_reducible refine Ext.setCell ?_ ?_ _); rotate_left; (focus (first | (dsimp only; omega) | (simp; done) | (simp; omega))))))))) (HL.out.ext (by (repeat (first | with_reducible exact hx | with_reducible exact Ext.refl _ | with_reducible refine Ext.alloc ?_ _ | with_reducible refine Ext.drewN ?_ _ | with_reducible refine Ext.drew1 ?_ | ((with_reducible refine Ext.setCell ?_ ?_ _); rotate_left; (focus (first | (dsimp only; omega) | (simp; done) | (simp; omega)))))))) rfl HN.out (by omega) (by omega)).mono ?_
  rintro e w1 ⟨S, cs, rfl, HS, _, hx0⟩
  have hs1 : w.heap.size + 1 ≤ w1.heap.size := by have := hx0.size_le; simp at this; omega
  have HBZ : Hid (Blk w1 (w.heap.size + 1) 38 zcells) := Lib.hid (Blk.ext hx0 (Blk.alloc (Blk.alloc (Blk.new' (by simp)) _) _))
  have HBZS := Lib.hid HBZ.out.lt
  have hx1 := Ext.trans (a := w) (by (repeat (first | with_reducible exact hx | with_reducible exact Ext.refl _ | with_reducible refine Ext.alloc ?_ _ | with_reducible refine Ext.drewN ?_ _ | with_reducible refine Ext.drew1 ?_ | ((with_reducible refine Ext.setCell ?_ ?_ _); rotate_left; (focus (first | (dsimp only; omega) | (simp; done) | (simp; omega))))))) hx0
  clear hx hx0
  have hx := hx1
  clear hx1
  have HMC := Lib.hid (HMV.out w1 S cs hx hs1 (HS.out.mono fun b hb => hb.1))
  clear HS HMV HX HL HG
  go_wp2_with fail
  refine HMC.out.mono ?_
  rintro e w2 ⟨hres, hx0⟩
  have hx2 := hx.trans hx0
  have HBZ := Lib.hid (HBZ.out.ext hx0)
  have HSZ : Hid (w.heap.size + 1 < w1.heap.size) := Lib.hid (by have := HBZS.out; omega)
  clear HMC hx hx0
  have hx := hx2
  clear hx2
  rcases hres with ⟨hm, rfl⟩ | ⟨m, g, hm, rfl, hgw, HO⟩
  · have HR := Lib.hid hm
    have hcz := HBZ.out.cell
    have hfz := HBZ.out.frozen
    have hlz := HBZ.out.lt
    clear hm
    go_wp2_with fail
    refine bodyPost_ret (v := .tuple #[.slice none 0 0, (Qp.zero.pv none 0 none 0).v, .bool false]) (by simp only [results, Tryz.results24]; go_simp; simp [Qp.zero]) rfl ?_
    exact ⟨.inl ⟨HR.out, rfl⟩, by (repeat (first | with_reducible exact hx | with_reducible exact Ext.refl _ | with_reducible refine Ext.alloc ?_ _ | with_reducible refine Ext.drewN ?_ _ | with_reducible refine Ext.drew1 ?_ | ((with_reducible refine Ext.setCell ?_ ?_ _); rotate_left; (focus (first | (dsimp only; omega) | (simp; done) | (simp; omega))))))⟩
  · have HR := Lib.hid hm
    have hml := HML.out m hm
    have hne : w.heap.size + 1 ≠ g := by have := HSZ.out; omega
    obtain ⟨ps, h1, h2, h3⟩ := HO.out
    have hlp : n < ps.length := by omega
    have hlm : n < m.length := by omega
    have ep : ps[n]? = some ps[n] := List.getElem?_eq_getElem hlp
    have em : m[n]? = some m[n] := List.getElem?_eq_getElem hlm
    have hi := h3 n _ _ ep em
    generalize ps[n] = P at ep hi
    generalize m[n] = y at em hi
    have H3 := Lib.hid h3
    have HI := Lib.hid hi
    have HP := Lib.hid ep
    have HE := Lib.hid em
    have H1 := Lib.hid h1
    have hn1 : n < 1 + n := by omega
    have hn2 : n ≤ 1 + n := by omega
    clear hm hml hgw HO h3 hi ep em h1 hlp hlm
    go_wp2_with fail
    refine wp_region_noPanic (wp_region_held_drew (S := fun w' => Blk w' g 38 (flat ps).toArray) (by kernel_rfl) h2.drew (fun hv => ?_))
    have hd : Ext w2 w2.drew := (Ext.refl w2).drew1
    have hz0 := HBZ.out.drew
    generalize w2.drew = v0 at hv hd hz0 ⊢
    refine take_free (i := 0) (v := .slice (some ⟨g, 0, none⟩) (1 + n) (1 + n)) rfl rfl (by kernel_rfl) (by kernel_rfl) (by kernel_rfl) (by kernel_rfl) (fun _ => rfl) hv ?_
    try simp only [Act.put, List.setIfInBounds_toArray, List.set_cons_zero, List.set_cons_succ]
    refine take_free (i := 1) (v := .slice A n c) rfl rfl (by kernel_rfl) (by kernel_rfl) (by kernel_rfl) (by kernel_rfl) (fun _ => rfl) hv ?_
    try simp only [Act.put, List.setIfInBounds_toArray, List.set_cons_zero, List.set_cons_succ]
    refine take_any (i := 2) (v := .int .i64 n) rfl rfl (by kernel_rfl) (by kernel_rfl) (by kernel_rfl) (.inl ⟨(by kernel_rfl), fun W' hW' => ?op2⟩) hv ?_
    case op2 =>
      go_simp
    try simp only [Act.put, List.setIfInBounds_toArray, List.set_cons_zero, List.set_cons_succ]
    refine take_any (i := 3) (v := .slice (some ⟨g, 0, none⟩) n (1 + n)) rfl rfl (by kernel_rfl) (by kernel_rfl) (by kernel_rfl) (.inl ⟨(by kernel_rfl), fun W' hW' => ?op3⟩) hv ?_
    case op3 =>
      have z1 : ¬ ((1 : Int) + (n : Int) < (n : Int)) := by omega
      have z2 : ¬ (1 + n = 0) := by omega
      go_simp
    try simp only [Act.put, List.setIfInBounds_toArray, List.set_cons_zero, List.set_cons_succ]
    refine take_free (i := 4) (v := .slice (some ⟨g, 0, none⟩) (1 + n) (1 + n)) rfl rfl (by kernel_rfl) (by kernel_rfl) (by kernel_rfl) (by kernel_rfl) (fun _ => rfl) hv ?_
    try simp only [Act.put, List.setIfInBounds_toArray, List.set_cons_zero, List.set_cons_succ]
    refine take_free (i := 5) (v := .slice A n c) rfl rfl (by kernel_rfl) (by kernel_rfl) (by kernel_rfl) (by kernel_rfl) (fun _ => rfl) hv ?_
    try simp only [Act.put, List.setIfInBounds_toArray, List.set_cons_zero, List.set_cons_succ]
    refine take_any (i := 6) (v := .int .i64 n) rfl rfl (by kernel_rfl) (by kernel_rfl) (by kernel_rfl) (.inl ⟨(by kernel_rfl), fun W' hW' => ?op6⟩) hv ?_
    case op6 =>
      go_simp
    try simp only [Act.put, List.setIfInBounds_toArray, List.set_cons_zero, List.set_cons_succ]
    refine take_index (i := 7) g 0 (1 + n) (1 + n) n rfl rfl rfl (by kernel_rfl) (by kernel_rfl) (by kernel_rfl) (by kernel_rfl) rfl rfl hn1 Tryz.underlying22 (by kernel_rfl) hv ?_
    try simp only [Act.put, List.setIfInBounds_toArray, List.set_cons_zero, List.set_cons_succ]
    refine take_load (i := 8) (parr P).toList rfl rfl rfl rfl (by kernel_rfl) (by kernel_rfl) (by kernel_rfl) rfl Tryz.underlying38 rfl (by kernel_rfl) (fun _ h => h.range _ _ (fun j hj => by rw [Nat.zero_add, List.getElem?_toArray]; exact flat_get HP.out hj)) hv ?_
    try simp only [Act.put, List.setIfInBounds_toArray, List.set_cons_zero, List.set_cons_succ]
    refine take_free (i := 9) (v := .slice (some ⟨g, 0, none⟩) n (1 + n)) rfl rfl (by kernel_rfl) (by kernel_rfl) (by kernel_rfl) (by kernel_rfl) (fun _ => rfl) hv ?_
    try simp only [Act.put, List.setIfInBounds_toArray, List.set_cons_zero, List.set_cons_succ]
    have t1 : v0.there (w.heap.size + 1) 0 12 := hz0.there
    refine wpAnyH_one (i := 10) (by kernel_rfl) rfl (by kernel_rfl) ?_
    refine wp_store_mid _ _ _ rfl (w.heap.size + 1) 0 (parr P) rfl rfl t1 (by kernel_rfl) (by first | rfl | simp [Value.oneCell']) ?_
    have hv2 : Blk (v0.setCells (w.heap.size + 1) 0 (parr P).toList) g 38 (flat ps).toArray := Blk.farAll (w := v0) (Ne.symm hne) _ _ _ hv
    refine ⟨hv2, ?_⟩
    try simp only [Act.put, List.setIfInBounds_toArray, List.set_cons_zero, List.set_cons_succ]
    refine take_free (i := 11) (v := .bool true) rfl rfl (by kernel_rfl) (by kernel_rfl) (by kernel_rfl) (by kernel_rfl) (fun _ => rfl) hv2 ?_
    try simp only [Act.put, List.setIfInBounds_toArray, List.set_cons_zero, List.set_cons_succ]
    refine wpAnyH_done (by kernel_rfl) (NoPanic.normal ?_) _
    have b6 : Blk (v0.setCells (w.heap.size + 1) 0 (parr P).toList) (w.heap.size + 1) 38 (parr P) := hz0.whole (vs := parr P) rfl
    have hk := Kept.set (w.heap.size + 1) v0 0 (parr P).toList
    have hx6 : Ext w (v0.setCells (w.heap.size + 1) 0 (parr P).toList) := Ext.setAll (by omega) _ _ _ (hx.trans hd)
    have q6 : Qs (v0.setCells (w.heap.size + 1) 0 (parr P).toList) (fun _ => True) (some ⟨g, 0, none⟩) m := Qs.of_blk (rest := []) (by rw [List.append_nil]; exact hv2) H1.out (fun i p' q' hp hq => (hk.isG p' q' _ ((H3.out i p' q' hp hq).ext hd).in (fun b hb => ⟨hb.1.2, hb.2⟩)).mono fun _ _ => trivial)
    have i6 : Is (v0.setCells (w.heap.size + 1) 0 (parr P).toList) (fun _ => True) P y := (hk.isG P y _ (HI.out.ext hd).in (fun b hb => ⟨hb.1.2, hb.2⟩)).mono fun _ _ => trivial
    have HZ := Lib.hid (⟨q6.take n, i6, hx6⟩ : _ ∧ _ ∧ _)
    have c6 := b6.cell
    have l6 := b6.lt
    generalize v0.setCells (w.heap.size + 1) 0 (parr P).toList = w6 at HZ c6 l6 ⊢
    clear hv2 hk hx6 q6 i6 b6 t1 hz0 hd hv hx HBZ H3 HI HP H1 h2
    go_wp2_with fail
    refine bodyPost_ret (v := .tuple #[.slice (some ⟨g, 0, none⟩) n (1 + n : Nat), P.v, .bool true]) (by simp only [results, Tryz.results24]; go_simp) rfl ?_
    exact ⟨.inr ⟨m, g, (1 + n : Nat), P, y, HR.out, HE.out, rfl, Lib.hid HZ.out.1, Lib.hid HZ.out.2.1⟩, HZ.out.2.2⟩
end Go.Proofs.YtgfiddlmeopebaaGreatDoor
