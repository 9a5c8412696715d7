/- Walks: the chapter's example of merging sequences. -/
import Derived.Test.YtgfiddlmeopebaaGreatDoorMs
import Derived.Test.YtgfiddlmeopebaaGreatDoorSl
import Derived.Test.YtgfiddlmeopebaaGreatDoorCl
set_option linter.unusedSimpArgs false
set_option linter.unusedVariables false
namespace Go.Proofs.YtgfiddlmeopebaaGreatDoor
open Go Go.RowKit
attribute [local go_sem ↓] Go.wp_at_zero Go.wp_at_succ

def axAdd (a : ByteArray) : Qp := { Qp.zero with kind := 1, path := a, ty := 1 }
def axMove : Qp := { Qp.zero with kind := 5, path := ⟨#[100]⟩, to_ := ⟨#[101]⟩ }
theorem ax_one : Sq.merge [axAdd ⟨#[120]⟩, axAdd ⟨#[121]⟩] [axMove, axAdd ⟨#[121]⟩] = .error (1, 1) := by kernel_rfl
theorem ax_two : Sq.merge [axAdd ⟨#[120]⟩, axAdd ⟨#[121]⟩] [axMove] = .ok ([axMove], [axAdd ⟨#[120]⟩, axAdd ⟨#[121]⟩]) := by kernel_rfl
theorem ax_fits : (axAdd ⟨#[120]⟩).Fits ∧ (axAdd ⟨#[121]⟩).Fits ∧ axMove.Fits :=
  ⟨⟨Nat.zero_le _, Nat.zero_le _, by decide, by decide⟩, ⟨Nat.zero_le _, Nat.zero_le _, by decide, by decide⟩, ⟨Nat.zero_le _, Nat.zero_le _, by decide, by decide⟩⟩
/-- A block that is a list. -/
theorem Qs.of_flat {w : World} {g : Nat} {G : Nat → Prop} {ps : List Pv} {l : List Qp} (h1 : ps.length = l.length) (hb : Blk w g 38 (flat ps).toArray) (h3 : ∀ (i : Nat) (p : Pv) (q : Qp), ps[i]? = some p → l[i]? = some q → Is w G p q) : Qs w G (some ⟨g, 0, none⟩) l := by
  refine ⟨ps, h1, fun h0 => ⟨g, 0, rfl, hb.lt, fun i p hp j v hv => ?_⟩, h3⟩
  have hj : j < 12 := (List.getElem?_eq_some_iff.1 hv).1
  rw [hb.cell, Nat.zero_add, List.getElem?_toArray, flat_get hp hj, hv]
/-- A literal of patches without lists. -/
theorem Qs.plain {w : World} {g : Nat} (G : Nat → Prop) {l : List Qp} (hb : Blk w g 38 (flat (l.map fun q => q.pv none 0 none 0)).toArray) (h : ∀ q ∈ l, q.old = [] ∧ q.new = []) : Qs w G (some ⟨g, 0, none⟩) l :=
  Qs.of_flat (by simp) hb fun i p q hp hq => by
    rw [List.getElem?_map, hq] at hp
    obtain rfl := Option.some.inj hp
    have := h q (List.mem_of_getElem? hq)
    exact Is.none _ _ _ this.1 this.2

set_option maxHeartbeats 4000000 in
set_option maxRecDepth 100000 in
theorem axAdd_any (a : ByteArray) (w : World) :
    Calls Tryz.prog 34 #[.string a] w (Ret ((axAdd a).pv none 0 none 0).v w) := by
  go_enter Tryz.func34, Tryz.ntmps34
  have hx := Ext.refl w
  go_wp2_with fail
  refine bodyPost_ret (v := ((axAdd a).pv none 0 none 0).v) ?_ rfl ?_
  · simp only [results, Tryz.results34]
    go_simp
    simp [axAdd, Qp.zero]
  · exact ⟨rfl, (by (repeat (first | with_reducible exact hx | with_reducible exact Ext.refl _ | with_reducible refine Ext.alloc ?_ _ | with_reducible refine Ext.drewN ?_ _ | with_reducible refine Ext.drew1 ?_ | ((with_reducible refine Ext.setCell ?_ ?_ _); rotate_left; (focus (first | (dsimp only; omega) | (simp; done) | (simp; omega)))))))⟩
/-- The first merge of the example. -/
theorem ax_merge1 (gA gB : Nat) (w : World) (hg : Glob w) (hA : Blk w gA 38 (flat [(axAdd ⟨#[120]⟩).pv none 0 none 0, (axAdd ⟨#[121]⟩).pv none 0 none 0]).toArray) (hB : Blk w gB 38 (flat [axMove.pv none 0 none 0, (axAdd ⟨#[121]⟩).pv none 0 none 0]).toArray) :
    Calls Tryz.prog 13 #[.slice (some ⟨gA, 0, none⟩) 2 2, .slice (some ⟨gB, 0, none⟩) 2 2] w (fun e w' => e = .returned (.tuple #[.slice none 0 0, .slice none 0 0, .agg #[.int .i64 1, .int .i64 1], .bool false]) ∧ Ext w w') := by
  obtain ⟨f1, f2, f3⟩ := ax_fits
  refine (seqmerge_any _ _ 2 2 2 2 [axAdd ⟨#[120]⟩, axAdd ⟨#[121]⟩] [axMove, axAdd ⟨#[121]⟩] w hg (F := fun _ => True) (Qs.plain _ hA (by simp [axAdd, Qp.zero])) (Qs.plain _ hB (by simp [axAdd, axMove, Qp.zero])) rfl rfl (fun h => nomatch h) (by omega) (by omega) (by simp [f1, f2]) (by simp [f2, f3])).mono ?_
  rintro e w' ⟨h, hx⟩
  rw [ax_one] at h
  exact ⟨h, hx⟩
/-- The second one. -/
theorem ax_merge2 (gA gB : Nat) (w : World) (hg : Glob w) (hA : Blk w gA 38 (flat [(axAdd ⟨#[120]⟩).pv none 0 none 0, (axAdd ⟨#[121]⟩).pv none 0 none 0]).toArray) (hB : Blk w gB 38 (flat [axMove.pv none 0 none 0]).toArray) :
    Calls Tryz.prog 13 #[.slice (some ⟨gA, 0, none⟩) 2 2, .slice (some ⟨gB, 0, none⟩) 1 1] w (fun e w' => ∃ A1 c1 A2 c2, e = .returned (.tuple #[.slice A1 1 c1, .slice A2 2 c2, .agg #[.int .i64 0, .int .i64 0], .bool true]) ∧ Hid (Qs w' (fun _ => True) A1 [axMove] ∧ Qs w' (fun _ => True) A2 [axAdd ⟨#[120]⟩, axAdd ⟨#[121]⟩]) ∧ Ext w w') := by
  obtain ⟨f1, f2, f3⟩ := ax_fits
  refine (seqmerge_any _ _ 2 2 1 1 [axAdd ⟨#[120]⟩, axAdd ⟨#[121]⟩] [axMove] w hg (F := fun _ => True) (Qs.plain _ hA (by simp [axAdd, Qp.zero])) (Qs.plain _ hB (by simp [axMove, Qp.zero])) rfl rfl (fun h => nomatch h) (by omega) (by omega) (by simp [f1, f2]) (by simp [f3])).mono ?_
  rintro e w' ⟨h, hx⟩
  rw [ax_two] at h
  obtain ⟨A1, c1, A2, c2, rfl, hq⟩ := h
  exact ⟨A1, c1, A2, c2, rfl, Lib.hid ⟨hq.out.1.mono fun _ _ => trivial, hq.out.2.1.mono fun _ _ => trivial⟩, hx⟩

set_option maxHeartbeats 16000000 in
set_option maxRecDepth 100000 in
theorem awake15_any (w : World) (hg : Glob w) : Calls Tryz.prog 12 #[] w (Ret (.bool true) w) := by
  have HG := Lib.hid hg
  clear hg
  go_enter Tryz.func12, Tryz.ntmps12
  have hx := Ext.refl w
  go_wp2_with fail
  refine (axAdd_any _ _).mono ?_
  rintro e w1 ⟨rfl, hx0⟩
  have hb : Blk w1 w.heap.size 38 (parr (axMove.pv none 0 none 0)) := Blk.ext hx0 (Blk.new' rfl)
  have hx1 := Ext.trans (a := w) (by (repeat (first | with_reducible exact hx | with_reducible exact Ext.refl _ | with_reducible refine Ext.alloc ?_ _ | with_reducible refine Ext.drewN ?_ _ | with_reducible refine Ext.drew1 ?_ | ((with_reducible refine Ext.setCell ?_ ?_ _); rotate_left; (focus (first | (dsimp only; omega) | (simp; done) | (simp; omega))))))) hx0
  clear hx hx0
  have hx := hx1
  clear hx1
  go_wp2_with fail
  refine (axAdd_any _ _).mono ?_
  rintro e w2 ⟨rfl, hx0⟩
  replace hb := Blk.ext hx0 hb
  have hx1 := Ext.trans (a := w) (by (repeat (first | with_reducible exact hx | with_reducible exact Ext.refl _ | with_reducible refine Ext.alloc ?_ _ | with_reducible refine Ext.drewN ?_ _ | with_reducible refine Ext.drew1 ?_ | ((with_reducible refine Ext.setCell ?_ ?_ _); rotate_left; (focus (first | (dsimp only; omega) | (simp; done) | (simp; omega))))))) hx0
  clear hx hx0
  have hx := hx1
  clear hx1
  have hc := hb.cell
  have hl := hb.lt
  go_upto_region 4 with fail
  generalize hw3 : World.alloc w2 _ = w3
  have hA : Blk w3 w2.heap.size 38 (flat [(axAdd ⟨#[120]⟩).pv none 0 none 0, (axAdd ⟨#[121]⟩).pv none 0 none 0]).toArray := by rw [← hw3]; exact Blk.new' rfl
  have hx3 : Ext w2 w3 := by rw [← hw3]; exact (Ext.refl w2).alloc _
  replace hb := hb.ext hx3
  have hx1 := hx.trans hx3
  clear hw3 hx hx3 hc hl
  have hx := hx1
  clear hx1
  generalize w2.heap.size = gA at hA ⊢
  have HA := Lib.hid hA
  have HB := Lib.hid hb
  have HX := Lib.hid hx
  have HM1 := Lib.hid (fun W gB (hW : Ext w3 W) hB => ax_merge1 gA gB W (HG.out.ext (hx.trans hW)) (hA.ext hW) hB)
  go_cut [6, 7] (fun u6 u7 wx => ∃ g6 : Nat, u6 = .pointer (some ⟨g6, 0, none⟩) ∧ u7 = .bool false ∧ Blk wx g6 25 #[.int .i64 1, .int .i64 1] ∧ Ext w3 wx)
  case first =>
    refine wp_region_noPanic (wp_region_held_drew (S := fun w' => Ext w3 w') (by kernel_rfl) (Ext.refl w3).drew1 (fun hv => ?_))
    refine take_free (i := 0) (v := .slice (some ⟨gA, 0, none⟩) 2 2) rfl rfl (by kernel_rfl) (by kernel_rfl) (by kernel_rfl) (by kernel_rfl) (fun _ => rfl) hv ?_
    try simp only [Act.put, List.setIfInBounds_toArray, List.set_cons_zero, List.set_cons_succ]
    refine take_load (i := 1) (parr (axMove.pv none 0 none 0)).toList rfl rfl rfl rfl (by kernel_rfl) (by kernel_rfl) (by kernel_rfl) rfl Tryz.underlying38 rfl (by kernel_rfl) (fun _ h => (HB.out.ext h).range 0 _ (fun j _ => by rw [Nat.zero_add, Array.getElem?_toList])) hv ?_
    try simp only [Act.put, List.setIfInBounds_toArray, List.set_cons_zero, List.set_cons_succ]
    refine take_free (i := 2) (v := .func (.func 34) #[] #[]) rfl rfl (by kernel_rfl) (by kernel_rfl) (by kernel_rfl) (by kernel_rfl) (fun _ => rfl) hv ?_
    try simp only [Act.put, List.setIfInBounds_toArray, List.set_cons_zero, List.set_cons_succ]
    generalize w3.drew = v0 at hv ⊢
    refine wpAnyH_ready (rs := [3, 11]) (by kernel_rfl) (by simp) ?_
    refine (AllReadyH.cons rfl (fun K hK => ?_) (AllReadyH.cons rfl (fun K hK => ?_) AllReadyH.nil))
    · go_simp
      refine (axAdd_any _ _).mono ?_
      rintro e v1 ⟨rfl, hx0⟩
      have hv' := hv.trans hx0
      clear hv hx0
      have hv := hv'
      clear hv'
      refine hK.out _ _ hv (fun _ => ?_)
      clear hK
      try simp only [Act.put, List.setIfInBounds_toArray, List.set_cons_zero, List.set_cons_succ]
      refine wpAnyH_ready (rs := [4, 11]) (by kernel_rfl) (by simp) ?_
      refine (AllReadyH.cons rfl (fun K hK => ?_) (AllReadyH.cons rfl (fun K hK => ?_) AllReadyH.nil))
      · go_simp
        refine hK.out _ _ (hv.trans ((Ext.refl v1).alloc _)) (fun _ => ?_)
        clear hK
        try simp only [Act.put, List.setIfInBounds_toArray, List.set_cons_zero, List.set_cons_succ]
        generalize hq : World.alloc v1 _ = v2
        have hx0 : Ext v1 v2 := by rw [← hq]; exact (Ext.refl v1).alloc _
        have hbB : Blk v2 v1.heap.size 38 (flat [(axMove.pv none 0 none 0), ((axAdd ⟨#[121]⟩).pv none 0 none 0)]).toArray := by rw [← hq]; exact Blk.new' rfl
        have hv' := hv.trans hx0
        clear hv hq hx0
        have hv := hv'
        clear hv'
        refine wpAnyH_ready (rs := [5, 11]) (by kernel_rfl) (by simp) ?_
        refine (AllReadyH.cons rfl (fun K hK => ?_) (AllReadyH.cons rfl (fun K hK => ?_) AllReadyH.nil))
        · go_simp
          refine (HM1.out _ _ hv hbB).mono ?_
          rintro e v3 ⟨rfl, hx0⟩
          have hv' := hv.trans hx0
          replace hbB := hbB.ext hx0
          clear hv hx0
          have hv := hv'
          clear hv'
          refine hK.out _ _ hv (fun _ => ?_)
          clear hK
          try simp only [Act.put, List.setIfInBounds_toArray, List.set_cons_zero, List.set_cons_succ]
          refine take_free (i := 6) (v := .tuple #[.slice none 0 0, .slice none 0 0, .agg #[.int .i64 1, .int .i64 1], .bool false]) rfl rfl (by kernel_rfl) (by kernel_rfl) (by kernel_rfl) (by kernel_rfl) (fun _ => rfl) hv ?_
          try simp only [Act.put, List.setIfInBounds_toArray, List.set_cons_zero, List.set_cons_succ]
          refine take_free (i := 7) (v := .slice none 0 0) rfl rfl (by kernel_rfl) (by kernel_rfl) (by kernel_rfl) (by kernel_rfl) (fun _ => rfl) hv ?_
          try simp only [Act.put, List.setIfInBounds_toArray, List.set_cons_zero, List.set_cons_succ]
          refine take_free (i := 8) (v := .slice none 0 0) rfl rfl (by kernel_rfl) (by kernel_rfl) (by kernel_rfl) (by kernel_rfl) (fun _ => rfl) hv ?_
          try simp only [Act.put, List.setIfInBounds_toArray, List.set_cons_zero, List.set_cons_succ]
          refine take_free (i := 9) (v := .agg #[.int .i64 1, .int .i64 1]) rfl rfl (by kernel_rfl) (by kernel_rfl) (by kernel_rfl) (by kernel_rfl) (fun _ => rfl) hv ?_
          try simp only [Act.put, List.setIfInBounds_toArray, List.set_cons_zero, List.set_cons_succ]
          refine take_free (i := 10) (v := .bool false) rfl rfl (by kernel_rfl) (by kernel_rfl) (by kernel_rfl) (by kernel_rfl) (fun _ => rfl) hv ?_
          try simp only [Act.put, List.setIfInBounds_toArray, List.set_cons_zero, List.set_cons_succ]
          refine wpAnyH_one (i := 11) (by kernel_rfl) rfl (by kernel_rfl) ?_
          go_simp
          refine ⟨hv.trans ((Ext.refl v3).alloc _), ?_⟩
          try simp only [Act.put, List.setIfInBounds_toArray, List.set_cons_zero, List.set_cons_succ]
          generalize hq : World.alloc v3 _ = v4
          have hx0 : Ext v3 v4 := by rw [← hq]; exact (Ext.refl v3).alloc _
          have hb6 : Blk v4 v3.heap.size 25 #[.int .i64 0, .int .i64 0] := by rw [← hq]; exact Blk.new' rfl
          have hv' := hv.trans hx0
          replace hbB := hbB.ext hx0
          have hg6 : w3.heap.size ≤ v3.heap.size := hv.size_le
          clear hv hq hx0
          have hv := hv'
          clear hv'
          refine take_free (i := 12) (v := .slice none 0 0) rfl rfl (by kernel_rfl) (by kernel_rfl) (by kernel_rfl) (by kernel_rfl) (fun _ => rfl) hv ?_
          try simp only [Act.put, List.setIfInBounds_toArray, List.set_cons_zero, List.set_cons_succ]
          refine take_free (i := 13) (v := .slice none 0 0) rfl rfl (by kernel_rfl) (by kernel_rfl) (by kernel_rfl) (by kernel_rfl) (fun _ => rfl) hv ?_
          try simp only [Act.put, List.setIfInBounds_toArray, List.set_cons_zero, List.set_cons_succ]
          refine wpAnyH_one (i := 14) (by kernel_rfl) rfl (by kernel_rfl) ?_
          refine wp_store_blk 25 _ _ rfl hb6 rfl (.agg #[.int .i64 1, .int .i64 1]) rfl rfl (by kernel_rfl) (by simp [Value.cells, Value.oneCell']) ?_
          have hv6 := Ext.setAll hg6 [.int .i64 1, .int .i64 1] 0 _ hv
          refine ⟨hv6, ?_⟩
          try simp only [Act.put, List.setIfInBounds_toArray, List.set_cons_zero, List.set_cons_succ]
          refine take_free (i := 15) (v := .bool false) rfl rfl (by kernel_rfl) (by kernel_rfl) (by kernel_rfl) (by kernel_rfl) (fun _ => rfl) hv6 ?_
          try simp only [Act.put, List.setIfInBounds_toArray, List.set_cons_zero, List.set_cons_succ]
          refine wpAnyH_done (by kernel_rfl) (NoPanic.normal ?_) _
          go_wp2_with fail
          go_meet
          exact ⟨_, rfl, rfl, Blk.whole (vs := (#[.int .i64 1, .int .i64 1] : Array Value)) hb6 rfl, hv6⟩
        · go_simp
          refine hK.out _ _ (hv.trans ((Ext.refl v2).alloc _)) (fun _ => ?_)
          clear hK
          try simp only [Act.put, List.setIfInBounds_toArray, List.set_cons_zero, List.set_cons_succ]
          generalize hq : World.alloc v2 _ = v5
          have hx0 : Ext v2 v5 := by rw [← hq]; exact (Ext.refl v2).alloc _
          have hb6 : Blk v5 v2.heap.size 25 #[.int .i64 0, .int .i64 0] := by rw [← hq]; exact Blk.new' rfl
          have hv' := hv.trans hx0
          replace hbB := hbB.ext hx0
          have hg6 : w3.heap.size ≤ v2.heap.size := hv.size_le
          clear hv hq hx0
          have hv := hv'
          clear hv'
          refine wpAnyH_one (i := 5) (by kernel_rfl) rfl (by kernel_rfl) ?_
          go_simp
          refine (HM1.out _ _ hv hbB).mono ?_
          rintro e v6 ⟨rfl, hx0⟩
          have hv' := hv.trans hx0
          replace hbB := hbB.ext hx0
          replace hb6 := hb6.ext hx0
          clear hv hx0
          have hv := hv'
          clear hv'
          refine ⟨hv, ?_⟩
          try simp only [Act.put, List.setIfInBounds_toArray, List.set_cons_zero, List.set_cons_succ]
          refine take_free (i := 6) (v := .tuple #[.slice none 0 0, .slice none 0 0, .agg #[.int .i64 1, .int .i64 1], .bool false]) rfl rfl (by kernel_rfl) (by kernel_rfl) (by kernel_rfl) (by kernel_rfl) (fun _ => rfl) hv ?_
          try simp only [Act.put, List.setIfInBounds_toArray, List.set_cons_zero, List.set_cons_succ]
          refine take_free (i := 7) (v := .slice none 0 0) rfl rfl (by kernel_rfl) (by kernel_rfl) (by kernel_rfl) (by kernel_rfl) (fun _ => rfl) hv ?_
          try simp only [Act.put, List.setIfInBounds_toArray, List.set_cons_zero, List.set_cons_succ]
          refine take_free (i := 8) (v := .slice none 0 0) rfl rfl (by kernel_rfl) (by kernel_rfl) (by kernel_rfl) (by kernel_rfl) (fun _ => rfl) hv ?_
          try simp only [Act.put, List.setIfInBounds_toArray, List.set_cons_zero, List.set_cons_succ]
          refine take_free (i := 9) (v := .agg #[.int .i64 1, .int .i64 1]) rfl rfl (by kernel_rfl) (by kernel_rfl) (by kernel_rfl) (by kernel_rfl) (fun _ => rfl) hv ?_
          try simp only [Act.put, List.setIfInBounds_toArray, List.set_cons_zero, List.set_cons_succ]
          refine take_free (i := 10) (v := .bool false) rfl rfl (by kernel_rfl) (by kernel_rfl) (by kernel_rfl) (by kernel_rfl) (fun _ => rfl) hv ?_
          try simp only [Act.put, List.setIfInBounds_toArray, List.set_cons_zero, List.set_cons_succ]
          refine take_free (i := 12) (v := .slice none 0 0) rfl rfl (by kernel_rfl) (by kernel_rfl) (by kernel_rfl) (by kernel_rfl) (fun _ => rfl) hv ?_
          try simp only [Act.put, List.setIfInBounds_toArray, List.set_cons_zero, List.set_cons_succ]
          refine take_free (i := 13) (v := .slice none 0 0) rfl rfl (by kernel_rfl) (by kernel_rfl) (by kernel_rfl) (by kernel_rfl) (fun _ => rfl) hv ?_
          try simp only [Act.put, List.setIfInBounds_toArray, List.set_cons_zero, List.set_cons_succ]
          refine wpAnyH_one (i := 14) (by kernel_rfl) rfl (by kernel_rfl) ?_
          refine wp_store_blk 25 _ _ rfl hb6 rfl (.agg #[.int .i64 1, .int .i64 1]) rfl rfl (by kernel_rfl) (by simp [Value.cells, Value.oneCell']) ?_
          have hv6 := Ext.setAll hg6 [.int .i64 1, .int .i64 1] 0 _ hv
          refine ⟨hv6, ?_⟩
          try simp only [Act.put, List.setIfInBounds_toArray, List.set_cons_zero, List.set_cons_succ]
          refine take_free (i := 15) (v := .bool false) rfl rfl (by kernel_rfl) (by kernel_rfl) (by kernel_rfl) (by kernel_rfl) (fun _ => rfl) hv6 ?_
          try simp only [Act.put, List.setIfInBounds_toArray, List.set_cons_zero, List.set_cons_succ]
          refine wpAnyH_done (by kernel_rfl) (NoPanic.normal ?_) _
          go_wp2_with fail
          go_meet
          exact ⟨_, rfl, rfl, Blk.whole (vs := (#[.int .i64 1, .int .i64 1] : Array Value)) hb6 rfl, hv6⟩
      · go_simp
        refine hK.out _ _ (hv.trans ((Ext.refl v1).alloc _)) (fun _ => ?_)
        clear hK
        try simp only [Act.put, List.setIfInBounds_toArray, List.set_cons_zero, List.set_cons_succ]
        generalize hq : World.alloc v1 _ = v7
        have hx0 : Ext v1 v7 := by rw [← hq]; exact (Ext.refl v1).alloc _
        have hb6 : Blk v7 v1.heap.size 25 #[.int .i64 0, .int .i64 0] := by rw [← hq]; exact Blk.new' rfl
        have hv' := hv.trans hx0
        have hg6 : w3.heap.size ≤ v1.heap.size := hv.size_le
        clear hv hq hx0
        have hv := hv'
        clear hv'
        refine wpAnyH_one (i := 4) (by kernel_rfl) rfl (by kernel_rfl) ?_
        go_simp
        refine ⟨hv.trans ((Ext.refl v7).alloc _), ?_⟩
        try simp only [Act.put, List.setIfInBounds_toArray, List.set_cons_zero, List.set_cons_succ]
        generalize hq : World.alloc v7 _ = v8
        have hx0 : Ext v7 v8 := by rw [← hq]; exact (Ext.refl v7).alloc _
        have hbB : Blk v8 v7.heap.size 38 (flat [(axMove.pv none 0 none 0), ((axAdd ⟨#[121]⟩).pv none 0 none 0)]).toArray := by rw [← hq]; exact Blk.new' rfl
        have hv' := hv.trans hx0
        replace hb6 := hb6.ext hx0
        clear hv hq hx0
        have hv := hv'
        clear hv'
        refine wpAnyH_one (i := 5) (by kernel_rfl) rfl (by kernel_rfl) ?_
        go_simp
        refine (HM1.out _ _ hv hbB).mono ?_
        rintro e v9 ⟨rfl, hx0⟩
        have hv' := hv.trans hx0
        replace hbB := hbB.ext hx0
        replace hb6 := hb6.ext hx0
        clear hv hx0
        have hv := hv'
        clear hv'
        refine ⟨hv, ?_⟩
        try simp only [Act.put, List.setIfInBounds_toArray, List.set_cons_zero, List.set_cons_succ]
        refine take_free (i := 6) (v := .tuple #[.slice none 0 0, .slice none 0 0, .agg #[.int .i64 1, .int .i64 1], .bool false]) rfl rfl (by kernel_rfl) (by kernel_rfl) (by kernel_rfl) (by kernel_rfl) (fun _ => rfl) hv ?_
        try simp only [Act.put, List.setIfInBounds_toArray, List.set_cons_zero, List.set_cons_succ]
        refine take_free (i := 7) (v := .slice none 0 0) rfl rfl (by kernel_rfl) (by kernel_rfl) (by kernel_rfl) (by kernel_rfl) (fun _ => rfl) hv ?_
        try simp only [Act.put, List.setIfInBounds_toArray, List.set_cons_zero, List.set_cons_succ]
        refine take_free (i := 8) (v := .slice none 0 0) rfl rfl (by kernel_rfl) (by kernel_rfl) (by kernel_rfl) (by kernel_rfl) (fun _ => rfl) hv ?_
        try simp only [Act.put, List.setIfInBounds_toArray, List.set_cons_zero, List.set_cons_succ]
        refine take_free (i := 9) (v := .agg #[.int .i64 1, .int .i64 1]) rfl rfl (by kernel_rfl) (by kernel_rfl) (by kernel_rfl) (by kernel_rfl) (fun _ => rfl) hv ?_
        try simp only [Act.put, List.setIfInBounds_toArray, List.set_cons_zero, List.set_cons_succ]
        refine take_free (i := 10) (v := .bool false) rfl rfl (by kernel_rfl) (by kernel_rfl) (by kernel_rfl) (by kernel_rfl) (fun _ => rfl) hv ?_
        try simp only [Act.put, List.setIfInBounds_toArray, List.set_cons_zero, List.set_cons_succ]
        refine take_free (i := 12) (v := .slice none 0 0) rfl rfl (by kernel_rfl) (by kernel_rfl) (by kernel_rfl) (by kernel_rfl) (fun _ => rfl) hv ?_
        try simp only [Act.put, List.setIfInBounds_toArray, List.set_cons_zero, List.set_cons_succ]
        refine take_free (i := 13) (v := .slice none 0 0) rfl rfl (by kernel_rfl) (by kernel_rfl) (by kernel_rfl) (by kernel_rfl) (fun _ => rfl) hv ?_
        try simp only [Act.put, List.setIfInBounds_toArray, List.set_cons_zero, List.set_cons_succ]
        refine wpAnyH_one (i := 14) (by kernel_rfl) rfl (by kernel_rfl) ?_
        refine wp_store_blk 25 _ _ rfl hb6 rfl (.agg #[.int .i64 1, .int .i64 1]) rfl rfl (by kernel_rfl) (by simp [Value.cells, Value.oneCell']) ?_
        have hv6 := Ext.setAll hg6 [.int .i64 1, .int .i64 1] 0 _ hv
        refine ⟨hv6, ?_⟩
        try simp only [Act.put, List.setIfInBounds_toArray, List.set_cons_zero, List.set_cons_succ]
        refine take_free (i := 15) (v := .bool false) rfl rfl (by kernel_rfl) (by kernel_rfl) (by kernel_rfl) (by kernel_rfl) (fun _ => rfl) hv6 ?_
        try simp only [Act.put, List.setIfInBounds_toArray, List.set_cons_zero, List.set_cons_succ]
        refine wpAnyH_done (by kernel_rfl) (NoPanic.normal ?_) _
        go_wp2_with fail
        go_meet
        exact ⟨_, rfl, rfl, Blk.whole (vs := (#[.int .i64 1, .int .i64 1] : Array Value)) hb6 rfl, hv6⟩
    · go_simp
      refine hK.out _ _ (hv.trans ((Ext.refl v0).alloc _)) (fun _ => ?_)
      clear hK
      try simp only [Act.put, List.setIfInBounds_toArray, List.set_cons_zero, List.set_cons_succ]
      generalize hq : World.alloc v0 _ = v10
      have hx0 : Ext v0 v10 := by rw [← hq]; exact (Ext.refl v0).alloc _
      have hb6 : Blk v10 v0.heap.size 25 #[.int .i64 0, .int .i64 0] := by rw [← hq]; exact Blk.new' rfl
      have hv' := hv.trans hx0
      have hg6 : w3.heap.size ≤ v0.heap.size := hv.size_le
      clear hv hq hx0
      have hv := hv'
      clear hv'
      refine wpAnyH_one (i := 3) (by kernel_rfl) rfl (by kernel_rfl) ?_
      go_simp
      refine (axAdd_any _ _).mono ?_
      rintro e v11 ⟨rfl, hx0⟩
      have hv' := hv.trans hx0
      replace hb6 := hb6.ext hx0
      clear hv hx0
      have hv := hv'
      clear hv'
      refine ⟨hv, ?_⟩
      try simp only [Act.put, List.setIfInBounds_toArray, List.set_cons_zero, List.set_cons_succ]
      refine wpAnyH_one (i := 4) (by kernel_rfl) rfl (by kernel_rfl) ?_
      go_simp
      refine ⟨hv.trans ((Ext.refl v11).alloc _), ?_⟩
      try simp only [Act.put, List.setIfInBounds_toArray, List.set_cons_zero, List.set_cons_succ]
      generalize hq : World.alloc v11 _ = v12
      have hx0 : Ext v11 v12 := by rw [← hq]; exact (Ext.refl v11).alloc _
      have hbB : Blk v12 v11.heap.size 38 (flat [(axMove.pv none 0 none 0), ((axAdd ⟨#[121]⟩).pv none 0 none 0)]).toArray := by rw [← hq]; exact Blk.new' rfl
      have hv' := hv.trans hx0
      replace hb6 := hb6.ext hx0
      clear hv hq hx0
      have hv := hv'
      clear hv'
      refine wpAnyH_one (i := 5) (by kernel_rfl) rfl (by kernel_rfl) ?_
      go_simp
      refine (HM1.out _ _ hv hbB).mono ?_
      rintro e v13 ⟨rfl, hx0⟩
      have hv' := hv.trans hx0
      replace hbB := hbB.ext hx0
      replace hb6 := hb6.ext hx0
      clear hv hx0
      have hv := hv'
      clear hv'
      refine ⟨hv, ?_⟩
      try simp only [Act.put, List.setIfInBounds_toArray, List.set_cons_zero, List.set_cons_succ]
      refine take_free (i := 6) (v := .tuple #[.slice none 0 0, .slice none 0 0, .agg #[.int .i64 1, .int .i64 1], .bool false]) rfl rfl (by kernel_rfl) (by kernel_rfl) (by kernel_rfl) (by kernel_rfl) (fun _ => rfl) hv ?_
      try simp only [Act.put, List.setIfInBounds_toArray, List.set_cons_zero, List.set_cons_succ]
      refine take_free (i := 7) (v := .slice none 0 0) rfl rfl (by kernel_rfl) (by kernel_rfl) (by kernel_rfl) (by kernel_rfl) (fun _ => rfl) hv ?_
      try simp only [Act.put, List.setIfInBounds_toArray, List.set_cons_zero, List.set_cons_succ]
      refine take_free (i := 8) (v := .slice none 0 0) rfl rfl (by kernel_rfl) (by kernel_rfl) (by kernel_rfl) (by kernel_rfl) (fun _ => rfl) hv ?_
      try simp only [Act.put, List.setIfInBounds_toArray, List.set_cons_zero, List.set_cons_succ]
      refine take_free (i := 9) (v := .agg #[.int .i64 1, .int .i64 1]) rfl rfl (by kernel_rfl) (by kernel_rfl) (by kernel_rfl) (by kernel_rfl) (fun _ => rfl) hv ?_
      try simp only [Act.put, List.setIfInBounds_toArray, List.set_cons_zero, List.set_cons_succ]
      refine take_free (i := 10) (v := .bool false) rfl rfl (by kernel_rfl) (by kernel_rfl) (by kernel_rfl) (by kernel_rfl) (fun _ => rfl) hv ?_
      try simp only [Act.put, List.setIfInBounds_toArray, List.set_cons_zero, List.set_cons_succ]
      refine take_free (i := 12) (v := .slice none 0 0) rfl rfl (by kernel_rfl) (by kernel_rfl) (by kernel_rfl) (by kernel_rfl) (fun _ => rfl) hv ?_
      try simp only [Act.put, List.setIfInBounds_toArray, List.set_cons_zero, List.set_cons_succ]
      refine take_free (i := 13) (v := .slice none 0 0) rfl rfl (by kernel_rfl) (by kernel_rfl) (by kernel_rfl) (by kernel_rfl) (fun _ => rfl) hv ?_
      try simp only [Act.put, List.setIfInBounds_toArray, List.set_cons_zero, List.set_cons_succ]
      refine wpAnyH_one (i := 14) (by kernel_rfl) rfl (by kernel_rfl) ?_
      refine wp_store_blk 25 _ _ rfl hb6 rfl (.agg #[.int .i64 1, .int .i64 1]) rfl rfl (by kernel_rfl) (by simp [Value.cells, Value.oneCell']) ?_
      have hv6 := Ext.setAll hg6 [.int .i64 1, .int .i64 1] 0 _ hv
      refine ⟨hv6, ?_⟩
      try simp only [Act.put, List.setIfInBounds_toArray, List.set_cons_zero, List.set_cons_succ]
      refine take_free (i := 15) (v := .bool false) rfl rfl (by kernel_rfl) (by kernel_rfl) (by kernel_rfl) (by kernel_rfl) (fun _ => rfl) hv6 ?_
      try simp only [Act.put, List.setIfInBounds_toArray, List.set_cons_zero, List.set_cons_succ]
      refine wpAnyH_done (by kernel_rfl) (NoPanic.normal ?_) _
      go_wp2_with fail
      go_meet
      exact ⟨_, rfl, rfl, Blk.whole (vs := (#[.int .i64 1, .int .i64 1] : Array Value)) hb6 rfl, hv6⟩
  case rest =>
    obtain ⟨g6, rfl, rfl, hb6, hx4⟩ := hcut
    have HW4 := Lib.hid (HB.out.ext hx4)
    have hc := HW4.out.cell
    have hl := HW4.out.lt
    have hm2 := fun W (hW : Ext wc W) (hB : Blk W wc.heap.size 38 (flat [axMove.pv none 0 none 0]).toArray) => ax_merge2 gA wc.heap.size W (HG.out.ext (HX.out.trans (hx4.trans hW))) (HA.out.ext (hx4.trans hW)) hB
    have HM2 := Lib.hid hm2
    clear hb hA hm2 hx HM1
    go_wp2_with fail
    refine (HM2.out _ ((Ext.refl wc).alloc _) (Blk.new' rfl)).mono ?_
    rintro e w5 ⟨A1, c1, A2, c2, rfl, HQ, hx0⟩
    have hx5 := ((Ext.refl wc).alloc _).trans hx0
    clear HM2 hx0 hc hl
    replace hb6 := hb6.ext hx5
    have hb5 := HW4.out.ext hx5
    have hc6 := hb6.cell
    have hl6 := hb6.lt
    have hc5 := hb5.cell
    have hl5 := hb5.lt
    have HS1 := Lib.hid (fun W g (hW : Ext w5 W) (hB : Blk W g 38 (flat [axMove.pv none 0 none 0]).toArray) => rsame_true A1 (some ⟨g, 0, none⟩) 1 c1 1 [axMove] W (HQ.out.1.ext hW) (Qs.plain (fun _ => True) hB (by simp [axMove, Qp.zero])) rfl (by omega) (by simp [ax_fits.2.2]))
    have HS2 := Lib.hid (fun W (hW : Ext w5 W) => rsame_true A2 (some ⟨gA, 0, none⟩) 2 c2 2 [axAdd ⟨#[120]⟩, axAdd ⟨#[121]⟩] W (HQ.out.2.ext hW) (Qs.plain (fun _ => True) (HA.out.ext (hx4.trans (hx5.trans hW))) (by simp [axAdd, Qp.zero])) rfl (by omega) (by simp [ax_fits.1, ax_fits.2.1]))
    have qe : ∀ w, (Op.equalIn 10000 25 (.agg #[.int .i64 1, .int .i64 1]) (.agg #[.int .i64 1, .int .i64 1])).run Tryz.prog w = .ok true w := fun w => eql_pair 1 1 1 1 w
    dsimp only
    go_wp2_with fail
    clear hc6 hl6 hc5 hl5
    refine (HS1.out _ _ ((Ext.refl w5).alloc _ |>.alloc _) (Blk.new' (by simp))).mono ?_
    rintro e w6 ⟨rfl, hx0⟩
    have hx6 := ((Ext.refl w5).alloc _ |>.alloc _).trans hx0
    go_wp2_with fail
    refine (HS2.out _ hx6).mono ?_
    rintro e w7 ⟨rfl, hx7⟩
    have hx := HX.out.trans (hx4.trans (hx5.trans (hx6.trans hx7)))
    clear hx0 hx4 hx5 hx6 hx7
    go_wp2_with fail
    (go_ret; refine Ret.mk ?_ ?_; (focus (rfl; done)); (focus ((repeat (first | with_reducible exact hx | with_reducible exact Ext.refl _ | with_reducible refine Ext.alloc ?_ _ | with_reducible refine Ext.drewN ?_ _ | with_reducible refine Ext.drew1 ?_ | ((with_reducible refine Ext.setCell ?_ ?_ _); rotate_left; (focus (first | (dsimp only; omega) | (simp; done) | (simp; omega)))))); done)))
end Go.Proofs.YtgfiddlmeopebaaGreatDoor
