/- Walks: the paths after a patch. Walks: a patch behind another one. -/
import Derived.Test.YtgfiddlmeopebaaGreatDoorBase
import Derived.Test.YtgfiddlmeopebaaGreatDoorShelf
set_option linter.unusedSimpArgs false
set_option linter.unusedVariables false
namespace Go.Proofs.YtgfiddlmeopebaaGreatDoor
open Go.RowKit

set_option maxHeartbeats 400000 in
theorem below_any (s t : ByteArray) (w : World) (ht : t.size ≤ 4611686018427387904) :
    Calls Tryz.prog 107 #[.string s, .string t] w (Ret (.bool (Qm.below s t)) w) := by
  go_enter Tryz.func107, Tryz.ntmps107
  go_wp2_with (go_at_call 124; refine (Tryz.strings_HasPrefix _ _ _).mono ?_; rintro e w1 ⟨rfl, rfl⟩)
  go_ret
  exact Ret.mk rfl (Ext.refl _)

set_option maxHeartbeats 400000 in
theorem within_any (s t : ByteArray) (w : World) (ht : t.size ≤ 4611686018427387904) :
    Calls Tryz.prog 140 #[.string s, .string t] w (Ret (.bool (Qm.within s t)) w) := by
  go_enter Tryz.func140, Tryz.ntmps140
  go_wp2_with (go_at_call 107; refine (below_any _ _ _ ht).mono ?_; rintro e w1 ⟨rfl, hx⟩)
  · rename_i h
    go_ret
    exact Ret.mk (by simp [Qm.within, Qm.eqB, h]) (Ext.refl _)
  · rename_i h
    go_ret
    exact Ret.mk (by simp [Qm.within, Qm.eqB, h]) hx

set_option maxHeartbeats 400000 in
theorem adds_any (p : Pv) (w : World) :
    Calls Tryz.prog 108 #[p.v] w (Ret (.bool (Qm.adds p.kind)) w) := by
  go_enter Tryz.func108, Tryz.ntmps108
  go_wp2
  all_goals go_ret
  all_goals exact Ret.mk (by simp [Qm.adds, *]) ((Ext.refl w).alloc _)
 
set_option maxHeartbeats 400000 in
theorem frees_any (p : Pv) (w : World) :
    Calls Tryz.prog 106 #[p.v] w (Ret (.bool (Qm.frees p.kind)) w) := by
  go_enter Tryz.func106, Tryz.ntmps106
  go_wp2
  all_goals go_ret
  all_goals exact Ret.mk (by simp [Qm.frees, *]) ((Ext.refl w).alloc _)
  
set_option maxHeartbeats 400000 in
theorem newPath_any (p : Pv) (w : World) :
    Calls Tryz.prog 105 #[p.v] w (Ret (.tuple #[.string (Qm.newPath p.kind p.path p.to_).1, .bool (Qm.newPath p.kind p.path p.to_).2]) w) := by
  go_enter Tryz.func105, Tryz.ntmps105
  have hx := Ext.refl w
  cases ha : Qm.adds p.kind
  all_goals
    have Ha := Lib.hid ha; clear ha
    go_wp2_with (go_at_call 108; refine (adds_any p _).mono ?_; rintro e w1 ⟨rfl, hx0⟩; have hy := Ext.trans (a := w) (by (repeat (first | with_reducible exact hx | with_reducible exact Ext.refl _ | with_reducible refine Ext.alloc ?_ _ | with_reducible refine Ext.drewN ?_ _ | with_reducible refine Ext.drew1 ?_ | ((with_reducible refine Ext.setCell ?_ ?_ _); rotate_left; (focus (first | (dsimp only; omega) | (simp; done) | (simp; omega))))))) hx0; clear hx; have hx := hy; clear hy; have hn0 := Below.block hx0 (w.heap.size) (by first | (simp; done) | (simp; omega) | omega); (first | simp [↓heap_drew_at, ↓heap_drewN_at, ↓heap_alloc_at, ↓heap_set_at, ne_two, ne_three, ne_two_left, ne_three_left, ↓hb0.eq, hb0.lt, hb0.ne] at hn0 | simp [↓heap_drew_at, ↓heap_drewN_at, ↓heap_alloc_at, ↓heap_set_at, ne_two, ne_three, ne_two_left, ne_three_left] at hn0); (try clear hb0 hc0 hf0 hl0); have hb0 := Blk.mk hn0; clear hn0; have hc0 := hb0.cell; have hf0 := hb0.frozen; have hl0 := hb0.lt; (try clear hx0); rw [Ha.out])
  · go_quiet (fail)
    go_wp2
    go_ret2
    exact Ret.mk (by simp [Qm.newPath, Ha.out]) (by (repeat (first | with_reducible exact hx | with_reducible exact Ext.refl _ | with_reducible refine Ext.alloc ?_ _ | with_reducible refine Ext.drewN ?_ _ | with_reducible refine Ext.drew1 ?_ | ((with_reducible refine Ext.setCell ?_ ?_ _); rotate_left; (focus (first | (dsimp only; omega) | (simp; done) | (simp; omega)))))))
  · go_ret2
    exact Ret.mk (by simp [Qm.newPath, Ha.out]) (by (repeat (first | with_reducible exact hx | with_reducible exact Ext.refl _ | with_reducible refine Ext.alloc ?_ _ | with_reducible refine Ext.drewN ?_ _ | with_reducible refine Ext.drew1 ?_ | ((with_reducible refine Ext.setCell ?_ ?_ _); rotate_left; (focus (first | (dsimp only; omega) | (simp; done) | (simp; omega)))))))

set_option maxHeartbeats 1000000 in
theorem after_any (p : Pv) (s : ByteArray) (w : World) (h1 : p.path.size ≤ 1152921504606846976) (h2 : p.to_.size ≤ 1152921504606846976) (hs : s.size ≤ 1152921504606846976) :
    Calls Tryz.prog 123 #[p.v, .string s] w (Ret (.tuple #[.string (Qm.after p.kind p.path p.to_ s).1, .bool (Qm.after p.kind p.path p.to_ s).2]) w) := by
  go_enter Tryz.func123, Tryz.ntmps123
  have hx := Ext.refl w
  go_wp2_with (first
    | (go_at_call 140; refine (within_any _ _ _ (by omega)).mono ?_; rintro e w1 ⟨rfl, hx0⟩; have hy := Ext.trans (a := w) (by (repeat (first | with_reducible exact hx | with_reducible exact Ext.refl _ | with_reducible refine Ext.alloc ?_ _ | with_reducible refine Ext.drewN ?_ _ | with_reducible refine Ext.drew1 ?_ | ((with_reducible refine Ext.setCell ?_ ?_ _); rotate_left; (focus (first | (dsimp only; omega) | (simp; done) | (simp; omega))))))) hx0; clear hx; have hx := hy; clear hy; have hn0 := Below.block hx0 (w.heap.size) (by first | (simp; done) | (simp; omega) | omega); (first | simp [↓heap_drew_at, ↓heap_drewN_at, ↓heap_alloc_at, ↓heap_set_at, ne_two, ne_three, ne_two_left, ne_three_left, ↓hb0.eq, hb0.lt, hb0.ne] at hn0 | simp [↓heap_drew_at, ↓heap_drewN_at, ↓heap_alloc_at, ↓heap_set_at, ne_two, ne_three, ne_two_left, ne_three_left] at hn0); (try clear hb0 hc0 hf0 hl0); have hb0 := Blk.mk hn0; clear hn0; have hc0 := hb0.cell; have hf0 := hb0.frozen; have hl0 := hb0.lt; (try clear hx0))
    | (go_at_call 107; refine (below_any _ _ _ (by omega)).mono ?_; rintro e w1 ⟨rfl, hx0⟩; have hy := Ext.trans (a := w) (by (repeat (first | with_reducible exact hx | with_reducible exact Ext.refl _ | with_reducible refine Ext.alloc ?_ _ | with_reducible refine Ext.drewN ?_ _ | with_reducible refine Ext.drew1 ?_ | ((with_reducible refine Ext.setCell ?_ ?_ _); rotate_left; (focus (first | (dsimp only; omega) | (simp; done) | (simp; omega))))))) hx0; clear hx; have hx := hy; clear hy; have hn0 := Below.block hx0 (w.heap.size) (by first | (simp; done) | (simp; omega) | omega); (first | simp [↓heap_drew_at, ↓heap_drewN_at, ↓heap_alloc_at, ↓heap_set_at, ne_two, ne_three, ne_two_left, ne_three_left, ↓hb0.eq, hb0.lt, hb0.ne] at hn0 | simp [↓heap_drew_at, ↓heap_drewN_at, ↓heap_alloc_at, ↓heap_set_at, ne_two, ne_three, ne_two_left, ne_three_left] at hn0); (try clear hb0 hc0 hf0 hl0); have hb0 := Blk.mk hn0; clear hn0; have hc0 := hb0.cell; have hf0 := hb0.frozen; have hl0 := hb0.lt; (try clear hx0)))
  all_goals first
    | (go_ret2; exact Ret.mk (by simp [Qm.after, *]) (by (repeat (first | with_reducible exact hx | with_reducible exact Ext.refl _ | with_reducible refine Ext.alloc ?_ _ | with_reducible refine Ext.drewN ?_ _ | with_reducible refine Ext.drew1 ?_ | ((with_reducible refine Ext.setCell ?_ ?_ _); rotate_left; (focus (first | (dsimp only; omega) | (simp; done) | (simp; omega))))))))
    | skip
  have hle := Qm.size_of_within (by assumption : Qm.within s p.path = true)
  go_quiet (fail)
  go_wp2
  go_ret2
  exact Ret.mk (by simp [Qm.after, *]) (by (repeat (first | with_reducible exact hx | with_reducible exact Ext.refl _ | with_reducible refine Ext.alloc ?_ _ | with_reducible refine Ext.drewN ?_ _ | with_reducible refine Ext.drew1 ?_ | ((with_reducible refine Ext.setCell ?_ ?_ _); rotate_left; (focus (first | (dsimp only; omega) | (simp; done) | (simp; omega)))))))

set_option maxHeartbeats 1000000 in
set_option maxRecDepth 100000 in
theorem newAfter_any (p : Pv) (s : ByteArray) (w : World) (h1 : p.path.size ≤ 1152921504606846976) (h2 : p.to_.size ≤ 1152921504606846976) (hs : s.size ≤ 1152921504606846976) :
    Calls Tryz.prog 122 #[p.v, .string s] w (Ret (.tuple #[.string (Qm.newAfter p.kind p.path p.to_ s).1, .bool (Qm.newAfter p.kind p.path p.to_ s).2]) w) := by
  go_enter Tryz.func122, Tryz.ntmps122
  have hx := Ext.refl w
  go_wp2_with (first
    | (go_at_call 107; refine (below_any _ _ _ (by omega)).mono ?_; rintro e w1 ⟨rfl, hx0⟩; have hy := Ext.trans (a := w) (by (repeat (first | with_reducible exact hx | with_reducible exact Ext.refl _ | with_reducible refine Ext.alloc ?_ _ | with_reducible refine Ext.drewN ?_ _ | with_reducible refine Ext.drew1 ?_ | ((with_reducible refine Ext.setCell ?_ ?_ _); rotate_left; (focus (first | (dsimp only; omega) | (simp; done) | (simp; omega))))))) hx0; clear hx; have hx := hy; clear hy; have hn0 := Below.block hx0 (w.heap.size) (by first | (simp; done) | (simp; omega) | omega); (first | simp [↓heap_drew_at, ↓heap_drewN_at, ↓heap_alloc_at, ↓heap_set_at, ne_two, ne_three, ne_two_left, ne_three_left, ↓hb0.eq, hb0.lt, hb0.ne] at hn0 | simp [↓heap_drew_at, ↓heap_drewN_at, ↓heap_alloc_at, ↓heap_set_at, ne_two, ne_three, ne_two_left, ne_three_left] at hn0); (try clear hb0 hc0 hf0 hl0); have hb0 := Blk.mk hn0; clear hn0; have hc0 := hb0.cell; have hf0 := hb0.frozen; have hl0 := hb0.lt; (try clear hx0))
    | (go_at_call 139; refine (Tryz.strings_LastIndexByte _ _ (by omega) _).mono ?_; rintro e w1 ⟨rfl, rfl⟩))
  all_goals first
    | (go_ret2; refine Ret.mk ?_ ?_; (focus (simp [Qm.newAfter, *]; done)); (focus ((repeat (first | with_reducible exact hx | with_reducible exact Ext.refl _ | with_reducible refine Ext.alloc ?_ _ | with_reducible refine Ext.drewN ?_ _ | with_reducible refine Ext.drew1 ?_ | ((with_reducible refine Ext.setCell ?_ ?_ _); rotate_left; (focus (first | (dsimp only; omega) | (simp; done) | (simp; omega)))))); done)))
    | (go_ret2; refine Ret.mk ?_ ?_; (focus (have hk : ¬ 6 ≤ p.kind := (by omega); simp [Qm.newAfter, hk, *]; done)); (focus ((repeat (first | with_reducible exact hx | with_reducible exact Ext.refl _ | with_reducible refine Ext.alloc ?_ _ | with_reducible refine Ext.drewN ?_ _ | with_reducible refine Ext.drew1 ?_ | ((with_reducible refine Ext.setCell ?_ ?_ _); rotate_left; (focus (first | (dsimp only; omega) | (simp; done) | (simp; omega)))))); done)))
    | skip
  all_goals
    have hlt := Qm.lastIndex_lt s
    have h0 : 0 ≤ Lib.lastIndexByte s 47 := by assumption
    obtain ⟨i, hi⟩ := Int.eq_ofNat_of_zero_le h0
    have Hi := Lib.hid hi
    rw [hi] at hlt h0 ⊢
    clear hi
    have hle1 : (i : Int) ≤ s.size := by omega
    have hle2 : i ≤ s.size := by omega
    have hle3 : i < s.size := by omega
    refine wp_region_ext (by kernel_rfl) (by kernel_rfl) ?_
    repeat (first | go_big_quiet_skip | (go_big_quiet_want; first | (go_big_quiet_op; go_big_quiet_on) | (apply quiet_at; intro W hW; have hxW := Ext.trans (a := w) (by (repeat (first | with_reducible exact hx | with_reducible exact Ext.refl _ | with_reducible refine Ext.alloc ?_ _ | with_reducible refine Ext.drewN ?_ _ | with_reducible refine Ext.drew1 ?_ | ((with_reducible refine Ext.setCell ?_ ?_ _); rotate_left; (focus (first | (dsimp only; omega) | (simp; done) | (simp; omega))))))) hW; have hn0 := Below.block hW (w.heap.size) (by first | (simp; done) | (simp; omega) | omega); (first | simp [↓heap_drew_at, ↓heap_drewN_at, ↓heap_alloc_at, ↓heap_set_at, ne_two, ne_three, ne_two_left, ne_three_left, ↓hb0.eq, hb0.lt, hb0.ne] at hn0 | simp [↓heap_drew_at, ↓heap_drewN_at, ↓heap_alloc_at, ↓heap_set_at, ne_two, ne_three, ne_two_left, ne_three_left] at hn0); (try clear hb0 hc0 hf0 hl0); have hb0 := Blk.mk hn0; clear hn0; have hc0 := hb0.cell; have hf0 := hb0.frozen; have hl0 := hb0.lt; go_simp; (first | exact rfl | (simp only [Oper.quietUpon, true_and]; first | exact rfl | (go_at_call 123; exact quiet_call hW (after_any p _ _ h1 h2 (by simp only [ByteArray.size_extract]; omega)) (fun _ _ h => h))) | (go_at_call 123; exact quiet_call hW (after_any p _ _ h1 h2 (by simp only [ByteArray.size_extract]; omega)) (fun _ _ h => h))); go_big_quiet_on; simp only [Act.put, List.setIfInBounds_toArray, List.set_cons_zero, List.set_cons_succ])))
    refine wpQuiet_nil ?_
    intro w1 hx0
    have hy := Ext.trans (a := w) (by (repeat (first | with_reducible exact hx | with_reducible exact Ext.refl _ | with_reducible refine Ext.alloc ?_ _ | with_reducible refine Ext.drewN ?_ _ | with_reducible refine Ext.drew1 ?_ | ((with_reducible refine Ext.setCell ?_ ?_ _); rotate_left; (focus (first | (dsimp only; omega) | (simp; done) | (simp; omega))))))) hx0; clear hx; have hx := hy; clear hy; have hn0 := Below.block hx0 (w.heap.size) (by first | (simp; done) | (simp; omega) | omega); (first | simp [↓heap_drew_at, ↓heap_drewN_at, ↓heap_alloc_at, ↓heap_set_at, ne_two, ne_three, ne_two_left, ne_three_left, ↓hb0.eq, hb0.lt, hb0.ne] at hn0 | simp [↓heap_drew_at, ↓heap_drewN_at, ↓heap_alloc_at, ↓heap_set_at, ne_two, ne_three, ne_two_left, ne_three_left] at hn0); (try clear hb0 hc0 hf0 hl0); have hb0 := Blk.mk hn0; clear hn0; have hc0 := hb0.cell; have hf0 := hb0.frozen; have hl0 := hb0.lt; (try clear hx0)
    have hle := Qm.after_size p.kind p.path p.to_ (s.extract 0 i)
    simp only [ByteArray.size_extract] at hle
    go_wp2
    have hn : ¬ ((i : Int) < 0) := by omega
    first
      | (go_ret2; refine Ret.mk ?_ ?_; (focus (simp [Qm.newAfter, Hi.out, hn, *]; done)); (focus ((repeat (first | with_reducible exact hx | with_reducible exact Ext.refl _ | with_reducible refine Ext.alloc ?_ _ | with_reducible refine Ext.drewN ?_ _ | with_reducible refine Ext.drew1 ?_ | ((with_reducible refine Ext.setCell ?_ ?_ _); rotate_left; (focus (first | (dsimp only; omega) | (simp; done) | (simp; omega)))))); done)))
      | (go_ret2; refine Ret.mk ?_ ?_; (focus (have hk : ¬ 6 ≤ p.kind := (by omega); simp [Qm.newAfter, Hi.out, hn, hk, *]; done)); (focus ((repeat (first | with_reducible exact hx | with_reducible exact Ext.refl _ | with_reducible refine Ext.alloc ?_ _ | with_reducible refine Ext.drewN ?_ _ | with_reducible refine Ext.drew1 ?_ | ((with_reducible refine Ext.setCell ?_ ?_ _); rotate_left; (focus (first | (dsimp only; omega) | (simp; done) | (simp; omega)))))); done)))

end Go.Proofs.YtgfiddlmeopebaaGreatDoor
namespace Go.Proofs.YtgfiddlmeopebaaGreatDoor
open Go.RowKit

set_option maxHeartbeats 2000000 in
set_option maxRecDepth 100000 in
theorem through_any (p q : Pv) (w : World) (h1 : p.path.size ≤ 1152921504606846976) (h2 : p.to_.size ≤ 1152921504606846976) (h3 : q.path.size ≤ 1152921504606846976) (h4 : q.to_.size ≤ 1152921504606846976) :
    Calls Tryz.prog 103 #[p.v, q.v] w (Ret (.tuple #[(Pv.through p q).1.v, .bool (Pv.through p q).2]) w) := by
  go_enter Tryz.func103, Tryz.ntmps103
  have hx := Ext.refl w
  cases ha : Qm.adds p.kind
  all_goals
    have Ha := Lib.hid ha; clear ha
    cases hk : (p.kind == 5)
  all_goals
    go_wp2_with (first
      | (go_at_call 108; refine (adds_any p _).mono ?_; rintro e w1 ⟨rfl, hx0⟩; have hy := Ext.trans (a := w) (by (repeat (first | with_reducible exact hx | with_reducible exact Ext.refl _ | with_reducible refine Ext.alloc ?_ _ | with_reducible refine Ext.drewN ?_ _ | with_reducible refine Ext.drew1 ?_ | ((with_reducible refine Ext.setCell ?_ ?_ _); rotate_left; (focus (first | (dsimp only; omega) | (simp; done) | (simp; omega))))))) hx0; clear hx; have hx := hy; clear hy; have hn0 := Below.block hx0 (w.heap.size) (by first | (simp; done) | (simp; omega) | omega); (first | simp [↓heap_drew_at, ↓heap_drewN_at, ↓heap_alloc_at, ↓heap_set_at, ne_two, ne_three, ne_two_left, ne_three_left, ↓hb0.eq, hb0.lt, hb0.ne, ↓hb1.eq, hb1.lt, hb1.ne, ↓hb2.eq, hb2.lt, hb2.ne] at hn0 | simp [↓heap_drew_at, ↓heap_drewN_at, ↓heap_alloc_at, ↓heap_set_at, ne_two, ne_three, ne_two_left, ne_three_left] at hn0); have hn1 := Below.block hx0 (w.heap.size + 1) (by first | (simp; done) | (simp; omega) | omega); (first | simp [↓heap_drew_at, ↓heap_drewN_at, ↓heap_alloc_at, ↓heap_set_at, ne_two, ne_three, ne_two_left, ne_three_left, ↓hb0.eq, hb0.lt, hb0.ne, ↓hb1.eq, hb1.lt, hb1.ne, ↓hb2.eq, hb2.lt, hb2.ne] at hn1 | simp [↓heap_drew_at, ↓heap_drewN_at, ↓heap_alloc_at, ↓heap_set_at, ne_two, ne_three, ne_two_left, ne_three_left] at hn1); have hn2 := Below.block hx0 (w.heap.size + 1 + 1) (by first | (simp; done) | (simp; omega) | omega); (first | simp [↓heap_drew_at, ↓heap_drewN_at, ↓heap_alloc_at, ↓heap_set_at, ne_two, ne_three, ne_two_left, ne_three_left, ↓hb0.eq, hb0.lt, hb0.ne, ↓hb1.eq, hb1.lt, hb1.ne, ↓hb2.eq, hb2.lt, hb2.ne] at hn2 | simp [↓heap_drew_at, ↓heap_drewN_at, ↓heap_alloc_at, ↓heap_set_at, ne_two, ne_three, ne_two_left, ne_three_left] at hn2); (try clear hb0 hc0 hf0 hl0); (try clear hb1 hc1 hf1 hl1); (try clear hb2 hc2 hf2 hl2); have hb0 := Blk.mk hn0; clear hn0; have hc0 := hb0.cell; have hf0 := hb0.frozen; have hl0 := hb0.lt; have hb1 := Blk.mk hn1; clear hn1; have hc1 := hb1.cell; have hf1 := hb1.frozen; have hl1 := hb1.lt; have hb2 := Blk.mk hn2; clear hn2; have hc2 := hb2.cell; have hf2 := hb2.frozen; have hl2 := hb2.lt; (try clear hx0); rw [Ha.out])
      | (go_at_call 122; refine (newAfter_any q _ _ (by omega) (by omega) (by omega)).mono ?_; rintro e w1 ⟨rfl, hx0⟩; have hy := Ext.trans (a := w) (by (repeat (first | with_reducible exact hx | with_reducible exact Ext.refl _ | with_reducible refine Ext.alloc ?_ _ | with_reducible refine Ext.drewN ?_ _ | with_reducible refine Ext.drew1 ?_ | ((with_reducible refine Ext.setCell ?_ ?_ _); rotate_left; (focus (first | (dsimp only; omega) | (simp; done) | (simp; omega))))))) hx0; clear hx; have hx := hy; clear hy; have hn0 := Below.block hx0 (w.heap.size) (by first | (simp; done) | (simp; omega) | omega); (first | simp [↓heap_drew_at, ↓heap_drewN_at, ↓heap_alloc_at, ↓heap_set_at, ne_two, ne_three, ne_two_left, ne_three_left, ↓hb0.eq, hb0.lt, hb0.ne, ↓hb1.eq, hb1.lt, hb1.ne, ↓hb2.eq, hb2.lt, hb2.ne] at hn0 | simp [↓heap_drew_at, ↓heap_drewN_at, ↓heap_alloc_at, ↓heap_set_at, ne_two, ne_three, ne_two_left, ne_three_left] at hn0); have hn1 := Below.block hx0 (w.heap.size + 1) (by first | (simp; done) | (simp; omega) | omega); (first | simp [↓heap_drew_at, ↓heap_drewN_at, ↓heap_alloc_at, ↓heap_set_at, ne_two, ne_three, ne_two_left, ne_three_left, ↓hb0.eq, hb0.lt, hb0.ne, ↓hb1.eq, hb1.lt, hb1.ne, ↓hb2.eq, hb2.lt, hb2.ne] at hn1 | simp [↓heap_drew_at, ↓heap_drewN_at, ↓heap_alloc_at, ↓heap_set_at, ne_two, ne_three, ne_two_left, ne_three_left] at hn1); have hn2 := Below.block hx0 (w.heap.size + 1 + 1) (by first | (simp; done) | (simp; omega) | omega); (first | simp [↓heap_drew_at, ↓heap_drewN_at, ↓heap_alloc_at, ↓heap_set_at, ne_two, ne_three, ne_two_left, ne_three_left, ↓hb0.eq, hb0.lt, hb0.ne, ↓hb1.eq, hb1.lt, hb1.ne, ↓hb2.eq, hb2.lt, hb2.ne] at hn2 | simp [↓heap_drew_at, ↓heap_drewN_at, ↓heap_alloc_at, ↓heap_set_at, ne_two, ne_three, ne_two_left, ne_three_left] at hn2); (try clear hb0 hc0 hf0 hl0); (try clear hb1 hc1 hf1 hl1); (try clear hb2 hc2 hf2 hl2); have hb0 := Blk.mk hn0; clear hn0; have hc0 := hb0.cell; have hf0 := hb0.frozen; have hl0 := hb0.lt; have hb1 := Blk.mk hn1; clear hn1; have hc1 := hb1.cell; have hf1 := hb1.frozen; have hl1 := hb1.lt; have hb2 := Blk.mk hn2; clear hn2; have hc2 := hb2.cell; have hf2 := hb2.frozen; have hl2 := hb2.lt; (try clear hx0))
      | (go_at_call 123; refine (after_any q _ _ (by omega) (by omega) (by omega)).mono ?_; rintro e w1 ⟨rfl, hx0⟩; have hy := Ext.trans (a := w) (by (repeat (first | with_reducible exact hx | with_reducible exact Ext.refl _ | with_reducible refine Ext.alloc ?_ _ | with_reducible refine Ext.drewN ?_ _ | with_reducible refine Ext.drew1 ?_ | ((with_reducible refine Ext.setCell ?_ ?_ _); rotate_left; (focus (first | (dsimp only; omega) | (simp; done) | (simp; omega))))))) hx0; clear hx; have hx := hy; clear hy; have hn0 := Below.block hx0 (w.heap.size) (by first | (simp; done) | (simp; omega) | omega); (first | simp [↓heap_drew_at, ↓heap_drewN_at, ↓heap_alloc_at, ↓heap_set_at, ne_two, ne_three, ne_two_left, ne_three_left, ↓hb0.eq, hb0.lt, hb0.ne, ↓hb1.eq, hb1.lt, hb1.ne, ↓hb2.eq, hb2.lt, hb2.ne] at hn0 | simp [↓heap_drew_at, ↓heap_drewN_at, ↓heap_alloc_at, ↓heap_set_at, ne_two, ne_three, ne_two_left, ne_three_left] at hn0); have hn1 := Below.block hx0 (w.heap.size + 1) (by first | (simp; done) | (simp; omega) | omega); (first | simp [↓heap_drew_at, ↓heap_drewN_at, ↓heap_alloc_at, ↓heap_set_at, ne_two, ne_three, ne_two_left, ne_three_left, ↓hb0.eq, hb0.lt, hb0.ne, ↓hb1.eq, hb1.lt, hb1.ne, ↓hb2.eq, hb2.lt, hb2.ne] at hn1 | simp [↓heap_drew_at, ↓heap_drewN_at, ↓heap_alloc_at, ↓heap_set_at, ne_two, ne_three, ne_two_left, ne_three_left] at hn1); have hn2 := Below.block hx0 (w.heap.size + 1 + 1) (by first | (simp; done) | (simp; omega) | omega); (first | simp [↓heap_drew_at, ↓heap_drewN_at, ↓heap_alloc_at, ↓heap_set_at, ne_two, ne_three, ne_two_left, ne_three_left, ↓hb0.eq, hb0.lt, hb0.ne, ↓hb1.eq, hb1.lt, hb1.ne, ↓hb2.eq, hb2.lt, hb2.ne] at hn2 | simp [↓heap_drew_at, ↓heap_drewN_at, ↓heap_alloc_at, ↓heap_set_at, ne_two, ne_three, ne_two_left, ne_three_left] at hn2); (try clear hb0 hc0 hf0 hl0); (try clear hb1 hc1 hf1 hl1); (try clear hb2 hc2 hf2 hl2); have hb0 := Blk.mk hn0; clear hn0; have hc0 := hb0.cell; have hf0 := hb0.frozen; have hl0 := hb0.lt; have hb1 := Blk.mk hn1; clear hn1; have hc1 := hb1.cell; have hf1 := hb1.frozen; have hl1 := hb1.lt; have hb2 := Blk.mk hn2; clear hn2; have hc2 := hb2.cell; have hf2 := hb2.frozen; have hl2 := hb2.lt; (try clear hx0)))
    all_goals (refine bodyPost_ret (v := .tuple #[(Pv.through p q).1.v, .bool (Pv.through p q).2]) ?_ rfl ?_; (focus (simp only [results, Tryz.results103]; go_simp; (try (simp [Pv.through, Ha.out, *])); done)); refine Ret.mk rfl ?_; (focus ((repeat (first | with_reducible exact hx | with_reducible exact Ext.refl _ | with_reducible refine Ext.alloc ?_ _ | with_reducible refine Ext.drewN ?_ _ | with_reducible refine Ext.drew1 ?_ | ((with_reducible refine Ext.setCell ?_ ?_ _); rotate_left; (focus (first | (dsimp only; omega) | (simp; done) | (simp; omega)))))); done)))
end Go.Proofs.YtgfiddlmeopebaaGreatDoor
