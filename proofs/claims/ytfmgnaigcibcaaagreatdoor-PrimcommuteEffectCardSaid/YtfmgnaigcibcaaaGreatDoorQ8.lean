/- Walks: two hunks exchanged: the second one lies behind the first one, or before it. Walks: the inverse of an edit. A patch and the lists that it holds. Walks: the inverse of a patch. -/
import Derived.Test.YtfmgnaigcibcaaaGreatDoorQ7
import Derived.Deep.RegionHeld3
import Derived.Deep.DrawnRows
import Derived.Deep.CutBlock
import Derived.Deep.DeepCutAuto
import Derived.Test.YtfmgnaigcibcaaaGreatDoorQ3
set_option linter.unusedSimpArgs false
set_option linter.unusedVariables false
namespace Go.Proofs.YtfmgnaigcibcaaaGreatDoor
open Go.RowKit
attribute [local go_sem ↓] Go.wp_at_zero Go.wp_at_succ
theorem Ext.realloc {a w : World} {o o' : Obj} (h : Ext a (w.alloc o)) (hs : a.heap.size ≤ w.heap.size) : Ext a (w.alloc o') :=
  ⟨h.os, h.tape, h.output, by simp only [World.size_alloc]; omega, fun i hi => by
    have h1 := h.block i hi
    have h2 : (w.alloc o').heap[i]? = (w.alloc o).heap[i]? := by
      rw [heap_alloc_at, heap_alloc_at, if_neg (by omega), if_neg (by omega)]
    exact h2.trans h1⟩
theorem new_at {W w1 : World} {cs : Array Value} {t : TypeId} (hx : Ext (W.alloc (.cells cs t)) w1) : Blk w1 W.heap.size t cs := Blk.ext hx (Blk.new' rfl)
theorem new_drew {W w1 : World} {cs : Array Value} {t : TypeId} (hx : Ext (W.alloc (.cells cs t)).drew w1) : Blk w1 W.heap.size t cs := Blk.ext hx (Blk.drew (Blk.new' rfl))
theorem hunk_set {w : World} {g : Nat} {t : TypeId} {a b c a' b' c' : Value} (h : Blk w g t #[a, b, c]) : Blk (((w.setCell ⟨g, 0, none⟩ a').setCell ⟨g, 1, none⟩ b').setCell ⟨g, 2, none⟩ c') g t #[a', b', c'] :=
  ((h.set_ 0 a').set_ 1 b').set_ 2 c'

set_option maxHeartbeats 8000000 in
set_option maxRecDepth 100000 in
theorem hcommute_behind (a b : Hv) (w : World) (ha : a.fair) (hb : b.fair) (va : (a.check == 0) = true) (vb : (b.check == 0) = true) (c1 : a.at_ + a.n2 < b.at_) :
    Calls Tryz.prog 120 #[a.v, b.v] w (Ret (.tuple #[(a.commute b).1.v, (a.commute b).2.1.v, .bool (a.commute b).2.2]) w) := by
  obtain ⟨ha1, ha2⟩ := ha
  obtain ⟨hb1, hb2⟩ := hb
  have hA := Hv.check_bounds va
  have hB := Hv.check_bounds vb
  have Va := Lib.hid va
  have Vb := Lib.hid vb
  have hm : a.commute b = (if (b.shift (-a.growth)).at_ ≤ 1099511627776 then (b.shift (-a.growth), a, true) else (Hv.zero, Hv.zero, false)) := by simp [Hv.commute, va, vb, c1]
  generalize a.commute b = R at hm ⊢
  have Hm := Lib.hid hm
  clear va vb hm
  go_enter Tryz.func120, Tryz.ntmps120
  have hx := Ext.refl w
  go_wp2_with fail
  go_at_call 133; refine (hvalid_any a _ ⟨by omega, by omega⟩).mono ?_; rintro e w1 ⟨rfl, hx0⟩; have hy := Ext.trans (a := w) EX hx0; clear hx; have hx := hy; clear hy; have hn0 := BB hx0 (w.heap.size); have hn1 := BB hx0 (w.heap.size + 1); have hn2 := BB hx0 (w.heap.size + 1 + 1); have hn3 := BB hx0 (w.heap.size + 1 + 1 + 1); (first | simp [↓heap_drew_at, ↓heap_drewN_at, ↓heap_alloc_at, ↓heap_set_at, ne_two, ne_three, ne_two_left, ne_three_left, ↓hb0.eq, hb0.lt, hb0.ne, ↓hb1.eq, hb1.lt, hb1.ne, ↓hb2.eq, hb2.lt, hb2.ne, ↓hb3.eq, hb3.lt, hb3.ne] at hn0 hn1 hn2 hn3 | simp [↓heap_drew_at, ↓heap_drewN_at, ↓heap_alloc_at, ↓heap_set_at, ne_two, ne_three, ne_two_left, ne_three_left] at hn0 hn1 hn2 hn3); (try clear hb0 hc0 hf0 hl0); (try clear hb1 hc1 hf1 hl1); (try clear hb2 hc2 hf2 hl2); (try clear hb3 hc3 hf3 hl3); have hb0 := Blk.mk hn0; clear hn0; obtain ⟨hc0, hf0, hl0⟩ := hb0.all; have hb1 := Blk.mk hn1; clear hn1; obtain ⟨hc1, hf1, hl1⟩ := hb1.all; have hb2 := Blk.mk hn2; clear hn2; obtain ⟨hc2, hf2, hl2⟩ := hb2.all; have hb3 := Blk.mk hn3; clear hn3; obtain ⟨hc3, hf3, hl3⟩ := hb3.all; (try clear hx0); rw [Va.out]
  go_wp2_with fail
  go_at_call 133; refine (hvalid_any b _ ⟨by omega, by omega⟩).mono ?_; rintro e w1 ⟨rfl, hx0⟩; have hy := Ext.trans (a := w) EX hx0; clear hx; have hx := hy; clear hy; have hn0 := BB hx0 (w.heap.size); have hn1 := BB hx0 (w.heap.size + 1); have hn2 := BB hx0 (w.heap.size + 1 + 1); have hn3 := BB hx0 (w.heap.size + 1 + 1 + 1); (first | simp [↓heap_drew_at, ↓heap_drewN_at, ↓heap_alloc_at, ↓heap_set_at, ne_two, ne_three, ne_two_left, ne_three_left, ↓hb0.eq, hb0.lt, hb0.ne, ↓hb1.eq, hb1.lt, hb1.ne, ↓hb2.eq, hb2.lt, hb2.ne, ↓hb3.eq, hb3.lt, hb3.ne] at hn0 hn1 hn2 hn3 | simp [↓heap_drew_at, ↓heap_drewN_at, ↓heap_alloc_at, ↓heap_set_at, ne_two, ne_three, ne_two_left, ne_three_left] at hn0 hn1 hn2 hn3); (try clear hb0 hc0 hf0 hl0); (try clear hb1 hc1 hf1 hl1); (try clear hb2 hc2 hf2 hl2); (try clear hb3 hc3 hf3 hl3); have hb0 := Blk.mk hn0; clear hn0; obtain ⟨hc0, hf0, hl0⟩ := hb0.all; have hb1 := Blk.mk hn1; clear hn1; obtain ⟨hc1, hf1, hl1⟩ := hb1.all; have hb2 := Blk.mk hn2; clear hn2; obtain ⟨hc2, hf2, hl2⟩ := hb2.all; have hb3 := Blk.mk hn3; clear hn3; obtain ⟨hc3, hf3, hl3⟩ := hb3.all; (try clear hx0); rw [Vb.out]
  go_upto_region 3 with fail
  have hwr : IntKind.i64.wrap (-a.growth) = -a.growth := IntWalk.i64_in _ (by simp only [Hv.growth]; omega)
  obtain ⟨W0, rfl⟩ : ∃ W0 : World, W0 = w1 := ⟨_, rfl⟩
  go_cut [7, 8] (fun u1 u2 wx => ∃ g : Nat, W0.heap.size ≤ g ∧ Ext W0 wx ∧ Blk wx g 26 #[.int .i64 (b.shift (-a.growth)).at_, .slice (b.shift (-a.growth)).A1 (b.shift (-a.growth)).n1 (b.shift (-a.growth)).c1, .slice (b.shift (-a.growth)).A2 (b.shift (-a.growth)).n2 (b.shift (-a.growth)).c2] ∧ u1 = .pointer (some ⟨g, 0, none⟩) ∧ u2 = .bool (decide (b.at_ + -a.growth ≤ 1099511627776)))
  case first =>
    have HS : Hid (∀ w', Ext W0 w' → Hid (Ext W0 w') ∧ w'.cell? ⟨w.heap.size, 0, none⟩ = some (.int .i64 a.at_) ∧ w'.cell? ⟨w.heap.size, 1, none⟩ = some (.slice a.A1 a.n1 a.c1) ∧ w'.cell? ⟨w.heap.size, 2, none⟩ = some (.slice a.A2 a.n2 a.c2) ∧ w'.cell? ⟨w.heap.size + 1, 0, none⟩ = some (.int .i64 b.at_) ∧ w'.cell? ⟨w.heap.size + 1, 1, none⟩ = some (.slice b.A1 b.n1 b.c1) ∧ w'.cell? ⟨w.heap.size + 1, 2, none⟩ = some (.slice b.A2 b.n2 b.c2)) := Lib.hid (fun w' hw' => by
      have e0 := hw'.cellAt w.heap.size hb0.lt
      have e1 := hw'.cellAt (w.heap.size + 1) hb1.lt
      refine ⟨Lib.hid hw', ?_, ?_, ?_, ?_, ?_, ?_⟩
      all_goals first | (rw [e0, hb0.cell]; rfl) | (rw [e1, hb1.cell]; rfl))
    have Hx := Lib.hid hx
    clear hx hb0 hb1 hb2 hb3 hl0 hl1 hl2 hl3 hc0 hc1 hc2 hc3 hf0 hf1 hf2 hf3
    go_region_held3 (fun w' => Hid (Ext W0 w') ∧ w'.cell? ⟨w.heap.size, 0, none⟩ = some (.int .i64 a.at_) ∧ w'.cell? ⟨w.heap.size, 1, none⟩ = some (.slice a.A1 a.n1 a.c1) ∧ w'.cell? ⟨w.heap.size, 2, none⟩ = some (.slice a.A2 a.n2 a.c2) ∧ w'.cell? ⟨w.heap.size + 1, 0, none⟩ = some (.int .i64 b.at_) ∧ w'.cell? ⟨w.heap.size + 1, 1, none⟩ = some (.slice b.A1 b.n1 b.c1) ∧ w'.cell? ⟨w.heap.size + 1, 2, none⟩ = some (.slice b.A2 b.n2 b.c2)) (first | exact HS.out _ (Ext.drew1 (Ext.refl _)) | (go_split_ands; exact HS.out _ (Ext.trans (Hid.out (by assumption)) hx0)) | (go_split_ands; exact HS.out _ (Ext.alloc (Hid.out (by assumption)) _)) | (go_split_ands; exact HS.out _ (Ext.realloc (Hid.out (by assumption)) (by omega))) | (go_split_ands; refine HS.out _ ?_; refine Ext.setCell (Ext.setCell (Ext.setCell (Hid.out (by assumption)) ?_ _) ?_ _) ?_ _; all_goals (dsimp only; omega)))
      (first | (go_at_call 135; refine (growth_any a _ ⟨by omega, by omega⟩).mono ?_; rintro e w1 ⟨rfl, hx0⟩; obtain ⟨hcc, hff⟩ := bcell hx0; have hzz := hx0.size_le; (try simp only [World.size_alloc, World.size_setCell, World.size_drew, World.heap_drewN] at hzz); (try have hzl := Nat.lt_of_succ_le hzz)) | (go_at_call 134; refine (shifted_any b _ _ (by omega) (by omega) (by simp only [Hv.growth]; omega) (by simp only [Hv.growth]; omega)).mono ?_; rintro e w1 ⟨rfl, hx0⟩; obtain ⟨hcc, hff⟩ := bcell hx0; have hzz := hx0.size_le; (try simp only [World.size_alloc, World.size_setCell, World.size_drew, World.heap_drewN] at hzz); (try have hzl := Nat.lt_of_succ_le hzz)))
    all_goals (go_split_ands; go_wp2_with fail; go_meet)
    all_goals first
      | exact ⟨_, by omega, Hid.out (by assumption), Blk.new' rfl, rfl, rfl⟩
      | (refine ⟨_, ?_, Hid.out (by assumption), hunk_set (new_at hx0), rfl, rfl⟩; omega)
      | (refine ⟨_, ?_, Hid.out (by assumption), hunk_set (Blk.ext hx0 (new_drew (by assumption))), rfl, rfl⟩; exact Nat.le_refl _)
  case rest =>
    obtain ⟨g, hg1, hx1, hbX, rfl, rfl⟩ := hcut
    have hx0 := hx1
    have hy := Ext.trans (a := w) EX hx0; clear hx; have hx := hy; clear hy; have hn0 := BB hx0 (w.heap.size); have hn1 := BB hx0 (w.heap.size + 1); have hn2 := BB hx0 (w.heap.size + 1 + 1); have hn3 := BB hx0 (w.heap.size + 1 + 1 + 1); (first | simp [↓heap_drew_at, ↓heap_drewN_at, ↓heap_alloc_at, ↓heap_set_at, ne_two, ne_three, ne_two_left, ne_three_left, ↓hb0.eq, hb0.lt, hb0.ne, ↓hb1.eq, hb1.lt, hb1.ne, ↓hb2.eq, hb2.lt, hb2.ne, ↓hb3.eq, hb3.lt, hb3.ne] at hn0 hn1 hn2 hn3 | simp [↓heap_drew_at, ↓heap_drewN_at, ↓heap_alloc_at, ↓heap_set_at, ne_two, ne_three, ne_two_left, ne_three_left] at hn0 hn1 hn2 hn3); (try clear hb0 hc0 hf0 hl0); (try clear hb1 hc1 hf1 hl1); (try clear hb2 hc2 hf2 hl2); (try clear hb3 hc3 hf3 hl3); have hb0 := Blk.mk hn0; clear hn0; obtain ⟨hc0, hf0, hl0⟩ := hb0.all; have hb1 := Blk.mk hn1; clear hn1; obtain ⟨hc1, hf1, hl1⟩ := hb1.all; have hb2 := Blk.mk hn2; clear hn2; obtain ⟨hc2, hf2, hl2⟩ := hb2.all; have hb3 := Blk.mk hn3; clear hn3; obtain ⟨hc3, hf3, hl3⟩ := hb3.all; (try clear hx0)
    have hcX := hbX.cell
    have hlX := hbX.lt
    by_cases hs : (b.shift (-a.growth)).at_ ≤ 1099511627776
    · have hs2 : decide (b.at_ + -a.growth ≤ 1099511627776) = true := decide_eq_true hs
      have hm := Hm.out
      rw [if_pos hs] at hm
      have HR := Lib.hid hm
      clear hm
      rw [hs2]
      clear hs hs2
      go_wp2_with (go_at_call 136; refine (both_any _ _ _ _).mono ?_; rintro e w1 ⟨rfl, hx0⟩; have hy := Ext.trans (a := w) EX hx0; clear hx; have hx := hy; clear hy; have hn0 := BB hx0 (w.heap.size); have hn1 := BB hx0 (w.heap.size + 1); have hn2 := BB hx0 (w.heap.size + 1 + 1); have hn3 := BB hx0 (w.heap.size + 1 + 1 + 1); (first | simp [↓heap_drew_at, ↓heap_drewN_at, ↓heap_alloc_at, ↓heap_set_at, ne_two, ne_three, ne_two_left, ne_three_left, ↓hb0.eq, hb0.lt, hb0.ne, ↓hb1.eq, hb1.lt, hb1.ne, ↓hb2.eq, hb2.lt, hb2.ne, ↓hb3.eq, hb3.lt, hb3.ne] at hn0 hn1 hn2 hn3 | simp [↓heap_drew_at, ↓heap_drewN_at, ↓heap_alloc_at, ↓heap_set_at, ne_two, ne_three, ne_two_left, ne_three_left] at hn0 hn1 hn2 hn3); (try clear hb0 hc0 hf0 hl0); (try clear hb1 hc1 hf1 hl1); (try clear hb2 hc2 hf2 hl2); (try clear hb3 hc3 hf3 hl3); have hb0 := Blk.mk hn0; clear hn0; obtain ⟨hc0, hf0, hl0⟩ := hb0.all; have hb1 := Blk.mk hn1; clear hn1; obtain ⟨hc1, hf1, hl1⟩ := hb1.all; have hb2 := Blk.mk hn2; clear hn2; obtain ⟨hc2, hf2, hl2⟩ := hb2.all; have hb3 := Blk.mk hn3; clear hn3; obtain ⟨hc3, hf3, hl3⟩ := hb3.all; (try clear hx0))
      rw [HR.out]
      (refine bodyPost_ret (v := .tuple #[(b.shift (-a.growth)).v, a.v, .bool true]) ?_ rfl ?_; (focus (simp only [results, Tryz.results120]; go_simp; (try (simp [Hv.shift])); done)); refine Ret.mk rfl ?_; (focus (exact EX; done)))
    · have hs2 : decide (b.at_ + -a.growth ≤ 1099511627776) = false := decide_eq_false hs
      have hm := Hm.out
      rw [if_neg hs] at hm
      have HR := Lib.hid hm
      clear hm
      rw [hs2]
      clear hs hs2
      go_wp2_with (go_at_call 136; refine (both_any _ _ _ _).mono ?_; rintro e w1 ⟨rfl, hx0⟩; have hy := Ext.trans (a := w) EX hx0; clear hx; have hx := hy; clear hy; have hn0 := BB hx0 (w.heap.size); have hn1 := BB hx0 (w.heap.size + 1); have hn2 := BB hx0 (w.heap.size + 1 + 1); have hn3 := BB hx0 (w.heap.size + 1 + 1 + 1); (first | simp [↓heap_drew_at, ↓heap_drewN_at, ↓heap_alloc_at, ↓heap_set_at, ne_two, ne_three, ne_two_left, ne_three_left, ↓hb0.eq, hb0.lt, hb0.ne, ↓hb1.eq, hb1.lt, hb1.ne, ↓hb2.eq, hb2.lt, hb2.ne, ↓hb3.eq, hb3.lt, hb3.ne] at hn0 hn1 hn2 hn3 | simp [↓heap_drew_at, ↓heap_drewN_at, ↓heap_alloc_at, ↓heap_set_at, ne_two, ne_three, ne_two_left, ne_three_left] at hn0 hn1 hn2 hn3); (try clear hb0 hc0 hf0 hl0); (try clear hb1 hc1 hf1 hl1); (try clear hb2 hc2 hf2 hl2); (try clear hb3 hc3 hf3 hl3); have hb0 := Blk.mk hn0; clear hn0; obtain ⟨hc0, hf0, hl0⟩ := hb0.all; have hb1 := Blk.mk hn1; clear hn1; obtain ⟨hc1, hf1, hl1⟩ := hb1.all; have hb2 := Blk.mk hn2; clear hn2; obtain ⟨hc2, hf2, hl2⟩ := hb2.all; have hb3 := Blk.mk hn3; clear hn3; obtain ⟨hc3, hf3, hl3⟩ := hb3.all; (try clear hx0))
      rw [HR.out]
      (refine bodyPost_ret (v := .tuple #[Hv.zero.v, Hv.zero.v, .bool false]) ?_ rfl ?_; (focus (simp only [results, Tryz.results120]; go_simp; (try (simp)); done)); refine Ret.mk rfl ?_; (focus (exact EX; done)))

set_option maxHeartbeats 8000000 in
set_option maxRecDepth 100000 in
theorem hcommute_before (a b : Hv) (w : World) (ha : a.fair) (hb : b.fair) (va : (a.check == 0) = true) (vb : (b.check == 0) = true) (c1 : ¬ a.at_ + a.n2 < b.at_) (c2 : b.at_ + b.n1 < a.at_) :
    Calls Tryz.prog 120 #[a.v, b.v] w (Ret (.tuple #[(a.commute b).1.v, (a.commute b).2.1.v, .bool (a.commute b).2.2]) w) := by
  obtain ⟨ha1, ha2⟩ := ha
  obtain ⟨hb1, hb2⟩ := hb
  have hA := Hv.check_bounds va
  have hB := Hv.check_bounds vb
  have Va := Lib.hid va
  have Vb := Lib.hid vb
  have hm : a.commute b = (if (a.shift b.growth).at_ ≤ 1099511627776 then (b, a.shift b.growth, true) else (Hv.zero, Hv.zero, false)) := by simp [Hv.commute, va, vb, c1, c2]
  generalize a.commute b = R at hm ⊢
  have Hm := Lib.hid hm
  clear va vb hm
  go_enter Tryz.func120, Tryz.ntmps120
  have hx := Ext.refl w
  go_wp2_with fail
  go_at_call 133; refine (hvalid_any a _ ⟨by omega, by omega⟩).mono ?_; rintro e w1 ⟨rfl, hx0⟩; have hy := Ext.trans (a := w) EX hx0; clear hx; have hx := hy; clear hy; have hn0 := BB hx0 (w.heap.size); have hn1 := BB hx0 (w.heap.size + 1); have hn2 := BB hx0 (w.heap.size + 1 + 1); have hn3 := BB hx0 (w.heap.size + 1 + 1 + 1); (first | simp [↓heap_drew_at, ↓heap_drewN_at, ↓heap_alloc_at, ↓heap_set_at, ne_two, ne_three, ne_two_left, ne_three_left, ↓hb0.eq, hb0.lt, hb0.ne, ↓hb1.eq, hb1.lt, hb1.ne, ↓hb2.eq, hb2.lt, hb2.ne, ↓hb3.eq, hb3.lt, hb3.ne] at hn0 hn1 hn2 hn3 | simp [↓heap_drew_at, ↓heap_drewN_at, ↓heap_alloc_at, ↓heap_set_at, ne_two, ne_three, ne_two_left, ne_three_left] at hn0 hn1 hn2 hn3); (try clear hb0 hc0 hf0 hl0); (try clear hb1 hc1 hf1 hl1); (try clear hb2 hc2 hf2 hl2); (try clear hb3 hc3 hf3 hl3); have hb0 := Blk.mk hn0; clear hn0; obtain ⟨hc0, hf0, hl0⟩ := hb0.all; have hb1 := Blk.mk hn1; clear hn1; obtain ⟨hc1, hf1, hl1⟩ := hb1.all; have hb2 := Blk.mk hn2; clear hn2; obtain ⟨hc2, hf2, hl2⟩ := hb2.all; have hb3 := Blk.mk hn3; clear hn3; obtain ⟨hc3, hf3, hl3⟩ := hb3.all; (try clear hx0); rw [Va.out]
  go_wp2_with fail
  go_at_call 133; refine (hvalid_any b _ ⟨by omega, by omega⟩).mono ?_; rintro e w1 ⟨rfl, hx0⟩; have hy := Ext.trans (a := w) EX hx0; clear hx; have hx := hy; clear hy; have hn0 := BB hx0 (w.heap.size); have hn1 := BB hx0 (w.heap.size + 1); have hn2 := BB hx0 (w.heap.size + 1 + 1); have hn3 := BB hx0 (w.heap.size + 1 + 1 + 1); (first | simp [↓heap_drew_at, ↓heap_drewN_at, ↓heap_alloc_at, ↓heap_set_at, ne_two, ne_three, ne_two_left, ne_three_left, ↓hb0.eq, hb0.lt, hb0.ne, ↓hb1.eq, hb1.lt, hb1.ne, ↓hb2.eq, hb2.lt, hb2.ne, ↓hb3.eq, hb3.lt, hb3.ne] at hn0 hn1 hn2 hn3 | simp [↓heap_drew_at, ↓heap_drewN_at, ↓heap_alloc_at, ↓heap_set_at, ne_two, ne_three, ne_two_left, ne_three_left] at hn0 hn1 hn2 hn3); (try clear hb0 hc0 hf0 hl0); (try clear hb1 hc1 hf1 hl1); (try clear hb2 hc2 hf2 hl2); (try clear hb3 hc3 hf3 hl3); have hb0 := Blk.mk hn0; clear hn0; obtain ⟨hc0, hf0, hl0⟩ := hb0.all; have hb1 := Blk.mk hn1; clear hn1; obtain ⟨hc1, hf1, hl1⟩ := hb1.all; have hb2 := Blk.mk hn2; clear hn2; obtain ⟨hc2, hf2, hl2⟩ := hb2.all; have hb3 := Blk.mk hn3; clear hn3; obtain ⟨hc3, hf3, hl3⟩ := hb3.all; (try clear hx0); rw [Vb.out]
  go_upto_region 6 with fail
  have hwr : IntKind.i64.wrap (-b.growth) = -b.growth := IntWalk.i64_in _ (by simp only [Hv.growth]; omega)
  obtain ⟨W0, rfl⟩ : ∃ W0 : World, W0 = w1 := ⟨_, rfl⟩
  go_cut [9, 10] (fun u1 u2 wx => ∃ g : Nat, W0.heap.size ≤ g ∧ Ext W0 wx ∧ Blk wx g 26 #[.int .i64 (a.shift (b.growth)).at_, .slice (a.shift (b.growth)).A1 (a.shift (b.growth)).n1 (a.shift (b.growth)).c1, .slice (a.shift (b.growth)).A2 (a.shift (b.growth)).n2 (a.shift (b.growth)).c2] ∧ u1 = .pointer (some ⟨g, 0, none⟩) ∧ u2 = .bool (decide (a.at_ + b.growth ≤ 1099511627776)))
  case first =>
    have HS : Hid (∀ w', Ext W0 w' → Hid (Ext W0 w') ∧ w'.cell? ⟨w.heap.size, 0, none⟩ = some (.int .i64 a.at_) ∧ w'.cell? ⟨w.heap.size, 1, none⟩ = some (.slice a.A1 a.n1 a.c1) ∧ w'.cell? ⟨w.heap.size, 2, none⟩ = some (.slice a.A2 a.n2 a.c2) ∧ w'.cell? ⟨w.heap.size + 1, 0, none⟩ = some (.int .i64 b.at_) ∧ w'.cell? ⟨w.heap.size + 1, 1, none⟩ = some (.slice b.A1 b.n1 b.c1) ∧ w'.cell? ⟨w.heap.size + 1, 2, none⟩ = some (.slice b.A2 b.n2 b.c2)) := Lib.hid (fun w' hw' => by
      have e0 := hw'.cellAt w.heap.size hb0.lt
      have e1 := hw'.cellAt (w.heap.size + 1) hb1.lt
      refine ⟨Lib.hid hw', ?_, ?_, ?_, ?_, ?_, ?_⟩
      all_goals first | (rw [e0, hb0.cell]; rfl) | (rw [e1, hb1.cell]; rfl))
    have Hx := Lib.hid hx
    clear hx hb0 hb1 hb2 hb3 hl0 hl1 hl2 hl3 hc0 hc1 hc2 hc3 hf0 hf1 hf2 hf3
    go_region_held3 (fun w' => Hid (Ext W0 w') ∧ w'.cell? ⟨w.heap.size, 0, none⟩ = some (.int .i64 a.at_) ∧ w'.cell? ⟨w.heap.size, 1, none⟩ = some (.slice a.A1 a.n1 a.c1) ∧ w'.cell? ⟨w.heap.size, 2, none⟩ = some (.slice a.A2 a.n2 a.c2) ∧ w'.cell? ⟨w.heap.size + 1, 0, none⟩ = some (.int .i64 b.at_) ∧ w'.cell? ⟨w.heap.size + 1, 1, none⟩ = some (.slice b.A1 b.n1 b.c1) ∧ w'.cell? ⟨w.heap.size + 1, 2, none⟩ = some (.slice b.A2 b.n2 b.c2)) (first | exact HS.out _ (Ext.drew1 (Ext.refl _)) | (go_split_ands; exact HS.out _ (Ext.trans (Hid.out (by assumption)) hx0)) | (go_split_ands; exact HS.out _ (Ext.alloc (Hid.out (by assumption)) _)) | (go_split_ands; exact HS.out _ (Ext.realloc (Hid.out (by assumption)) (by omega))) | (go_split_ands; refine HS.out _ ?_; refine Ext.setCell (Ext.setCell (Ext.setCell (Hid.out (by assumption)) ?_ _) ?_ _) ?_ _; all_goals (dsimp only; omega)))
      (first | (go_at_call 135; refine (growth_any b _ ⟨by omega, by omega⟩).mono ?_; rintro e w1 ⟨rfl, hx0⟩; obtain ⟨hcc, hff⟩ := bcell hx0; have hzz := hx0.size_le; (try simp only [World.size_alloc, World.size_setCell, World.size_drew, World.heap_drewN] at hzz); (try have hzl := Nat.lt_of_succ_le hzz)) | (go_at_call 134; refine (shifted_any a _ _ (by omega) (by omega) (by simp only [Hv.growth]; omega) (by simp only [Hv.growth]; omega)).mono ?_; rintro e w1 ⟨rfl, hx0⟩; obtain ⟨hcc, hff⟩ := bcell hx0; have hzz := hx0.size_le; (try simp only [World.size_alloc, World.size_setCell, World.size_drew, World.heap_drewN] at hzz); (try have hzl := Nat.lt_of_succ_le hzz)))
    all_goals (go_split_ands; go_wp2_with fail; go_meet)
    all_goals first
      | exact ⟨_, by omega, Hid.out (by assumption), Blk.new' rfl, rfl, rfl⟩
      | (refine ⟨_, ?_, Hid.out (by assumption), hunk_set (new_at hx0), rfl, rfl⟩; omega)
      | (refine ⟨_, ?_, Hid.out (by assumption), hunk_set (Blk.ext hx0 (new_drew (by assumption))), rfl, rfl⟩; exact Nat.le_refl _)
  case rest =>
    obtain ⟨g, hg1, hx1, hbX, rfl, rfl⟩ := hcut
    have hx0 := hx1
    have hy := Ext.trans (a := w) EX hx0; clear hx; have hx := hy; clear hy; have hn0 := BB hx0 (w.heap.size); have hn1 := BB hx0 (w.heap.size + 1); have hn2 := BB hx0 (w.heap.size + 1 + 1); have hn3 := BB hx0 (w.heap.size + 1 + 1 + 1); (first | simp [↓heap_drew_at, ↓heap_drewN_at, ↓heap_alloc_at, ↓heap_set_at, ne_two, ne_three, ne_two_left, ne_three_left, ↓hb0.eq, hb0.lt, hb0.ne, ↓hb1.eq, hb1.lt, hb1.ne, ↓hb2.eq, hb2.lt, hb2.ne, ↓hb3.eq, hb3.lt, hb3.ne] at hn0 hn1 hn2 hn3 | simp [↓heap_drew_at, ↓heap_drewN_at, ↓heap_alloc_at, ↓heap_set_at, ne_two, ne_three, ne_two_left, ne_three_left] at hn0 hn1 hn2 hn3); (try clear hb0 hc0 hf0 hl0); (try clear hb1 hc1 hf1 hl1); (try clear hb2 hc2 hf2 hl2); (try clear hb3 hc3 hf3 hl3); have hb0 := Blk.mk hn0; clear hn0; obtain ⟨hc0, hf0, hl0⟩ := hb0.all; have hb1 := Blk.mk hn1; clear hn1; obtain ⟨hc1, hf1, hl1⟩ := hb1.all; have hb2 := Blk.mk hn2; clear hn2; obtain ⟨hc2, hf2, hl2⟩ := hb2.all; have hb3 := Blk.mk hn3; clear hn3; obtain ⟨hc3, hf3, hl3⟩ := hb3.all; (try clear hx0)
    have hcX := hbX.cell
    have hlX := hbX.lt
    by_cases hs : (a.shift (b.growth)).at_ ≤ 1099511627776
    · have hs2 : decide (a.at_ + b.growth ≤ 1099511627776) = true := decide_eq_true hs
      have hm := Hm.out
      rw [if_pos hs] at hm
      have HR := Lib.hid hm
      clear hm
      rw [hs2]
      clear hs hs2
      go_wp2_with (go_at_call 136; refine (both_any _ _ _ _).mono ?_; rintro e w1 ⟨rfl, hx0⟩; have hy := Ext.trans (a := w) EX hx0; clear hx; have hx := hy; clear hy; have hn0 := BB hx0 (w.heap.size); have hn1 := BB hx0 (w.heap.size + 1); have hn2 := BB hx0 (w.heap.size + 1 + 1); have hn3 := BB hx0 (w.heap.size + 1 + 1 + 1); (first | simp [↓heap_drew_at, ↓heap_drewN_at, ↓heap_alloc_at, ↓heap_set_at, ne_two, ne_three, ne_two_left, ne_three_left, ↓hb0.eq, hb0.lt, hb0.ne, ↓hb1.eq, hb1.lt, hb1.ne, ↓hb2.eq, hb2.lt, hb2.ne, ↓hb3.eq, hb3.lt, hb3.ne] at hn0 hn1 hn2 hn3 | simp [↓heap_drew_at, ↓heap_drewN_at, ↓heap_alloc_at, ↓heap_set_at, ne_two, ne_three, ne_two_left, ne_three_left] at hn0 hn1 hn2 hn3); (try clear hb0 hc0 hf0 hl0); (try clear hb1 hc1 hf1 hl1); (try clear hb2 hc2 hf2 hl2); (try clear hb3 hc3 hf3 hl3); have hb0 := Blk.mk hn0; clear hn0; obtain ⟨hc0, hf0, hl0⟩ := hb0.all; have hb1 := Blk.mk hn1; clear hn1; obtain ⟨hc1, hf1, hl1⟩ := hb1.all; have hb2 := Blk.mk hn2; clear hn2; obtain ⟨hc2, hf2, hl2⟩ := hb2.all; have hb3 := Blk.mk hn3; clear hn3; obtain ⟨hc3, hf3, hl3⟩ := hb3.all; (try clear hx0))
      rw [HR.out]
      (refine bodyPost_ret (v := .tuple #[b.v, (a.shift b.growth).v, .bool true]) ?_ rfl ?_; (focus (simp only [results, Tryz.results120]; go_simp; (try (simp [Hv.shift])); done)); refine Ret.mk rfl ?_; (focus (exact EX; done)))
    · have hs2 : decide (a.at_ + b.growth ≤ 1099511627776) = false := decide_eq_false hs
      have hm := Hm.out
      rw [if_neg hs] at hm
      have HR := Lib.hid hm
      clear hm
      rw [hs2]
      clear hs hs2
      go_wp2_with (go_at_call 136; refine (both_any _ _ _ _).mono ?_; rintro e w1 ⟨rfl, hx0⟩; have hy := Ext.trans (a := w) EX hx0; clear hx; have hx := hy; clear hy; have hn0 := BB hx0 (w.heap.size); have hn1 := BB hx0 (w.heap.size + 1); have hn2 := BB hx0 (w.heap.size + 1 + 1); have hn3 := BB hx0 (w.heap.size + 1 + 1 + 1); (first | simp [↓heap_drew_at, ↓heap_drewN_at, ↓heap_alloc_at, ↓heap_set_at, ne_two, ne_three, ne_two_left, ne_three_left, ↓hb0.eq, hb0.lt, hb0.ne, ↓hb1.eq, hb1.lt, hb1.ne, ↓hb2.eq, hb2.lt, hb2.ne, ↓hb3.eq, hb3.lt, hb3.ne] at hn0 hn1 hn2 hn3 | simp [↓heap_drew_at, ↓heap_drewN_at, ↓heap_alloc_at, ↓heap_set_at, ne_two, ne_three, ne_two_left, ne_three_left] at hn0 hn1 hn2 hn3); (try clear hb0 hc0 hf0 hl0); (try clear hb1 hc1 hf1 hl1); (try clear hb2 hc2 hf2 hl2); (try clear hb3 hc3 hf3 hl3); have hb0 := Blk.mk hn0; clear hn0; obtain ⟨hc0, hf0, hl0⟩ := hb0.all; have hb1 := Blk.mk hn1; clear hn1; obtain ⟨hc1, hf1, hl1⟩ := hb1.all; have hb2 := Blk.mk hn2; clear hn2; obtain ⟨hc2, hf2, hl2⟩ := hb2.all; have hb3 := Blk.mk hn3; clear hn3; obtain ⟨hc3, hf3, hl3⟩ := hb3.all; (try clear hx0))
      rw [HR.out]
      (refine bodyPost_ret (v := .tuple #[Hv.zero.v, Hv.zero.v, .bool false]) ?_ rfl ?_; (focus (simp only [results, Tryz.results120]; go_simp; (try (simp)); done)); refine Ret.mk rfl ?_; (focus (exact EX; done)))

theorem hcommute_any (a b : Hv) (w : World) (ha : a.fair) (hb : b.fair) :
    Calls Tryz.prog 120 #[a.v, b.v] w (Ret (.tuple #[(a.commute b).1.v, (a.commute b).2.1.v, .bool (a.commute b).2.2]) w) := by
  cases va : (a.check == 0)
  · exact hcommute_bad a b w ha hb (.inl va)
  cases vb : (b.check == 0)
  · exact hcommute_bad a b w ha hb (.inr vb)
  by_cases c1 : a.at_ + a.n2 < b.at_
  · exact hcommute_behind a b w ha hb va vb c1
  by_cases c2 : b.at_ + b.n1 < a.at_
  · exact hcommute_before a b w ha hb va vb c1 c2
  exact hcommute_else a b w ha hb va vb c1 c2
end Go.Proofs.YtfmgnaigcibcaaaGreatDoor
namespace Go.Proofs.YtfmgnaigcibcaaaGreatDoor
open Go.RowKit
attribute [local go_sem ↓] Go.wp_at_zero Go.wp_at_succ

set_option maxHeartbeats 8000000 in
set_option maxRecDepth 100000 in
theorem edInv_any (p : Pv) (o n : List ByteArray) (w : World) (h1 : Sl w p.A1 p.n1 p.c1 o) (h2 : Sl w p.A2 p.n2 p.c2 n) (b1 : p.n1 ≤ 4194304) (b2 : p.n2 ≤ 4194304) :
    Calls Tryz.prog 230 #[p.v] w (fun e w' => ∃ A1 c1 A2 c2, e = .returned (Pv.v ⟨p.kind, p.path, p.to_, p.ty, p.at_, A1, p.n2, c1, A2, p.n1, c2, p.off, p.sn, p.so, p.nm, p.om⟩) ∧ Sl w' A1 p.n2 c1 n ∧ Sl w' A2 p.n1 c2 o ∧ Hi w.heap.size A1 ∧ Hi w.heap.size A2 ∧ Ext w w') := by
  have H1 := Lib.hid h1
  have H2 := Lib.hid h2
  clear h1 h2
  go_enter Tryz.func230, Tryz.ntmps230
  have hx := Ext.refl w
  go_upto_region 2 with fail
  go_cut [] (fun wx => ∃ A1 c1 A2 c2, Hid ((Sl wx A1 p.n2 c1 n ∧ Sl wx A2 p.n1 c2 o ∧ Ext w wx) ∧ Hi (w.heap.size + 1 + 1 + 1) A1 ∧ Hi (w.heap.size + 1 + 1 + 1) A2) ∧ Blk wx (w.heap.size + 1) 28 #[.int .i64 0, .string ⟨#[]⟩, .string ⟨#[]⟩, .int .i64 0, .int .i64 0, .slice none 0 0, .slice none 0 0, .int .i64 0, .string ⟨#[]⟩, .string ⟨#[]⟩, .int .i64 0, .int .i64 0] ∧ Blk wx (w.heap.size + 1 + 1) 28 #[.int .i64 p.kind, .string p.path, .string p.to_, .int .i64 p.ty, .int .i64 p.at_, .slice A1 p.n2 c1, .slice A2 p.n1 c2, .int .i64 p.off, .string p.so, .string p.sn, .int .i64 p.om, .int .i64 p.nm])
  case first =>
    go_region_with (first
      | (go_at_call_of 234 (Value.slice p.A2 p.n2 p.c2); refine (sclone_any _ _ _ n _ (H2.out.ext EX) b2).mono ?_; rintro e w1 ⟨A1, c1, rfl, hs1, hi1, hx0⟩; (first | replace hi1 : Hi (w.heap.size + 1 + 1 + 1) A1 := hi1.le (by first | (simp; done) | (simp; omega))); have hy := Ext.trans (a := w) EX hx0; clear hx; have hx := hy; clear hy; have hn0 := BB hx0 (w.heap.size); have hn1 := BB hx0 (w.heap.size + 1); have hn2 := BB hx0 (w.heap.size + 1 + 1); (first | simp [↓heap_drew_at, ↓heap_drewN_at, ↓heap_alloc_at, ↓heap_set_at, ne_two, ne_three, ne_two_left, ne_three_left, ↓hb0.eq, hb0.lt, hb0.ne, ↓hb1.eq, hb1.lt, hb1.ne, ↓hb2.eq, hb2.lt, hb2.ne] at hn0 hn1 hn2 | simp [↓heap_drew_at, ↓heap_drewN_at, ↓heap_alloc_at, ↓heap_set_at, ne_two, ne_three, ne_two_left, ne_three_left] at hn0 hn1 hn2); (try clear hb0 hc0 hf0 hl0); (try clear hb1 hc1 hf1 hl1); (try clear hb2 hc2 hf2 hl2); have hb0 := Blk.mk hn0; clear hn0; obtain ⟨hc0, hf0, hl0⟩ := hb0.all; have hb1 := Blk.mk hn1; clear hn1; obtain ⟨hc1, hf1, hl1⟩ := hb1.all; have hb2 := Blk.mk hn2; clear hn2; obtain ⟨hc2, hf2, hl2⟩ := hb2.all; (try clear hx0); have Hs1 := Lib.hid hs1; clear hs1)
      | (go_at_call_of 234 (Value.slice p.A1 p.n1 p.c1); refine (sclone_any _ _ _ o _ (H1.out.ext EX) b1).mono ?_; rintro e w2 ⟨A2, c2, rfl, hs2, hi2, hx0⟩; (first | replace hi2 : Hi (w.heap.size + 1 + 1 + 1) A2 := hi2.le (by first | (simp; done) | (simp; omega) | omega)); have Hs3 := Lib.hid (Hs1.out.ext hx0); have hy := Ext.trans (a := w) EX hx0; clear hx; have hx := hy; clear hy; have hn0 := BB hx0 (w.heap.size); have hn1 := BB hx0 (w.heap.size + 1); have hn2 := BB hx0 (w.heap.size + 1 + 1); (first | simp [↓heap_drew_at, ↓heap_drewN_at, ↓heap_alloc_at, ↓heap_set_at, ne_two, ne_three, ne_two_left, ne_three_left, ↓hb0.eq, hb0.lt, hb0.ne, ↓hb1.eq, hb1.lt, hb1.ne, ↓hb2.eq, hb2.lt, hb2.ne] at hn0 hn1 hn2 | simp [↓heap_drew_at, ↓heap_drewN_at, ↓heap_alloc_at, ↓heap_set_at, ne_two, ne_three, ne_two_left, ne_three_left] at hn0 hn1 hn2); (try clear hb0 hc0 hf0 hl0); (try clear hb1 hc1 hf1 hl1); (try clear hb2 hc2 hf2 hl2); have hb0 := Blk.mk hn0; clear hn0; obtain ⟨hc0, hf0, hl0⟩ := hb0.all; have hb1 := Blk.mk hn1; clear hn1; obtain ⟨hc1, hf1, hl1⟩ := hb1.all; have hb2 := Blk.mk hn2; clear hn2; obtain ⟨hc2, hf2, hl2⟩ := hb2.all; (try clear hx0); have Hs2 := Lib.hid hs2; clear hs2))
    all_goals (go_wp2_with fail; go_meet)
    all_goals refine ⟨A1, c1, A2, c2, Lib.hid ⟨⟨((Hs3.out.set hi1 _).set hi1 _).set hi1 _, ((Hs2.out.set hi2 _).set hi2 _).set hi2 _, ?_⟩, hi1, hi2⟩, ?_, ?_⟩
    all_goals first
      | exact ((hb2.set_ 4 _).set_ 5 _).set_ 6 _
      | (refine ((hb1.far ?_ _).far ?_ _).far ?_ _ <;> (dsimp only; omega))
      | exact EX
  case rest =>
    obtain ⟨A1, c1, A2, c2, HX, hb1, hb2⟩ := hcut
    obtain ⟨hc1, hf1, hl1⟩ := hb1.all
    obtain ⟨hc2, hf2, hl2⟩ := hb2.all
    clear H1 H2 hx
    go_wp2_with fail
    refine bodyPost_ret (v := Pv.v ⟨p.kind, p.path, p.to_, p.ty, p.at_, A1, p.n2, c1, A2, p.n1, c2, p.off, p.sn, p.so, p.nm, p.om⟩) ?_ rfl ?_
    · simp only [results, Tryz.results230]
      go_simp
    · obtain ⟨⟨hs1, hs2, hx⟩, hi1, hi2⟩ := HX.out
      have hj1 := hi1.le (Nat.le_succ (w.heap.size + 1 + 1))
      have hj2 := hi2.le (Nat.le_succ (w.heap.size + 1 + 1))
      refine ⟨A1, c1, A2, c2, rfl, ?_, ?_, hi1.le (by omega), hi2.le (by omega), ?_⟩
      · repeat (first | with_reducible exact hs1 | with_reducible refine Sl.set ?_ hi1 _ | with_reducible refine Sl.set ?_ hj1 _)
      · repeat (first | with_reducible exact hs2 | with_reducible refine Sl.set ?_ hi2 _ | with_reducible refine Sl.set ?_ hj2 _)
      · have le1 : w.heap.size ≤ w.heap.size + 1 := Nat.le_succ _
        have le2 : w.heap.size ≤ w.heap.size + 1 + 1 := Nat.le_trans le1 (Nat.le_succ _)
        repeat (first | with_reducible exact hx | refine Ext.setCell ?_ le1 _ | refine Ext.setCell ?_ le2 _)
end Go.Proofs.YtfmgnaigcibcaaaGreatDoor
namespace Go.Proofs.YtfmgnaigcibcaaaGreatDoor
open Go.RowKit

/-- A patch with the lists that it holds. -/
structure Qp where
  kind : Int
  path : ByteArray
  to_ : ByteArray
  ty : Int
  at_ : Int
  old : List ByteArray
  new : List ByteArray
  off : Int
  so : ByteArray
  sn : ByteArray
  om : Int
  nm : Int
abbrev Qp.pv (q : Qp) (A1 : Option Addr) (c1 : Nat) (A2 : Option Addr) (c2 : Nat) : Pv :=
  ⟨q.kind, q.path, q.to_, q.ty, q.at_, A1, q.old.length, c1, A2, q.new.length, c2, q.off, q.so, q.sn, q.om, q.nm⟩
/-- Where a list that is not empty lies: F tells the blocks. -/
def Fp (F : Nat → Prop) (A : Option Addr) (n : Nat) : Prop := 0 < n → ∀ a, A = some a → F a.block
theorem Fp.mono {F G : Nat → Prop} {A : Option Addr} {n : Nat} (h : Fp F A n) (hg : ∀ b, F b → G b) : Fp G A n := fun hn a ha => hg _ (h hn a ha)
theorem Hi.fp {B : Nat} {A : Option Addr} (h : Hi B A) (n : Nat) : Fp (fun b => B ≤ b) A n := fun _ a ha => h a ha
theorem Sl.put {w : World} {A : Option Addr} {n c g k : Nat} {F : Nat → Prop} {l : List ByteArray} (h : Sl w A n c l) (hf : Fp F A n) (hg : ¬ F g) (u : Value) : Sl (w.setCell ⟨g, k, none⟩ u) A n c l := by
  refine ⟨⟨h.1.1, fun hn => ?_⟩, h.2⟩
  obtain ⟨b, o, hA, hb, hc⟩ := h.1.2 hn
  have hne : b ≠ g := by
    rintro rfl
    exact hg (hf hn _ hA)
  refine ⟨b, o, hA, by simpa using hb, fun j hj => ?_⟩
  rw [← hc j hj]
  exact World.cell?_of_block (Below.heap_setCell w ⟨g, k, none⟩ u b hne)
/-- In world w the patch p reads as q; its lists lie in blocks of F. -/
def Is (w : World) (F : Nat → Prop) (p : Pv) (q : Qp) : Prop := ∃ A1 c1 A2 c2, p = q.pv A1 c1 A2 c2 ∧ (Sl w A1 q.old.length c1 q.old ∧ Sl w A2 q.new.length c2 q.new) ∧ Fp F A1 q.old.length ∧ Fp F A2 q.new.length
theorem Is.ext {w w' : World} {F : Nat → Prop} {p : Pv} {q : Qp} (h : Is w F p q) (hx : Ext w w') : Is w' F p q := by
  obtain ⟨A1, c1, A2, c2, e, ⟨h1, h2⟩, h3⟩ := h
  exact ⟨A1, c1, A2, c2, e, ⟨h1.ext hx, h2.ext hx⟩, h3⟩
theorem Is.mono {w : World} {F G : Nat → Prop} {p : Pv} {q : Qp} (h : Is w F p q) (hg : ∀ b, F b → G b) : Is w G p q := by
  obtain ⟨A1, c1, A2, c2, e, h1, h3, h4⟩ := h
  exact ⟨A1, c1, A2, c2, e, h1, h3.mono hg, h4.mono hg⟩
theorem Is.put {w : World} {F : Nat → Prop} {p : Pv} {q : Qp} {g k : Nat} (h : Is w F p q) (hg : ¬ F g) (u : Value) : Is (w.setCell ⟨g, k, none⟩ u) F p q := by
  obtain ⟨A1, c1, A2, c2, e, ⟨h1, h2⟩, h3, h4⟩ := h
  exact ⟨A1, c1, A2, c2, e, ⟨h1.put h3 hg u, h2.put h4 hg u⟩, h3, h4⟩
theorem Is.alloc {w : World} {F : Nat → Prop} {p : Pv} {q : Qp} (h : Is w F p q) (o : Obj) : Is (w.alloc o) F p q := h.ext ((Ext.refl w).alloc o)
theorem Is.drew {w : World} {F : Nat → Prop} {p : Pv} {q : Qp} (h : Is w F p q) : Is w.drew F p q := h.ext (Ext.refl w).drew1
theorem Is.drewN {w : World} {F : Nat → Prop} {p : Pv} {q : Qp} (h : Is w F p q) (n : Nat) : Is (w.drewN n) F p q := h.ext ((Ext.refl w).drewN n)
theorem Is.in {w : World} {F : Nat → Prop} {p : Pv} {q : Qp} (h : Is w F p q) : Is w (fun b => F b ∧ b < w.heap.size) p q := by
  obtain ⟨A1, c1, A2, c2, e, ⟨h1, h2⟩, h3, h4⟩ := h
  refine ⟨A1, c1, A2, c2, e, ⟨h1, h2⟩, fun hn a ha => ⟨h3 hn a ha, ?_⟩, fun hn a ha => ⟨h4 hn a ha, ?_⟩⟩
  · obtain ⟨b, o, hA, hb, _⟩ := h1.1.2 hn
    rw [ha] at hA
    cases hA
    exact hb
  · obtain ⟨b, o, hA, hb, _⟩ := h2.1.2 hn
    rw [ha] at hA
    cases hA
    exact hb
def Qp.zero : Qp := ⟨0, ⟨#[]⟩, ⟨#[]⟩, 0, 0, [], [], 0, ⟨#[]⟩, ⟨#[]⟩, 0, 0⟩
theorem Sl.none (w : World) : Sl w .none 0 0 [] := ⟨Lst.nil w _, fun _ => ⟨rfl, rfl⟩⟩
theorem Is.none (w : World) (F : Nat → Prop) (q : Qp) (h1 : q.old = []) (h2 : q.new = []) : Is w F (q.pv .none 0 .none 0) q :=
  ⟨.none, 0, .none, 0, rfl, ⟨by rw [h1]; exact Sl.none w, by rw [h2]; exact Sl.none w⟩, (fun _ a ha => nomatch ha), (fun _ a ha => nomatch ha)⟩
/-- primpatch.Check. -/
def Qp.check (q : Qp) : Int := (q.pv none 0 none 0).check q.old q.new
/-- The inverse of a valid patch. -/
def Qp.inv (q : Qp) : Qp :=
  if q.kind = 1 then { Qp.zero with kind := 2, path := q.path, ty := q.ty, om := q.nm, so := q.sn }
  else if q.kind = 3 then { Qp.zero with kind := 4, path := q.path }
  else if q.kind = 2 then { Qp.zero with kind := 1, path := q.path, ty := q.ty, nm := q.om, sn := q.so }
  else if q.kind = 4 then { Qp.zero with kind := 3, path := q.path }
  else if q.kind = 5 then { Qp.zero with kind := 5, path := q.to_, to_ := q.path }
  else { q with old := q.new, new := q.old, so := q.sn, sn := q.so, om := q.nm, nm := q.om }

theorem tidy_pv (q : Qp) (A1 : Option Addr) (c1 : Nat) (A2 : Option Addr) (c2 : Nat) : (q.pv A1 c1 A2 c2).tidy = (q.pv none 0 none 0).tidy := by
  unfold Pv.tidy Pv.strip
  by_cases k1 : q.kind = 1
  · simp [k1, Pv.bare]
  by_cases k2 : q.kind = 2
  · simp [k2, Pv.bare]
  by_cases k5 : q.kind = 5
  · simp [k5, Pv.bare]
  by_cases k6 : q.kind = 6
  · simp [k6, Pv.bare]
  by_cases k7 : q.kind = 7
  · simp [k7, Pv.bare]
  by_cases k8 : q.kind = 8
  · simp [k8, Pv.bare]
  simp [k1, k2, k5, k6, k7, k8, Pv.bare]
theorem check_pv (q : Qp) (A1 : Option Addr) (c1 : Nat) (A2 : Option Addr) (c2 : Nat) : (q.pv A1 c1 A2 c2).check q.old q.new = q.check := by
  unfold Qp.check Pv.check
  rw [tidy_pv]
  rfl
theorem check_q (p : Pv) (q : Qp) (w : World) (hg : Glob w) {F : Nat → Prop} (h : Is w F p q) (b1 : q.old.length ≤ 1152921504606846976) (b2 : q.new.length ≤ 1152921504606846976) (b3 : q.path.size ≤ 1152921504606846976) (b4 : q.to_.size ≤ 1152921504606846976) :
    Calls Tryz.prog 38 #[p.v] w (Ret (.int .i64 q.check) w) := by
  obtain ⟨A1, c1, A2, c2, rfl, ⟨h1, h2⟩, _⟩ := h
  rw [← check_pv q A1 c1 A2 c2]
  exact check_any (q.pv A1 c1 A2 c2) q.old q.new w hg h1 h2 b1 b2 b3 b4

/-- A valid patch is small. -/
theorem Qp.small {q : Qp} (h : q.check = 0) : 1 ≤ q.kind ∧ q.kind ≤ 8 ∧ q.old.length ≤ 2000 ∧ q.new.length ≤ 2000 := by
  unfold Qp.check Pv.check at h
  cases hk : (q.pv none 0 none 0).known
  · rw [if_pos hk] at h; cases h
  rw [if_neg (by rw [hk]; exact Bool.noConfusion)] at h
  cases ht : (q.pv none 0 none 0).tidy
  · rw [if_pos ht] at h; cases h
  rw [if_neg (by rw [ht]; exact Bool.noConfusion)] at h
  cases hp : (q.pv none 0 none 0).pathsOk
  · rw [if_pos hp] at h; cases h
  rw [if_neg (by rw [hp]; exact Bool.noConfusion)] at h
  have hk2 : 1 ≤ q.kind ∧ q.kind ≤ 8 := by simpa [Pv.known] using hk
  refine ⟨hk2.1, hk2.2, ?_⟩
  by_cases h6 : q.kind = 6
  · simp only [Pv.actCheck, Pv.edCheck6, h6] at h
    simp at h
    simp only [Pv.linesCheck] at h
    split at h
    · exfalso; simp_all
    · split at h
      · cases h
      · omega
  · have hs : (q.pv none 0 none 0).strip.n1 = q.old.length ∧ (q.pv none 0 none 0).strip.n2 = q.new.length := by
      unfold Pv.strip
      repeat' split
      all_goals first | exact ⟨rfl, rfl⟩ | (exfalso; omega)
    unfold Pv.tidy Pv.bare at ht
    simp only [Bool.and_eq_true] at ht
    have h0 := ht.1.1.1.1.1.2
    rw [hs.1, hs.2] at h0
    simp at h0
    omega
end Go.Proofs.YtfmgnaigcibcaaaGreatDoor
