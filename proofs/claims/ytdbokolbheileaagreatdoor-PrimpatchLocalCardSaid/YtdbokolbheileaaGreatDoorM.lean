/- Walks: the inverse of an edit. A patch and the lists that it holds. -/
import Derived.Test.YtdbokolbheileaaGreatDoorJ
import Derived.Test.YtdbokolbheileaaGreatDoorD4
set_option linter.unusedSimpArgs false
set_option linter.unusedVariables false
namespace Go.Proofs.YtdbokolbheileaaGreatDoor
open Go.RowKit
attribute [local go_sem ↓] Go.wp_at_zero Go.wp_at_succ

set_option maxHeartbeats 8000000 in
set_option maxRecDepth 100000 in
theorem edInv_any (p : Pv) (o n : List ByteArray) (w : World) (h1 : Sl w p.A1 p.n1 p.c1 o) (h2 : Sl w p.A2 p.n2 p.c2 n) (b1 : p.n1 ≤ 4194304) (b2 : p.n2 ≤ 4194304) :
    Calls Tryz.prog 161 #[p.v] w (fun e w' => ∃ A1 c1 A2 c2, e = .returned (Pv.v ⟨p.kind, p.path, p.to_, p.ty, p.at_, A1, p.n2, c1, A2, p.n1, c2, p.off, p.sn, p.so, p.nm, p.om⟩) ∧ Sl w' A1 p.n2 c1 n ∧ Sl w' A2 p.n1 c2 o ∧ Hi w.heap.size A1 ∧ Hi w.heap.size A2 ∧ Ext w w') := by
  have H1 := Lib.hid h1
  have H2 := Lib.hid h2
  clear h1 h2
  go_enter Tryz.func161, Tryz.ntmps161
  have hx := Ext.refl w
  go_upto_region 2 with fail
  go_cut [] (fun wx => ∃ A1 c1 A2 c2, Hid ((Sl wx A1 p.n2 c1 n ∧ Sl wx A2 p.n1 c2 o ∧ Ext w wx) ∧ Hi (w.heap.size + 1 + 1 + 1) A1 ∧ Hi (w.heap.size + 1 + 1 + 1) A2) ∧ Blk wx (w.heap.size + 1) 37 #[.int .i64 0, .string ⟨#[]⟩, .string ⟨#[]⟩, .int .i64 0, .int .i64 0, .slice none 0 0, .slice none 0 0, .int .i64 0, .string ⟨#[]⟩, .string ⟨#[]⟩, .int .i64 0, .int .i64 0] ∧ Blk wx (w.heap.size + 1 + 1) 37 #[.int .i64 p.kind, .string p.path, .string p.to_, .int .i64 p.ty, .int .i64 p.at_, .slice A1 p.n2 c1, .slice A2 p.n1 c2, .int .i64 p.off, .string p.so, .string p.sn, .int .i64 p.om, .int .i64 p.nm])
  case first =>
    go_region_with (first
      | (go_at_call_of 165 (Value.slice p.A2 p.n2 p.c2); refine (sclone_any _ _ _ n _ (H2.out.ext EX) b2).mono ?_; rintro e w1 ⟨A1, c1, rfl, hs1, hi1, hx0⟩; (first | replace hi1 : Hi (w.heap.size + 1 + 1 + 1) A1 := hi1.le (by first | (simp; done) | (simp; omega))); have hy := Ext.trans (a := w) EX hx0; clear hx; have hx := hy; clear hy; have hn0 := BB hx0 (w.heap.size); have hn1 := BB hx0 (w.heap.size + 1); have hn2 := BB hx0 (w.heap.size + 1 + 1); (first | simp [↓heap_drew_at, ↓heap_drewN_at, ↓heap_alloc_at, ↓heap_set_at, ne_two, ne_three, ne_two_left, ne_three_left, ↓hb0.eq, hb0.lt, hb0.ne, ↓hb1.eq, hb1.lt, hb1.ne, ↓hb2.eq, hb2.lt, hb2.ne] at hn0 hn1 hn2 | simp [↓heap_drew_at, ↓heap_drewN_at, ↓heap_alloc_at, ↓heap_set_at, ne_two, ne_three, ne_two_left, ne_three_left] at hn0 hn1 hn2); (try clear hb0 hc0 hf0 hl0); (try clear hb1 hc1 hf1 hl1); (try clear hb2 hc2 hf2 hl2); have hb0 := Blk.mk hn0; clear hn0; obtain ⟨hc0, hf0, hl0⟩ := hb0.all; have hb1 := Blk.mk hn1; clear hn1; obtain ⟨hc1, hf1, hl1⟩ := hb1.all; have hb2 := Blk.mk hn2; clear hn2; obtain ⟨hc2, hf2, hl2⟩ := hb2.all; (try clear hx0); have Hs1 := Lib.hid hs1; clear hs1)
      | (go_at_call_of 165 (Value.slice p.A1 p.n1 p.c1); refine (sclone_any _ _ _ o _ (H1.out.ext EX) b1).mono ?_; rintro e w2 ⟨A2, c2, rfl, hs2, hi2, hx0⟩; (first | replace hi2 : Hi (w.heap.size + 1 + 1 + 1) A2 := hi2.le (by first | (simp; done) | (simp; omega) | omega)); have Hs3 := Lib.hid (Hs1.out.ext hx0); have hy := Ext.trans (a := w) EX hx0; clear hx; have hx := hy; clear hy; have hn0 := BB hx0 (w.heap.size); have hn1 := BB hx0 (w.heap.size + 1); have hn2 := BB hx0 (w.heap.size + 1 + 1); (first | simp [↓heap_drew_at, ↓heap_drewN_at, ↓heap_alloc_at, ↓heap_set_at, ne_two, ne_three, ne_two_left, ne_three_left, ↓hb0.eq, hb0.lt, hb0.ne, ↓hb1.eq, hb1.lt, hb1.ne, ↓hb2.eq, hb2.lt, hb2.ne] at hn0 hn1 hn2 | simp [↓heap_drew_at, ↓heap_drewN_at, ↓heap_alloc_at, ↓heap_set_at, ne_two, ne_three, ne_two_left, ne_three_left] at hn0 hn1 hn2); (try clear hb0 hc0 hf0 hl0); (try clear hb1 hc1 hf1 hl1); (try clear hb2 hc2 hf2 hl2); have hb0 := Blk.mk hn0; clear hn0; obtain ⟨hc0, hf0, hl0⟩ := hb0.all; have hb1 := Blk.mk hn1; clear hn1; obtain ⟨hc1, hf1, hl1⟩ := hb1.all; have hb2 := Blk.mk hn2; clear hn2; obtain ⟨hc2, hf2, hl2⟩ := hb2.all; (try clear hx0); have Hs2 := Lib.hid hs2; clear hs2))
    all_goals (go_wp2_with fail; go_meet)
    all_goals refine ⟨A1, c1, A2, c2, Lib.hid ⟨⟨((Hs3.out.set hi1 _).set hi1 _).set hi1 _, ((Hs2.out.set hi2 _).set hi2 _).set hi2 _, ?_⟩, hi1, hi2⟩, ?_, ?_⟩
    all_goals first
      | exact ((hb2.set_ 4 _).set_ 5 _).set_ 6 _
      | (refine ((hb1.far ?_ _).far ?_ _).far ?_ _ <;> (dsimp only; omega))
      | exact EX
  case rest =>
    obtain ⟨A1, c1, A2, c2, HX, hb1, hb2⟩ := hcut
    obtain ⟨hc1, hf1, hl1⟩ := hb1.all
    obtain ⟨hc2, hf2, hl2⟩ := hb2.all
    clear H1 H2 hx
    go_wp2_with fail
    refine bodyPost_ret (v := Pv.v ⟨p.kind, p.path, p.to_, p.ty, p.at_, A1, p.n2, c1, A2, p.n1, c2, p.off, p.sn, p.so, p.nm, p.om⟩) ?_ rfl ?_
    · simp only [results, Tryz.results161]
      go_simp
    · obtain ⟨⟨hs1, hs2, hx⟩, hi1, hi2⟩ := HX.out
      have hj1 := hi1.le (Nat.le_succ (w.heap.size + 1 + 1))
      have hj2 := hi2.le (Nat.le_succ (w.heap.size + 1 + 1))
      refine ⟨A1, c1, A2, c2, rfl, ?_, ?_, hi1.le (by omega), hi2.le (by omega), ?_⟩
      · repeat (first | with_reducible exact hs1 | with_reducible refine Sl.set ?_ hi1 _ | with_reducible refine Sl.set ?_ hj1 _)
      · repeat (first | with_reducible exact hs2 | with_reducible refine Sl.set ?_ hi2 _ | with_reducible refine Sl.set ?_ hj2 _)
      · have le1 : w.heap.size ≤ w.heap.size + 1 := Nat.le_succ _
        have le2 : w.heap.size ≤ w.heap.size + 1 + 1 := Nat.le_trans le1 (Nat.le_succ _)
        repeat (first | with_reducible exact hx | refine Ext.setCell ?_ le1 _ | refine Ext.setCell ?_ le2 _)
end Go.Proofs.YtdbokolbheileaaGreatDoor
