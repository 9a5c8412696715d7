import Derived.Test.YtfmgnaigcibcaaaGreatDoorTBase
import Derived.Test.YtfmgnaigcibcaaaGreatDoorShelf
set_option linter.unusedSimpArgs false
set_option linter.unusedVariables false
namespace Go.Proofs.YtfmgnaigcibcaaaGreatDoor
open Go.RowKit
set_option maxHeartbeats 400000 in
theorem below_any (s t:ByteArray) (w:World) (ht:t.size≤4611686018427387904):
 Calls Tryz.prog 118 #[.string s,.string t] w (Ret (.bool (Qm.below s t)) w):=by
 go_enter Tryz.func118,Tryz.ntmps118
 go_wp2_with (go_at_call 132;refine (Tryz.strings_HasPrefix _ _ _).mono ?_;rintro e w1 ⟨rfl,rfl⟩)
 go_ret
 exact Ret.mk rfl (Ext.refl _)
set_option maxHeartbeats 400000 in
theorem within_any (s t:ByteArray) (w:World) (ht:t.size≤4611686018427387904):
 Calls Tryz.prog 142 #[.string s,.string t] w (Ret (.bool (Qm.within s t)) w):=by
 go_enter Tryz.func142,Tryz.ntmps142
 go_wp2_with (go_at_call 118;refine (below_any _ _ _ ht).mono ?_;rintro e w1 ⟨rfl,hx⟩)
 ·rename_i h
  go_ret
  exact Ret.mk (by simp [Qm.within,Qm.eqB,h]) (Ext.refl _)
 ·rename_i h
  go_ret
  exact Ret.mk (by simp [Qm.within,Qm.eqB,h]) hx
set_option maxHeartbeats 400000 in
theorem adds_any (p:Pv) (w:World):
 Calls Tryz.prog 119 #[p.v] w (Ret (.bool (Qm.adds p.kind)) w):=by
 go_enter Tryz.func119,Tryz.ntmps119
 go_wp2
 all_goals go_ret
 all_goals exact Ret.mk (by simp [Qm.adds, *]) ((Ext.refl w).alloc _)
set_option maxHeartbeats 400000 in
theorem frees_any (p:Pv) (w:World):
 Calls Tryz.prog 117 #[p.v] w (Ret (.bool (Qm.frees p.kind)) w):=by
 go_enter Tryz.func117,Tryz.ntmps117
 go_wp2
 all_goals go_ret
 all_goals exact Ret.mk (by simp [Qm.frees, *]) ((Ext.refl w).alloc _)
set_option maxHeartbeats 400000 in
theorem newPath_any (p:Pv) (w:World):
 Calls Tryz.prog 116 #[p.v] w (Ret (.tuple #[.string (Qm.newPath p.kind p.path p.to_).1,.bool (Qm.newPath p.kind p.path p.to_).2]) w):=by
 go_enter Tryz.func116,Tryz.ntmps116
 have hx:=Ext.refl w
 cases ha:Qm.adds p.kind
 all_goals
  have Ha:=Lib.hid ha;clear ha
  go_wp2_with (go_at_call 119;refine (adds_any p _).mono ?_;rintro e w1 ⟨rfl,hx0⟩;have hy:=Ext.trans (a:=w) EX hx0;clear hx;have hx:=hy;clear hy;have hn0:=BB hx0 (w.heap.size);(first | simp [↓heap_drew_at,↓heap_drewN_at,↓heap_alloc_at,↓heap_set_at,ne_two,ne_three,ne_two_left,ne_three_left,↓hb0.eq,hb0.lt,hb0.ne] at hn0 | simp [↓heap_drew_at,↓heap_drewN_at,↓heap_alloc_at,↓heap_set_at,ne_two,ne_three,ne_two_left,ne_three_left] at hn0);(try clear hb0 hc0 hf0 hl0);have hb0:=Blk.mk hn0;clear hn0;obtain ⟨hc0,hf0,hl0⟩:=hb0.all;(try clear hx0);rw [Ha.out])
 ·go_quiet (fail)
  go_wp2
  go_ret2
  exact Ret.mk (by simp [Qm.newPath,Ha.out]) EX
 ·go_ret2
  exact Ret.mk (by simp [Qm.newPath,Ha.out]) EX
set_option maxHeartbeats 1000000 in
theorem after_any (p:Pv) (s:ByteArray) (w:World) (h1:p.path.size≤1152921504606846976) (h2:p.to_.size≤1152921504606846976) (hs:s.size≤1152921504606846976):
 Calls Tryz.prog 131 #[p.v,.string s] w (Ret (.tuple #[.string (Qm.after p.kind p.path p.to_ s).1,.bool (Qm.after p.kind p.path p.to_ s).2]) w):=by
 go_enter Tryz.func131,Tryz.ntmps131
 have hx:=Ext.refl w
 go_wp2_with (first
  | (go_at_call 142;refine (within_any _ _ _ (by omega)).mono ?_;rintro e w1 ⟨rfl,hx0⟩;have hy:=Ext.trans (a:=w) EX hx0;clear hx;have hx:=hy;clear hy;have hn0:=BB hx0 (w.heap.size);(first | simp [↓heap_drew_at,↓heap_drewN_at,↓heap_alloc_at,↓heap_set_at,ne_two,ne_three,ne_two_left,ne_three_left,↓hb0.eq,hb0.lt,hb0.ne] at hn0 | simp [↓heap_drew_at,↓heap_drewN_at,↓heap_alloc_at,↓heap_set_at,ne_two,ne_three,ne_two_left,ne_three_left] at hn0);(try clear hb0 hc0 hf0 hl0);have hb0:=Blk.mk hn0;clear hn0;obtain ⟨hc0,hf0,hl0⟩:=hb0.all;(try clear hx0))
  | (go_at_call 118;refine (below_any _ _ _ (by omega)).mono ?_;rintro e w1 ⟨rfl,hx0⟩;have hy:=Ext.trans (a:=w) EX hx0;clear hx;have hx:=hy;clear hy;have hn0:=BB hx0 (w.heap.size);(first | simp [↓heap_drew_at,↓heap_drewN_at,↓heap_alloc_at,↓heap_set_at,ne_two,ne_three,ne_two_left,ne_three_left,↓hb0.eq,hb0.lt,hb0.ne] at hn0 | simp [↓heap_drew_at,↓heap_drewN_at,↓heap_alloc_at,↓heap_set_at,ne_two,ne_three,ne_two_left,ne_three_left] at hn0);(try clear hb0 hc0 hf0 hl0);have hb0:=Blk.mk hn0;clear hn0;obtain ⟨hc0,hf0,hl0⟩:=hb0.all;(try clear hx0)))
 all_goals first
  | (go_ret2;exact Ret.mk (by simp [Qm.after, *]) EX)
  | skip
 have hle:=Qm.size_of_within (by assumption:Qm.within s p.path=true)
 go_quiet (fail)
 go_wp2
 go_ret2
 exact Ret.mk (by simp [Qm.after, *]) EX
set_option maxHeartbeats 1000000 in
set_option maxRecDepth 100000 in
theorem newAfter_any (p:Pv) (s:ByteArray) (w:World) (h1:p.path.size≤1152921504606846976) (h2:p.to_.size≤1152921504606846976) (hs:s.size≤1152921504606846976):
 Calls Tryz.prog 130 #[p.v,.string s] w (Ret (.tuple #[.string (Qm.newAfter p.kind p.path p.to_ s).1,.bool (Qm.newAfter p.kind p.path p.to_ s).2]) w):=by
 go_enter Tryz.func130,Tryz.ntmps130
 have hx:=Ext.refl w
 go_wp2_with (first
  | (go_at_call 118;refine (below_any _ _ _ (by omega)).mono ?_;rintro e w1 ⟨rfl,hx0⟩;have hy:=Ext.trans (a:=w) EX hx0;clear hx;have hx:=hy;clear hy;have hn0:=BB hx0 (w.heap.size);(first | simp [↓heap_drew_at,↓heap_drewN_at,↓heap_alloc_at,↓heap_set_at,ne_two,ne_three,ne_two_left,ne_three_left,↓hb0.eq,hb0.lt,hb0.ne] at hn0 | simp [↓heap_drew_at,↓heap_drewN_at,↓heap_alloc_at,↓heap_set_at,ne_two,ne_three,ne_two_left,ne_three_left] at hn0);(try clear hb0 hc0 hf0 hl0);have hb0:=Blk.mk hn0;clear hn0;obtain ⟨hc0,hf0,hl0⟩:=hb0.all;(try clear hx0))
  | (go_at_call 104;refine (Tryz.strings_LastIndexByte _ _ (by omega) _).mono ?_;rintro e w1 ⟨rfl,rfl⟩))
 all_goals first
  | (go_ret2;refine Ret.mk ?_ ?_;(focus (simp [Qm.newAfter, *];done));(focus (exact EX;done)))
  | (go_ret2;refine Ret.mk ?_ ?_;(focus (have hk:¬ 6≤p.kind:=(by omega);simp [Qm.newAfter,hk, *];done));(focus (exact EX;done)))
  | skip
 all_goals
  have hlt:=Qm.lastIndex_lt s
  have h0:0≤Lib.lastIndexByte s 47:=by assumption
  obtain ⟨i,hi⟩:=Int.eq_ofNat_of_zero_le h0
  have Hi:=Lib.hid hi
  rw [hi] at hlt h0 ⊢
  clear hi
  have hle1:(i:Int)≤s.size:=by omega
  have hle2:i≤s.size:=by omega
  have hle3:i < s.size:=by omega
  refine wp_region_ext (by kernel_rfl) (by kernel_rfl) ?_
  repeat (first | go_big_quiet_skip | (go_big_quiet_want;first | (go_big_quiet_op;go_big_quiet_on) | (apply quiet_at;intro W hW;have hxW:=Ext.trans (a:=w) EX hW;have hn0:=BB hW (w.heap.size);(first | simp [↓heap_drew_at,↓heap_drewN_at,↓heap_alloc_at,↓heap_set_at,ne_two,ne_three,ne_two_left,ne_three_left,↓hb0.eq,hb0.lt,hb0.ne] at hn0 | simp [↓heap_drew_at,↓heap_drewN_at,↓heap_alloc_at,↓heap_set_at,ne_two,ne_three,ne_two_left,ne_three_left] at hn0);(try clear hb0 hc0 hf0 hl0);have hb0:=Blk.mk hn0;clear hn0;obtain ⟨hc0,hf0,hl0⟩:=hb0.all;go_simp;(first | exact rfl | (simp only [Oper.quietUpon,true_and];first | exact rfl | (go_at_call 131;exact quiet_call hW (after_any p _ _ h1 h2 (by simp only [ByteArray.size_extract];omega)) (fun _ _ h=>h))) | (go_at_call 131;exact quiet_call hW (after_any p _ _ h1 h2 (by simp only [ByteArray.size_extract];omega)) (fun _ _ h=>h)));go_big_quiet_on;simp only [Act.put,sA,s0,sS])))
  refine wpQuiet_nil ?_
  intro w1 hx0
  have hy:=Ext.trans (a:=w) EX hx0;clear hx;have hx:=hy;clear hy;have hn0:=BB hx0 (w.heap.size);(first | simp [↓heap_drew_at,↓heap_drewN_at,↓heap_alloc_at,↓heap_set_at,ne_two,ne_three,ne_two_left,ne_three_left,↓hb0.eq,hb0.lt,hb0.ne] at hn0 | simp [↓heap_drew_at,↓heap_drewN_at,↓heap_alloc_at,↓heap_set_at,ne_two,ne_three,ne_two_left,ne_three_left] at hn0);(try clear hb0 hc0 hf0 hl0);have hb0:=Blk.mk hn0;clear hn0;obtain ⟨hc0,hf0,hl0⟩:=hb0.all;(try clear hx0)
  have hle:=Qm.after_size p.kind p.path p.to_ (s.extract 0 i)
  simp only [ByteArray.size_extract] at hle
  go_wp2
  have hn:¬ ((i:Int) < 0):=by omega
  first
   | (go_ret2;refine Ret.mk ?_ ?_;(focus (simp [Qm.newAfter,Hi.out,hn, *];done));(focus (exact EX;done)))
   | (go_ret2;refine Ret.mk ?_ ?_;(focus (have hk:¬ 6≤p.kind:=(by omega);simp [Qm.newAfter,Hi.out,hn,hk, *];done));(focus (exact EX;done)))
end Go.Proofs.YtfmgnaigcibcaaaGreatDoor
namespace Go.Proofs.YtfmgnaigcibcaaaGreatDoor
open Go.RowKit
set_option maxHeartbeats 2000000 in
set_option maxRecDepth 100000 in
theorem through_any (p q:Pv) (w:World) (h1:p.path.size≤1152921504606846976) (h2:p.to_.size≤1152921504606846976) (h3:q.path.size≤1152921504606846976) (h4:q.to_.size≤1152921504606846976):
 Calls Tryz.prog 113 #[p.v,q.v] w (Ret (.tuple #[(Pv.through p q).1.v,.bool (Pv.through p q).2]) w):=by
 go_enter Tryz.func113,Tryz.ntmps113
 have hx:=Ext.refl w
 cases ha:Qm.adds p.kind
 all_goals
  have Ha:=Lib.hid ha;clear ha
  cases hk:(p.kind == 5)
 all_goals
  go_wp2_with (first
   | (go_at_call 119;refine (adds_any p _).mono ?_;rintro e w1 ⟨rfl,hx0⟩;have hy:=Ext.trans (a:=w) EX hx0;clear hx;have hx:=hy;clear hy;have hn0:=BB hx0 (w.heap.size);have hn1:=BB hx0 (w.heap.size+1);have hn2:=BB hx0 (w.heap.size+1+1);(first | simp [↓heap_drew_at,↓heap_drewN_at,↓heap_alloc_at,↓heap_set_at,ne_two,ne_three,ne_two_left,ne_three_left,↓hb0.eq,hb0.lt,hb0.ne,↓hb1.eq,hb1.lt,hb1.ne,↓hb2.eq,hb2.lt,hb2.ne] at hn0 hn1 hn2 | simp [↓heap_drew_at,↓heap_drewN_at,↓heap_alloc_at,↓heap_set_at,ne_two,ne_three,ne_two_left,ne_three_left] at hn0 hn1 hn2);(try clear hb0 hc0 hf0 hl0);(try clear hb1 hc1 hf1 hl1);(try clear hb2 hc2 hf2 hl2);have hb0:=Blk.mk hn0;clear hn0;obtain ⟨hc0,hf0,hl0⟩:=hb0.all;have hb1:=Blk.mk hn1;clear hn1;obtain ⟨hc1,hf1,hl1⟩:=hb1.all;have hb2:=Blk.mk hn2;clear hn2;obtain ⟨hc2,hf2,hl2⟩:=hb2.all;(try clear hx0);rw [Ha.out])
   | (go_at_call 130;refine (newAfter_any q _ _ (by omega) (by omega) (by omega)).mono ?_;rintro e w1 ⟨rfl,hx0⟩;have hy:=Ext.trans (a:=w) EX hx0;clear hx;have hx:=hy;clear hy;have hn0:=BB hx0 (w.heap.size);have hn1:=BB hx0 (w.heap.size+1);have hn2:=BB hx0 (w.heap.size+1+1);(first | simp [↓heap_drew_at,↓heap_drewN_at,↓heap_alloc_at,↓heap_set_at,ne_two,ne_three,ne_two_left,ne_three_left,↓hb0.eq,hb0.lt,hb0.ne,↓hb1.eq,hb1.lt,hb1.ne,↓hb2.eq,hb2.lt,hb2.ne] at hn0 hn1 hn2 | simp [↓heap_drew_at,↓heap_drewN_at,↓heap_alloc_at,↓heap_set_at,ne_two,ne_three,ne_two_left,ne_three_left] at hn0 hn1 hn2);(try clear hb0 hc0 hf0 hl0);(try clear hb1 hc1 hf1 hl1);(try clear hb2 hc2 hf2 hl2);have hb0:=Blk.mk hn0;clear hn0;obtain ⟨hc0,hf0,hl0⟩:=hb0.all;have hb1:=Blk.mk hn1;clear hn1;obtain ⟨hc1,hf1,hl1⟩:=hb1.all;have hb2:=Blk.mk hn2;clear hn2;obtain ⟨hc2,hf2,hl2⟩:=hb2.all;(try clear hx0))
   | (go_at_call 131;refine (after_any q _ _ (by omega) (by omega) (by omega)).mono ?_;rintro e w1 ⟨rfl,hx0⟩;have hy:=Ext.trans (a:=w) EX hx0;clear hx;have hx:=hy;clear hy;have hn0:=BB hx0 (w.heap.size);have hn1:=BB hx0 (w.heap.size+1);have hn2:=BB hx0 (w.heap.size+1+1);(first | simp [↓heap_drew_at,↓heap_drewN_at,↓heap_alloc_at,↓heap_set_at,ne_two,ne_three,ne_two_left,ne_three_left,↓hb0.eq,hb0.lt,hb0.ne,↓hb1.eq,hb1.lt,hb1.ne,↓hb2.eq,hb2.lt,hb2.ne] at hn0 hn1 hn2 | simp [↓heap_drew_at,↓heap_drewN_at,↓heap_alloc_at,↓heap_set_at,ne_two,ne_three,ne_two_left,ne_three_left] at hn0 hn1 hn2);(try clear hb0 hc0 hf0 hl0);(try clear hb1 hc1 hf1 hl1);(try clear hb2 hc2 hf2 hl2);have hb0:=Blk.mk hn0;clear hn0;obtain ⟨hc0,hf0,hl0⟩:=hb0.all;have hb1:=Blk.mk hn1;clear hn1;obtain ⟨hc1,hf1,hl1⟩:=hb1.all;have hb2:=Blk.mk hn2;clear hn2;obtain ⟨hc2,hf2,hl2⟩:=hb2.all;(try clear hx0)))
  all_goals (refine bodyPost_ret (v:=.tuple #[(Pv.through p q).1.v,.bool (Pv.through p q).2]) ?_ rfl ?_;(focus (simp only [results,Tryz.results113];go_simp;(try (simp [Pv.through,Ha.out, *]));done));refine Ret.mk rfl ?_;(focus (exact EX;done)))
end Go.Proofs.YtfmgnaigcibcaaaGreatDoor
