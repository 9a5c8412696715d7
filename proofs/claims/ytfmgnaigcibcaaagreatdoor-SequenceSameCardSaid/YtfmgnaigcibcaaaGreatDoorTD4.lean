import Derived.Test.YtfmgnaigcibcaaaGreatDoorTQ7
import Derived.Deep.RegionHeld3
import Derived.Deep.DrawnRows
import Derived.Deep.CutBlock
import Derived.Deep.DeepCutAuto
set_option linter.unusedSimpArgs false
set_option linter.unusedVariables false
namespace Go.Proofs.YtfmgnaigcibcaaaGreatDoor
open Go.RowKit
attribute [local go_sem ↓] Go.wp_at_zero Go.wp_at_succ
theorem Ext.realloc {a w:World} {o o':Obj} (h:Ext a (w.alloc o)) (hs:a.heap.size≤w.heap.size):Ext a (w.alloc o'):=
 ⟨h.os,h.tape,h.output,by simp only [World.size_alloc];omega,fun i hi=>by
  have h1:=h.block i hi
  have h2:(w.alloc o').heap[i]?=(w.alloc o).heap[i]?:=by
   rw [heap_alloc_at,heap_alloc_at,if_neg (by omega),if_neg (by omega)]
  exact h2.trans h1⟩
theorem new_at {W w1:World} {cs:Array Value} {t:TypeId} (hx:Ext (W.alloc (.cells cs t)) w1):Blk w1 W.heap.size t cs:=Blk.ext hx (Blk.new' rfl)
theorem new_drew {W w1:World} {cs:Array Value} {t:TypeId} (hx:Ext (W.alloc (.cells cs t)).drew w1):Blk w1 W.heap.size t cs:=Blk.ext hx (Blk.drew (Blk.new' rfl))
theorem hunk_set {w:World} {g:Nat} {t:TypeId} {a b c a' b' c':Value} (h:Blk w g t #[a,b,c]):Blk (((w.setCell ⟨g,0,none⟩ a').setCell ⟨g,1,none⟩ b').setCell ⟨g,2,none⟩ c') g t #[a',b',c']:=
 ((h.set_ 0 a').set_ 1 b').set_ 2 c'
set_option maxHeartbeats 8000000 in
set_option maxRecDepth 100000 in
theorem hcommute_behind (a b:Hv) (w:World) (ha:a.fair) (hb:b.fair) (va:(a.check == 0)=true) (vb:(b.check == 0)=true) (c1:a.at_+a.n2 < b.at_):
 Calls Tryz.prog 120 #[a.v,b.v] w (Ret (.tuple #[(a.commute b).1.v,(a.commute b).2.1.v,.bool (a.commute b).2.2]) w):=by
 obtain ⟨ha1,ha2⟩:=ha
 obtain ⟨hb1,hb2⟩:=hb
 have hA:=Hv.check_bounds va
 have hB:=Hv.check_bounds vb
 have Va:=Lib.hid va
 have Vb:=Lib.hid vb
 have hm:a.commute b=(if (b.shift (-a.growth)).at_≤1099511627776 then (b.shift (-a.growth),a,true) else (Hv.zero,Hv.zero,false)):=by simp [Hv.commute,va,vb,c1]
 generalize a.commute b=R at hm ⊢
 have Hm:=Lib.hid hm
 clear va vb hm
 go_enter Tryz.func120,Tryz.ntmps120
 have hx:=Ext.refl w
 go_wp2_with fail
 go_at_call 133;refine (hvalid_any a _ ⟨by omega,by omega⟩).mono ?_;rintro e w1 ⟨rfl,hx0⟩;have hy:=Ext.trans (a:=w) EX hx0;clear hx;have hx:=hy;clear hy;have hn0:=BB hx0 (w.heap.size);have hn1:=BB hx0 (w.heap.size+1);have hn2:=BB hx0 (w.heap.size+1+1);have hn3:=BB hx0 (w.heap.size+1+1+1);(first | simp [↓heap_drew_at,↓heap_drewN_at,↓heap_alloc_at,↓heap_set_at,ne_two,ne_three,ne_two_left,ne_three_left,↓hb0.eq,hb0.lt,hb0.ne,↓hb1.eq,hb1.lt,hb1.ne,↓hb2.eq,hb2.lt,hb2.ne,↓hb3.eq,hb3.lt,hb3.ne] at hn0 hn1 hn2 hn3 | simp [↓heap_drew_at,↓heap_drewN_at,↓heap_alloc_at,↓heap_set_at,ne_two,ne_three,ne_two_left,ne_three_left] at hn0 hn1 hn2 hn3);(try clear hb0 hc0 hf0 hl0);(try clear hb1 hc1 hf1 hl1);(try clear hb2 hc2 hf2 hl2);(try clear hb3 hc3 hf3 hl3);have hb0:=Blk.mk hn0;clear hn0;obtain ⟨hc0,hf0,hl0⟩:=hb0.all;have hb1:=Blk.mk hn1;clear hn1;obtain ⟨hc1,hf1,hl1⟩:=hb1.all;have hb2:=Blk.mk hn2;clear hn2;obtain ⟨hc2,hf2,hl2⟩:=hb2.all;have hb3:=Blk.mk hn3;clear hn3;obtain ⟨hc3,hf3,hl3⟩:=hb3.all;(try clear hx0);rw [Va.out]
 go_wp2_with fail
 go_at_call 133;refine (hvalid_any b _ ⟨by omega,by omega⟩).mono ?_;rintro e w1 ⟨rfl,hx0⟩;have hy:=Ext.trans (a:=w) EX hx0;clear hx;have hx:=hy;clear hy;have hn0:=BB hx0 (w.heap.size);have hn1:=BB hx0 (w.heap.size+1);have hn2:=BB hx0 (w.heap.size+1+1);have hn3:=BB hx0 (w.heap.size+1+1+1);(first | simp [↓heap_drew_at,↓heap_drewN_at,↓heap_alloc_at,↓heap_set_at,ne_two,ne_three,ne_two_left,ne_three_left,↓hb0.eq,hb0.lt,hb0.ne,↓hb1.eq,hb1.lt,hb1.ne,↓hb2.eq,hb2.lt,hb2.ne,↓hb3.eq,hb3.lt,hb3.ne] at hn0 hn1 hn2 hn3 | simp [↓heap_drew_at,↓heap_drewN_at,↓heap_alloc_at,↓heap_set_at,ne_two,ne_three,ne_two_left,ne_three_left] at hn0 hn1 hn2 hn3);(try clear hb0 hc0 hf0 hl0);(try clear hb1 hc1 hf1 hl1);(try clear hb2 hc2 hf2 hl2);(try clear hb3 hc3 hf3 hl3);have hb0:=Blk.mk hn0;clear hn0;obtain ⟨hc0,hf0,hl0⟩:=hb0.all;have hb1:=Blk.mk hn1;clear hn1;obtain ⟨hc1,hf1,hl1⟩:=hb1.all;have hb2:=Blk.mk hn2;clear hn2;obtain ⟨hc2,hf2,hl2⟩:=hb2.all;have hb3:=Blk.mk hn3;clear hn3;obtain ⟨hc3,hf3,hl3⟩:=hb3.all;(try clear hx0);rw [Vb.out]
 go_upto_region 3 with fail
 have hwr:IntKind.i64.wrap (-a.growth)=-a.growth:=IntWalk.i64_in _ (by simp only [Hv.growth];omega)
 obtain ⟨W0,rfl⟩:∃ W0:World,W0=w1:=⟨_,rfl⟩
 go_cut [7,8] (fun u1 u2 wx=>∃ g:Nat,W0.heap.size≤g∧Ext W0 wx∧Blk wx g 26 #[.int .i64 (b.shift (-a.growth)).at_,.slice (b.shift (-a.growth)).A1 (b.shift (-a.growth)).n1 (b.shift (-a.growth)).c1,.slice (b.shift (-a.growth)).A2 (b.shift (-a.growth)).n2 (b.shift (-a.growth)).c2]∧u1=.pointer (some ⟨g,0,none⟩)∧u2=.bool (decide (b.at_+-a.growth≤1099511627776)))
 case first=>
  have HS:Hid (∀ w',Ext W0 w'→Hid (Ext W0 w')∧w'.cell? ⟨w.heap.size,0,none⟩=some (.int .i64 a.at_)∧w'.cell? ⟨w.heap.size,1,none⟩=some (.slice a.A1 a.n1 a.c1)∧w'.cell? ⟨w.heap.size,2,none⟩=some (.slice a.A2 a.n2 a.c2)∧w'.cell? ⟨w.heap.size+1,0,none⟩=some (.int .i64 b.at_)∧w'.cell? ⟨w.heap.size+1,1,none⟩=some (.slice b.A1 b.n1 b.c1)∧w'.cell? ⟨w.heap.size+1,2,none⟩=some (.slice b.A2 b.n2 b.c2)):=Lib.hid (fun w' hw'=>by
   have e0:=hw'.cellAt w.heap.size hb0.lt
   have e1:=hw'.cellAt (w.heap.size+1) hb1.lt
   refine ⟨Lib.hid hw',?_,?_,?_,?_,?_,?_⟩
   all_goals first | (rw [e0,hb0.cell];rfl) | (rw [e1,hb1.cell];rfl))
  have Hx:=Lib.hid hx
  clear hx hb0 hb1 hb2 hb3 hl0 hl1 hl2 hl3 hc0 hc1 hc2 hc3 hf0 hf1 hf2 hf3
  go_region_held3 (fun w'=>Hid (Ext W0 w')∧w'.cell? ⟨w.heap.size,0,none⟩=some (.int .i64 a.at_)∧w'.cell? ⟨w.heap.size,1,none⟩=some (.slice a.A1 a.n1 a.c1)∧w'.cell? ⟨w.heap.size,2,none⟩=some (.slice a.A2 a.n2 a.c2)∧w'.cell? ⟨w.heap.size+1,0,none⟩=some (.int .i64 b.at_)∧w'.cell? ⟨w.heap.size+1,1,none⟩=some (.slice b.A1 b.n1 b.c1)∧w'.cell? ⟨w.heap.size+1,2,none⟩=some (.slice b.A2 b.n2 b.c2)) (first | exact HS.out _ (Ext.drew1 (Ext.refl _)) | (go_split_ands;exact HS.out _ (Ext.trans (Hid.out (by assumption)) hx0)) | (go_split_ands;exact HS.out _ (Ext.alloc (Hid.out (by assumption)) _)) | (go_split_ands;exact HS.out _ (Ext.realloc (Hid.out (by assumption)) (by omega))) | (go_split_ands;refine HS.out _ ?_;refine Ext.setCell (Ext.setCell (Ext.setCell (Hid.out (by assumption)) ?_ _) ?_ _) ?_ _;all_goals (dsimp only;omega)))
   (first | (go_at_call 135;refine (growth_any a _ ⟨by omega,by omega⟩).mono ?_;rintro e w1 ⟨rfl,hx0⟩;obtain ⟨hcc,hff⟩:=bcell hx0;have hzz:=hx0.size_le;(try simp only [World.size_alloc,World.size_setCell,World.size_drew,World.heap_drewN] at hzz);(try have hzl:=Nat.lt_of_succ_le hzz)) | (go_at_call 134;refine (shifted_any b _ _ (by omega) (by omega) (by simp only [Hv.growth];omega) (by simp only [Hv.growth];omega)).mono ?_;rintro e w1 ⟨rfl,hx0⟩;obtain ⟨hcc,hff⟩:=bcell hx0;have hzz:=hx0.size_le;(try simp only [World.size_alloc,World.size_setCell,World.size_drew,World.heap_drewN] at hzz);(try have hzl:=Nat.lt_of_succ_le hzz)))
  all_goals (go_split_ands;go_wp2_with fail;go_meet)
  all_goals first
   | exact ⟨_,by omega,Hid.out (by assumption),Blk.new' rfl,rfl,rfl⟩
   | (refine ⟨_,?_,Hid.out (by assumption),hunk_set (new_at hx0),rfl,rfl⟩;omega)
   | (refine ⟨_,?_,Hid.out (by assumption),hunk_set (Blk.ext hx0 (new_drew (by assumption))),rfl,rfl⟩;exact Nat.le_refl _)
 case rest=>
  obtain ⟨g,hg1,hx1,hbX,rfl,rfl⟩:=hcut
  have hx0:=hx1
  have hy:=Ext.trans (a:=w) EX hx0;clear hx;have hx:=hy;clear hy;have hn0:=BB hx0 (w.heap.size);have hn1:=BB hx0 (w.heap.size+1);have hn2:=BB hx0 (w.heap.size+1+1);have hn3:=BB hx0 (w.heap.size+1+1+1);(first | simp [↓heap_drew_at,↓heap_drewN_at,↓heap_alloc_at,↓heap_set_at,ne_two,ne_three,ne_two_left,ne_three_left,↓hb0.eq,hb0.lt,hb0.ne,↓hb1.eq,hb1.lt,hb1.ne,↓hb2.eq,hb2.lt,hb2.ne,↓hb3.eq,hb3.lt,hb3.ne] at hn0 hn1 hn2 hn3 | simp [↓heap_drew_at,↓heap_drewN_at,↓heap_alloc_at,↓heap_set_at,ne_two,ne_three,ne_two_left,ne_three_left] at hn0 hn1 hn2 hn3);(try clear hb0 hc0 hf0 hl0);(try clear hb1 hc1 hf1 hl1);(try clear hb2 hc2 hf2 hl2);(try clear hb3 hc3 hf3 hl3);have hb0:=Blk.mk hn0;clear hn0;obtain ⟨hc0,hf0,hl0⟩:=hb0.all;have hb1:=Blk.mk hn1;clear hn1;obtain ⟨hc1,hf1,hl1⟩:=hb1.all;have hb2:=Blk.mk hn2;clear hn2;obtain ⟨hc2,hf2,hl2⟩:=hb2.all;have hb3:=Blk.mk hn3;clear hn3;obtain ⟨hc3,hf3,hl3⟩:=hb3.all;(try clear hx0)
  have hcX:=hbX.cell
  have hlX:=hbX.lt
  by_cases hs:(b.shift (-a.growth)).at_≤1099511627776
  ·have hs2:decide (b.at_+-a.growth≤1099511627776)=true:=decide_eq_true hs
   have hm:=Hm.out
   rw [if_pos hs] at hm
   have HR:=Lib.hid hm
   clear hm
   rw [hs2]
   clear hs hs2
   go_wp2_with (go_at_call 136;refine (both_any _ _ _ _).mono ?_;rintro e w1 ⟨rfl,hx0⟩;have hy:=Ext.trans (a:=w) EX hx0;clear hx;have hx:=hy;clear hy;have hn0:=BB hx0 (w.heap.size);have hn1:=BB hx0 (w.heap.size+1);have hn2:=BB hx0 (w.heap.size+1+1);have hn3:=BB hx0 (w.heap.size+1+1+1);(first | simp [↓heap_drew_at,↓heap_drewN_at,↓heap_alloc_at,↓heap_set_at,ne_two,ne_three,ne_two_left,ne_three_left,↓hb0.eq,hb0.lt,hb0.ne,↓hb1.eq,hb1.lt,hb1.ne,↓hb2.eq,hb2.lt,hb2.ne,↓hb3.eq,hb3.lt,hb3.ne] at hn0 hn1 hn2 hn3 | simp [↓heap_drew_at,↓heap_drewN_at,↓heap_alloc_at,↓heap_set_at,ne_two,ne_three,ne_two_left,ne_three_left] at hn0 hn1 hn2 hn3);(try clear hb0 hc0 hf0 hl0);(try clear hb1 hc1 hf1 hl1);(try clear hb2 hc2 hf2 hl2);(try clear hb3 hc3 hf3 hl3);have hb0:=Blk.mk hn0;clear hn0;obtain ⟨hc0,hf0,hl0⟩:=hb0.all;have hb1:=Blk.mk hn1;clear hn1;obtain ⟨hc1,hf1,hl1⟩:=hb1.all;have hb2:=Blk.mk hn2;clear hn2;obtain ⟨hc2,hf2,hl2⟩:=hb2.all;have hb3:=Blk.mk hn3;clear hn3;obtain ⟨hc3,hf3,hl3⟩:=hb3.all;(try clear hx0))
   rw [HR.out]
   (refine bodyPost_ret (v:=.tuple #[(b.shift (-a.growth)).v,a.v,.bool true]) ?_ rfl ?_;(focus (simp only [results,Tryz.results120];go_simp;(try (simp [Hv.shift]));done));refine Ret.mk rfl ?_;(focus (exact EX;done)))
  ·have hs2:decide (b.at_+-a.growth≤1099511627776)=false:=decide_eq_false hs
   have hm:=Hm.out
   rw [if_neg hs] at hm
   have HR:=Lib.hid hm
   clear hm
   rw [hs2]
   clear hs hs2
   go_wp2_with (go_at_call 136;refine (both_any _ _ _ _).mono ?_;rintro e w1 ⟨rfl,hx0⟩;have hy:=Ext.trans (a:=w) EX hx0;clear hx;have hx:=hy;clear hy;have hn0:=BB hx0 (w.heap.size);have hn1:=BB hx0 (w.heap.size+1);have hn2:=BB hx0 (w.heap.size+1+1);have hn3:=BB hx0 (w.heap.size+1+1+1);(first | simp [↓heap_drew_at,↓heap_drewN_at,↓heap_alloc_at,↓heap_set_at,ne_two,ne_three,ne_two_left,ne_three_left,↓hb0.eq,hb0.lt,hb0.ne,↓hb1.eq,hb1.lt,hb1.ne,↓hb2.eq,hb2.lt,hb2.ne,↓hb3.eq,hb3.lt,hb3.ne] at hn0 hn1 hn2 hn3 | simp [↓heap_drew_at,↓heap_drewN_at,↓heap_alloc_at,↓heap_set_at,ne_two,ne_three,ne_two_left,ne_three_left] at hn0 hn1 hn2 hn3);(try clear hb0 hc0 hf0 hl0);(try clear hb1 hc1 hf1 hl1);(try clear hb2 hc2 hf2 hl2);(try clear hb3 hc3 hf3 hl3);have hb0:=Blk.mk hn0;clear hn0;obtain ⟨hc0,hf0,hl0⟩:=hb0.all;have hb1:=Blk.mk hn1;clear hn1;obtain ⟨hc1,hf1,hl1⟩:=hb1.all;have hb2:=Blk.mk hn2;clear hn2;obtain ⟨hc2,hf2,hl2⟩:=hb2.all;have hb3:=Blk.mk hn3;clear hn3;obtain ⟨hc3,hf3,hl3⟩:=hb3.all;(try clear hx0))
   rw [HR.out]
   (refine bodyPost_ret (v:=.tuple #[Hv.zero.v,Hv.zero.v,.bool false]) ?_ rfl ?_;(focus (simp only [results,Tryz.results120];go_simp;(try (simp));done));refine Ret.mk rfl ?_;(focus (exact EX;done)))
set_option maxHeartbeats 8000000 in
set_option maxRecDepth 100000 in
theorem hcommute_before (a b:Hv) (w:World) (ha:a.fair) (hb:b.fair) (va:(a.check == 0)=true) (vb:(b.check == 0)=true) (c1:¬ a.at_+a.n2 < b.at_) (c2:b.at_+b.n1 < a.at_):
 Calls Tryz.prog 120 #[a.v,b.v] w (Ret (.tuple #[(a.commute b).1.v,(a.commute b).2.1.v,.bool (a.commute b).2.2]) w):=by
 obtain ⟨ha1,ha2⟩:=ha
 obtain ⟨hb1,hb2⟩:=hb
 have hA:=Hv.check_bounds va
 have hB:=Hv.check_bounds vb
 have Va:=Lib.hid va
 have Vb:=Lib.hid vb
 have hm:a.commute b=(if (a.shift b.growth).at_≤1099511627776 then (b,a.shift b.growth,true) else (Hv.zero,Hv.zero,false)):=by simp [Hv.commute,va,vb,c1,c2]
 generalize a.commute b=R at hm ⊢
 have Hm:=Lib.hid hm
 clear va vb hm
 go_enter Tryz.func120,Tryz.ntmps120
 have hx:=Ext.refl w
 go_wp2_with fail
 go_at_call 133;refine (hvalid_any a _ ⟨by omega,by omega⟩).mono ?_;rintro e w1 ⟨rfl,hx0⟩;have hy:=Ext.trans (a:=w) EX hx0;clear hx;have hx:=hy;clear hy;have hn0:=BB hx0 (w.heap.size);have hn1:=BB hx0 (w.heap.size+1);have hn2:=BB hx0 (w.heap.size+1+1);have hn3:=BB hx0 (w.heap.size+1+1+1);(first | simp [↓heap_drew_at,↓heap_drewN_at,↓heap_alloc_at,↓heap_set_at,ne_two,ne_three,ne_two_left,ne_three_left,↓hb0.eq,hb0.lt,hb0.ne,↓hb1.eq,hb1.lt,hb1.ne,↓hb2.eq,hb2.lt,hb2.ne,↓hb3.eq,hb3.lt,hb3.ne] at hn0 hn1 hn2 hn3 | simp [↓heap_drew_at,↓heap_drewN_at,↓heap_alloc_at,↓heap_set_at,ne_two,ne_three,ne_two_left,ne_three_left] at hn0 hn1 hn2 hn3);(try clear hb0 hc0 hf0 hl0);(try clear hb1 hc1 hf1 hl1);(try clear hb2 hc2 hf2 hl2);(try clear hb3 hc3 hf3 hl3);have hb0:=Blk.mk hn0;clear hn0;obtain ⟨hc0,hf0,hl0⟩:=hb0.all;have hb1:=Blk.mk hn1;clear hn1;obtain ⟨hc1,hf1,hl1⟩:=hb1.all;have hb2:=Blk.mk hn2;clear hn2;obtain ⟨hc2,hf2,hl2⟩:=hb2.all;have hb3:=Blk.mk hn3;clear hn3;obtain ⟨hc3,hf3,hl3⟩:=hb3.all;(try clear hx0);rw [Va.out]
 go_wp2_with fail
 go_at_call 133;refine (hvalid_any b _ ⟨by omega,by omega⟩).mono ?_;rintro e w1 ⟨rfl,hx0⟩;have hy:=Ext.trans (a:=w) EX hx0;clear hx;have hx:=hy;clear hy;have hn0:=BB hx0 (w.heap.size);have hn1:=BB hx0 (w.heap.size+1);have hn2:=BB hx0 (w.heap.size+1+1);have hn3:=BB hx0 (w.heap.size+1+1+1);(first | simp [↓heap_drew_at,↓heap_drewN_at,↓heap_alloc_at,↓heap_set_at,ne_two,ne_three,ne_two_left,ne_three_left,↓hb0.eq,hb0.lt,hb0.ne,↓hb1.eq,hb1.lt,hb1.ne,↓hb2.eq,hb2.lt,hb2.ne,↓hb3.eq,hb3.lt,hb3.ne] at hn0 hn1 hn2 hn3 | simp [↓heap_drew_at,↓heap_drewN_at,↓heap_alloc_at,↓heap_set_at,ne_two,ne_three,ne_two_left,ne_three_left] at hn0 hn1 hn2 hn3);(try clear hb0 hc0 hf0 hl0);(try clear hb1 hc1 hf1 hl1);(try clear hb2 hc2 hf2 hl2);(try clear hb3 hc3 hf3 hl3);have hb0:=Blk.mk hn0;clear hn0;obtain ⟨hc0,hf0,hl0⟩:=hb0.all;have hb1:=Blk.mk hn1;clear hn1;obtain ⟨hc1,hf1,hl1⟩:=hb1.all;have hb2:=Blk.mk hn2;clear hn2;obtain ⟨hc2,hf2,hl2⟩:=hb2.all;have hb3:=Blk.mk hn3;clear hn3;obtain ⟨hc3,hf3,hl3⟩:=hb3.all;(try clear hx0);rw [Vb.out]
 go_upto_region 6 with fail
 have hwr:IntKind.i64.wrap (-b.growth)=-b.growth:=IntWalk.i64_in _ (by simp only [Hv.growth];omega)
 obtain ⟨W0,rfl⟩:∃ W0:World,W0=w1:=⟨_,rfl⟩
 go_cut [9,10] (fun u1 u2 wx=>∃ g:Nat,W0.heap.size≤g∧Ext W0 wx∧Blk wx g 26 #[.int .i64 (a.shift (b.growth)).at_,.slice (a.shift (b.growth)).A1 (a.shift (b.growth)).n1 (a.shift (b.growth)).c1,.slice (a.shift (b.growth)).A2 (a.shift (b.growth)).n2 (a.shift (b.growth)).c2]∧u1=.pointer (some ⟨g,0,none⟩)∧u2=.bool (decide (a.at_+b.growth≤1099511627776)))
 case first=>
  have HS:Hid (∀ w',Ext W0 w'→Hid (Ext W0 w')∧w'.cell? ⟨w.heap.size,0,none⟩=some (.int .i64 a.at_)∧w'.cell? ⟨w.heap.size,1,none⟩=some (.slice a.A1 a.n1 a.c1)∧w'.cell? ⟨w.heap.size,2,none⟩=some (.slice a.A2 a.n2 a.c2)∧w'.cell? ⟨w.heap.size+1,0,none⟩=some (.int .i64 b.at_)∧w'.cell? ⟨w.heap.size+1,1,none⟩=some (.slice b.A1 b.n1 b.c1)∧w'.cell? ⟨w.heap.size+1,2,none⟩=some (.slice b.A2 b.n2 b.c2)):=Lib.hid (fun w' hw'=>by
   have e0:=hw'.cellAt w.heap.size hb0.lt
   have e1:=hw'.cellAt (w.heap.size+1) hb1.lt
   refine ⟨Lib.hid hw',?_,?_,?_,?_,?_,?_⟩
   all_goals first | (rw [e0,hb0.cell];rfl) | (rw [e1,hb1.cell];rfl))
  have Hx:=Lib.hid hx
  clear hx hb0 hb1 hb2 hb3 hl0 hl1 hl2 hl3 hc0 hc1 hc2 hc3 hf0 hf1 hf2 hf3
  go_region_held3 (fun w'=>Hid (Ext W0 w')∧w'.cell? ⟨w.heap.size,0,none⟩=some (.int .i64 a.at_)∧w'.cell? ⟨w.heap.size,1,none⟩=some (.slice a.A1 a.n1 a.c1)∧w'.cell? ⟨w.heap.size,2,none⟩=some (.slice a.A2 a.n2 a.c2)∧w'.cell? ⟨w.heap.size+1,0,none⟩=some (.int .i64 b.at_)∧w'.cell? ⟨w.heap.size+1,1,none⟩=some (.slice b.A1 b.n1 b.c1)∧w'.cell? ⟨w.heap.size+1,2,none⟩=some (.slice b.A2 b.n2 b.c2)) (first | exact HS.out _ (Ext.drew1 (Ext.refl _)) | (go_split_ands;exact HS.out _ (Ext.trans (Hid.out (by assumption)) hx0)) | (go_split_ands;exact HS.out _ (Ext.alloc (Hid.out (by assumption)) _)) | (go_split_ands;exact HS.out _ (Ext.realloc (Hid.out (by assumption)) (by omega))) | (go_split_ands;refine HS.out _ ?_;refine Ext.setCell (Ext.setCell (Ext.setCell (Hid.out (by assumption)) ?_ _) ?_ _) ?_ _;all_goals (dsimp only;omega)))
   (first | (go_at_call 135;refine (growth_any b _ ⟨by omega,by omega⟩).mono ?_;rintro e w1 ⟨rfl,hx0⟩;obtain ⟨hcc,hff⟩:=bcell hx0;have hzz:=hx0.size_le;(try simp only [World.size_alloc,World.size_setCell,World.size_drew,World.heap_drewN] at hzz);(try have hzl:=Nat.lt_of_succ_le hzz)) | (go_at_call 134;refine (shifted_any a _ _ (by omega) (by omega) (by simp only [Hv.growth];omega) (by simp only [Hv.growth];omega)).mono ?_;rintro e w1 ⟨rfl,hx0⟩;obtain ⟨hcc,hff⟩:=bcell hx0;have hzz:=hx0.size_le;(try simp only [World.size_alloc,World.size_setCell,World.size_drew,World.heap_drewN] at hzz);(try have hzl:=Nat.lt_of_succ_le hzz)))
  all_goals (go_split_ands;go_wp2_with fail;go_meet)
  all_goals first
   | exact ⟨_,by omega,Hid.out (by assumption),Blk.new' rfl,rfl,rfl⟩
   | (refine ⟨_,?_,Hid.out (by assumption),hunk_set (new_at hx0),rfl,rfl⟩;omega)
   | (refine ⟨_,?_,Hid.out (by assumption),hunk_set (Blk.ext hx0 (new_drew (by assumption))),rfl,rfl⟩;exact Nat.le_refl _)
 case rest=>
  obtain ⟨g,hg1,hx1,hbX,rfl,rfl⟩:=hcut
  have hx0:=hx1
  have hy:=Ext.trans (a:=w) EX hx0;clear hx;have hx:=hy;clear hy;have hn0:=BB hx0 (w.heap.size);have hn1:=BB hx0 (w.heap.size+1);have hn2:=BB hx0 (w.heap.size+1+1);have hn3:=BB hx0 (w.heap.size+1+1+1);(first | simp [↓heap_drew_at,↓heap_drewN_at,↓heap_alloc_at,↓heap_set_at,ne_two,ne_three,ne_two_left,ne_three_left,↓hb0.eq,hb0.lt,hb0.ne,↓hb1.eq,hb1.lt,hb1.ne,↓hb2.eq,hb2.lt,hb2.ne,↓hb3.eq,hb3.lt,hb3.ne] at hn0 hn1 hn2 hn3 | simp [↓heap_drew_at,↓heap_drewN_at,↓heap_alloc_at,↓heap_set_at,ne_two,ne_three,ne_two_left,ne_three_left] at hn0 hn1 hn2 hn3);(try clear hb0 hc0 hf0 hl0);(try clear hb1 hc1 hf1 hl1);(try clear hb2 hc2 hf2 hl2);(try clear hb3 hc3 hf3 hl3);have hb0:=Blk.mk hn0;clear hn0;obtain ⟨hc0,hf0,hl0⟩:=hb0.all;have hb1:=Blk.mk hn1;clear hn1;obtain ⟨hc1,hf1,hl1⟩:=hb1.all;have hb2:=Blk.mk hn2;clear hn2;obtain ⟨hc2,hf2,hl2⟩:=hb2.all;have hb3:=Blk.mk hn3;clear hn3;obtain ⟨hc3,hf3,hl3⟩:=hb3.all;(try clear hx0)
  have hcX:=hbX.cell
  have hlX:=hbX.lt
  by_cases hs:(a.shift (b.growth)).at_≤1099511627776
  ·have hs2:decide (a.at_+b.growth≤1099511627776)=true:=decide_eq_true hs
   have hm:=Hm.out
   rw [if_pos hs] at hm
   have HR:=Lib.hid hm
   clear hm
   rw [hs2]
   clear hs hs2
   go_wp2_with (go_at_call 136;refine (both_any _ _ _ _).mono ?_;rintro e w1 ⟨rfl,hx0⟩;have hy:=Ext.trans (a:=w) EX hx0;clear hx;have hx:=hy;clear hy;have hn0:=BB hx0 (w.heap.size);have hn1:=BB hx0 (w.heap.size+1);have hn2:=BB hx0 (w.heap.size+1+1);have hn3:=BB hx0 (w.heap.size+1+1+1);(first | simp [↓heap_drew_at,↓heap_drewN_at,↓heap_alloc_at,↓heap_set_at,ne_two,ne_three,ne_two_left,ne_three_left,↓hb0.eq,hb0.lt,hb0.ne,↓hb1.eq,hb1.lt,hb1.ne,↓hb2.eq,hb2.lt,hb2.ne,↓hb3.eq,hb3.lt,hb3.ne] at hn0 hn1 hn2 hn3 | simp [↓heap_drew_at,↓heap_drewN_at,↓heap_alloc_at,↓heap_set_at,ne_two,ne_three,ne_two_left,ne_three_left] at hn0 hn1 hn2 hn3);(try clear hb0 hc0 hf0 hl0);(try clear hb1 hc1 hf1 hl1);(try clear hb2 hc2 hf2 hl2);(try clear hb3 hc3 hf3 hl3);have hb0:=Blk.mk hn0;clear hn0;obtain ⟨hc0,hf0,hl0⟩:=hb0.all;have hb1:=Blk.mk hn1;clear hn1;obtain ⟨hc1,hf1,hl1⟩:=hb1.all;have hb2:=Blk.mk hn2;clear hn2;obtain ⟨hc2,hf2,hl2⟩:=hb2.all;have hb3:=Blk.mk hn3;clear hn3;obtain ⟨hc3,hf3,hl3⟩:=hb3.all;(try clear hx0))
   rw [HR.out]
   (refine bodyPost_ret (v:=.tuple #[b.v,(a.shift b.growth).v,.bool true]) ?_ rfl ?_;(focus (simp only [results,Tryz.results120];go_simp;(try (simp [Hv.shift]));done));refine Ret.mk rfl ?_;(focus (exact EX;done)))
  ·have hs2:decide (a.at_+b.growth≤1099511627776)=false:=decide_eq_false hs
   have hm:=Hm.out
   rw [if_neg hs] at hm
   have HR:=Lib.hid hm
   clear hm
   rw [hs2]
   clear hs hs2
   go_wp2_with (go_at_call 136;refine (both_any _ _ _ _).mono ?_;rintro e w1 ⟨rfl,hx0⟩;have hy:=Ext.trans (a:=w) EX hx0;clear hx;have hx:=hy;clear hy;have hn0:=BB hx0 (w.heap.size);have hn1:=BB hx0 (w.heap.size+1);have hn2:=BB hx0 (w.heap.size+1+1);have hn3:=BB hx0 (w.heap.size+1+1+1);(first | simp [↓heap_drew_at,↓heap_drewN_at,↓heap_alloc_at,↓heap_set_at,ne_two,ne_three,ne_two_left,ne_three_left,↓hb0.eq,hb0.lt,hb0.ne,↓hb1.eq,hb1.lt,hb1.ne,↓hb2.eq,hb2.lt,hb2.ne,↓hb3.eq,hb3.lt,hb3.ne] at hn0 hn1 hn2 hn3 | simp [↓heap_drew_at,↓heap_drewN_at,↓heap_alloc_at,↓heap_set_at,ne_two,ne_three,ne_two_left,ne_three_left] at hn0 hn1 hn2 hn3);(try clear hb0 hc0 hf0 hl0);(try clear hb1 hc1 hf1 hl1);(try clear hb2 hc2 hf2 hl2);(try clear hb3 hc3 hf3 hl3);have hb0:=Blk.mk hn0;clear hn0;obtain ⟨hc0,hf0,hl0⟩:=hb0.all;have hb1:=Blk.mk hn1;clear hn1;obtain ⟨hc1,hf1,hl1⟩:=hb1.all;have hb2:=Blk.mk hn2;clear hn2;obtain ⟨hc2,hf2,hl2⟩:=hb2.all;have hb3:=Blk.mk hn3;clear hn3;obtain ⟨hc3,hf3,hl3⟩:=hb3.all;(try clear hx0))
   rw [HR.out]
   (refine bodyPost_ret (v:=.tuple #[Hv.zero.v,Hv.zero.v,.bool false]) ?_ rfl ?_;(focus (simp only [results,Tryz.results120];go_simp;(try (simp));done));refine Ret.mk rfl ?_;(focus (exact EX;done)))
theorem hcommute_any (a b:Hv) (w:World) (ha:a.fair) (hb:b.fair):
 Calls Tryz.prog 120 #[a.v,b.v] w (Ret (.tuple #[(a.commute b).1.v,(a.commute b).2.1.v,.bool (a.commute b).2.2]) w):=by
 cases va:(a.check == 0)
 ·exact hcommute_bad a b w ha hb (.inl va)
 cases vb:(b.check == 0)
 ·exact hcommute_bad a b w ha hb (.inr vb)
 by_cases c1:a.at_+a.n2 < b.at_
 ·exact hcommute_behind a b w ha hb va vb c1
 by_cases c2:b.at_+b.n1 < a.at_
 ·exact hcommute_before a b w ha hb va vb c1 c2
 exact hcommute_else a b w ha hb va vb c1 c2
end Go.Proofs.YtfmgnaigcibcaaaGreatDoor
