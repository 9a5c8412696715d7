import Derived.Test.YtlbhaimfjfdppaaGreatDoorYm
set_option linter.unusedSimpArgs false
set_option linter.unusedVariables false
namespace Go.Proofs.YtlbhaimfjfdppaaGreatDoor
open Go.RowKit
theorem ne_four (n:Nat):(n=n+1+1+1+1)=False:=eq_false (by omega)
theorem ne_five (n:Nat):(n=n+1+1+1+1+1)=False:=eq_false (by omega)
theorem ne_six (n:Nat):(n=n+1+1+1+1+1+1)=False:=eq_false (by omega)
theorem ne_four_left (n:Nat):(n+1+1+1+1=n)=False:=eq_false (by omega)
theorem ne_five_left (n:Nat):(n+1+1+1+1+1=n)=False:=eq_false (by omega)
theorem ne_six_left (n:Nat):(n+1+1+1+1+1+1=n)=False:=eq_false (by omega)
set_option maxHeartbeats 8000000 in
set_option maxRecDepth 100000 in
theorem rxbytes_any (a b c d:Pv) (w:World) (h1:0≤a.off) (h2:a.off≤1152921504606846976) (h3:0≤b.off) (h4:b.off≤1152921504606846976)
 (s1:a.so.size≤1152921504606846976) (s2:a.sn.size≤1152921504606846976) (s3:b.so.size≤1152921504606846976) (s4:b.sn.size≤1152921504606846976):
 Calls Tryz.prog 111 #[a.v,b.v,c.v,d.v] w (Ret (.tuple #[(a.xbytes b c d).1.v,(a.xbytes b c d).2.1.v,.bool (a.xbytes b c d).2.2]) w):=by
 have w1':IntKind.i64.wrap (a.off+(a.sn.size:Int))=a.off+a.sn.size:=IntWalk.i64_in _ (by omega)
 have w2':IntKind.i64.wrap (b.off - (a.sn.size:Int))=b.off - a.sn.size:=IntWalk.i64_in _ (by omega)
 have w2'':IntKind.i64.wrap (b.off - (a.sn.size:Int)+a.so.size)=b.off - a.sn.size+a.so.size:=IntWalk.i64_in _ (by omega)
 have w3':IntKind.i64.wrap (b.off+(b.so.size:Int))=b.off+b.so.size:=IntWalk.i64_in _ (by omega)
 have w4':IntKind.i64.wrap (a.off+(b.sn.size:Int))=a.off+b.sn.size:=IntWalk.i64_in _ (by omega)
 have w5':IntKind.i64.wrap (a.off+(b.sn.size:Int) - b.so.size)=a.off+b.sn.size - b.so.size:=IntWalk.i64_in _ (by omega)
 by_cases k1:a.off+a.sn.size < b.off
 ·have hm:a.xbytes b c d=({ c with off:=b.off - a.sn.size+a.so.size },d,true):=by
   rw [Pv.xbytes,if_pos k1,show b.off - ((a.sn.size:Int) - a.so.size)=b.off - a.sn.size+a.so.size by omega]
  rw [hm]
  clear hm
  go_enter Tryz.func111,Tryz.ntmps111
  have hx:=Ext.refl w
  go_wp2
  go_region
  all_goals go_wp2
  all_goals (refine bodyPost_ret (v:=.tuple #[Pv.v { c with off:=b.off - a.sn.size+a.so.size },d.v,.bool true]) ?_ rfl ?_;(focus (simp only [results,Tryz.results111];go_simp;(try (simp));done));refine Ret.mk rfl ?_;(focus (exact EX;done)))
 ·by_cases k2:b.off+b.so.size < a.off
  ·have hm:a.xbytes b c d=(c,{ d with off:=a.off+b.sn.size - b.so.size },true):=by rw [Pv.xbytes,if_neg k1,if_pos k2]
   rw [hm]
   clear hm
   go_enter Tryz.func111,Tryz.ntmps111
   have hx:=Ext.refl w
   go_wp2
   go_region
   all_goals go_wp2
   all_goals (refine bodyPost_ret (v:=.tuple #[c.v,Pv.v { d with off:=a.off+b.sn.size - b.so.size },.bool true]) ?_ rfl ?_;(focus (simp only [results,Tryz.results111];go_simp;(try (simp));done));refine Ret.mk rfl ?_;(focus (exact EX;done)))
  ·have hm:a.xbytes b c d=(c,d,false):=by rw [Pv.xbytes,if_neg k1,if_neg k2]
   rw [hm]
   clear hm
   go_enter Tryz.func111,Tryz.ntmps111
   have hx:=Ext.refl w
   go_wp2
   go_region
   all_goals go_wp2
   all_goals (refine bodyPost_ret (v:=.tuple #[c.v,d.v,.bool false]) ?_ rfl ?_;(focus (simp only [results,Tryz.results111];go_simp;(try (simp));done));refine Ret.mk rfl ?_;(focus (exact EX;done)))
def Rm.content (a b c d:Pv):Pv × Pv × Bool:=
 if Qm.adds a.kind=true∨Qm.adds b.kind=true∨Qm.eqB a.path c.path=false∨a.kind < 6 then (c,d,true)
 else if b.kind=2∨(b.kind=8∧a.kind=8)∨(a.kind=6∧b.kind=7)∨(a.kind=7∧b.kind=6) then (c,d,false)
 else if a.kind=7∧b.kind=7 then a.xbytes b c d
 else if a.kind=6∧b.kind=6 then (c.withHunk (a.hunk.commute b.hunk).1,d.withHunk (a.hunk.commute b.hunk).2.1,(a.hunk.commute b.hunk).2.2)
 else (c,d,true)
set_option maxHeartbeats 8000000 in
set_option maxRecDepth 100000 in
theorem rcontent_free (a b c d:Pv) (w:World) (hf:Qm.adds a.kind=true∨Qm.adds b.kind=true∨Qm.eqB a.path c.path=false∨a.kind < 6):
 Calls Tryz.prog 92 #[a.v,b.v,c.v,d.v] w (Ret (.tuple #[c.v,d.v,.bool true]) w):=by
 have hf':Qm.adds a.kind=true∨(Qm.adds a.kind=false∧Qm.adds b.kind=true)∨(Qm.adds a.kind=false∧Qm.adds b.kind=false∧(a.path.toList == c.path.toList)=false)∨(Qm.adds a.kind=false∧Qm.adds b.kind=false∧(a.path.toList == c.path.toList)=true∧a.kind < 6):=by
  cases h1:Qm.adds a.kind <;> cases h2:Qm.adds b.kind <;> cases h3:(a.path.toList == c.path.toList) <;> simp_all [Qm.eqB]
 clear hf
 rcases hf' with h1 | ⟨h1,h2⟩ | ⟨h1,h2,h3⟩ | ⟨h1,h2,h3,h4⟩
 ·have H1:=Lib.hid h1
  clear h1
  go_enter Tryz.func92,Tryz.ntmps92
  have hx:=Ext.refl w
  go_wp2_with (go_at_call 108;refine (rexisting_any a _).mono ?_;rintro e w1 ⟨rfl,hx0⟩;have hy:=Ext.trans (a:=w) EX hx0;clear hx;have hx:=hy;clear hy;have hn0:=BB hx0 (w.heap.size);have hn1:=BB hx0 (w.heap.size+1);have hn2:=BB hx0 (w.heap.size+1+1);have hn3:=BB hx0 (w.heap.size+1+1+1);have hn4:=BB hx0 (w.heap.size+1+1+1+1);have hn5:=BB hx0 (w.heap.size+1+1+1+1+1);(first | simp [↓heap_drew_at,↓heap_drewN_at,↓heap_alloc_at,↓heap_set_at,ne_two,ne_three,ne_two_left,ne_three_left,ne_four,ne_five,ne_six,ne_four_left,ne_five_left,ne_six_left,↓hb0.eq,hb0.lt,hb0.ne,↓hb1.eq,hb1.lt,hb1.ne,↓hb2.eq,hb2.lt,hb2.ne,↓hb3.eq,hb3.lt,hb3.ne,↓hb4.eq,hb4.lt,hb4.ne,↓hb5.eq,hb5.lt,hb5.ne] at hn0 hn1 hn2 hn3 hn4 hn5 | simp [↓heap_drew_at,↓heap_drewN_at,↓heap_alloc_at,↓heap_set_at,ne_two,ne_three,ne_two_left,ne_three_left,ne_four,ne_five,ne_six,ne_four_left,ne_five_left,ne_six_left] at hn0 hn1 hn2 hn3 hn4 hn5);(try clear hb0 hc0 hf0 hl0);(try clear hb1 hc1 hf1 hl1);(try clear hb2 hc2 hf2 hl2);(try clear hb3 hc3 hf3 hl3);(try clear hb4 hc4 hf4 hl4);(try clear hb5 hc5 hf5 hl5);have hb0:=Blk.mk hn0;clear hn0;obtain ⟨hc0,hf0,hl0⟩:=hb0.all;have hb1:=Blk.mk hn1;clear hn1;obtain ⟨hc1,hf1,hl1⟩:=hb1.all;have hb2:=Blk.mk hn2;clear hn2;obtain ⟨hc2,hf2,hl2⟩:=hb2.all;have hb3:=Blk.mk hn3;clear hn3;obtain ⟨hc3,hf3,hl3⟩:=hb3.all;have hb4:=Blk.mk hn4;clear hn4;obtain ⟨hc4,hf4,hl4⟩:=hb4.all;have hb5:=Blk.mk hn5;clear hn5;obtain ⟨hc5,hf5,hl5⟩:=hb5.all;(try clear hx0);rw [H1.out])
  go_region
  all_goals go_wp2
  all_goals (refine bodyPost_ret (v:=.tuple #[c.v,d.v,.bool true]) ?_ rfl ?_;(focus (simp only [results,Tryz.results92];go_simp;(try (simp));done));refine Ret.mk rfl ?_;(focus (exact EX;done)))
 all_goals
  have H1:=Lib.hid h1
  have H2:=Lib.hid h2
  clear h1 h2
  go_enter Tryz.func92,Tryz.ntmps92
  have hx:=Ext.refl w
  go_wp2_with fail
  go_at_call 108;refine (rexisting_any a _).mono ?_;rintro e w1 ⟨rfl,hx0⟩;have hy:=Ext.trans (a:=w) EX hx0;clear hx;have hx:=hy;clear hy;have hn0:=BB hx0 (w.heap.size);have hn1:=BB hx0 (w.heap.size+1);have hn2:=BB hx0 (w.heap.size+1+1);have hn3:=BB hx0 (w.heap.size+1+1+1);have hn4:=BB hx0 (w.heap.size+1+1+1+1);have hn5:=BB hx0 (w.heap.size+1+1+1+1+1);(first | simp [↓heap_drew_at,↓heap_drewN_at,↓heap_alloc_at,↓heap_set_at,ne_two,ne_three,ne_two_left,ne_three_left,ne_four,ne_five,ne_six,ne_four_left,ne_five_left,ne_six_left,↓hb0.eq,hb0.lt,hb0.ne,↓hb1.eq,hb1.lt,hb1.ne,↓hb2.eq,hb2.lt,hb2.ne,↓hb3.eq,hb3.lt,hb3.ne,↓hb4.eq,hb4.lt,hb4.ne,↓hb5.eq,hb5.lt,hb5.ne] at hn0 hn1 hn2 hn3 hn4 hn5 | simp [↓heap_drew_at,↓heap_drewN_at,↓heap_alloc_at,↓heap_set_at,ne_two,ne_three,ne_two_left,ne_three_left,ne_four,ne_five,ne_six,ne_four_left,ne_five_left,ne_six_left] at hn0 hn1 hn2 hn3 hn4 hn5);(try clear hb0 hc0 hf0 hl0);(try clear hb1 hc1 hf1 hl1);(try clear hb2 hc2 hf2 hl2);(try clear hb3 hc3 hf3 hl3);(try clear hb4 hc4 hf4 hl4);(try clear hb5 hc5 hf5 hl5);have hb0:=Blk.mk hn0;clear hn0;obtain ⟨hc0,hf0,hl0⟩:=hb0.all;have hb1:=Blk.mk hn1;clear hn1;obtain ⟨hc1,hf1,hl1⟩:=hb1.all;have hb2:=Blk.mk hn2;clear hn2;obtain ⟨hc2,hf2,hl2⟩:=hb2.all;have hb3:=Blk.mk hn3;clear hn3;obtain ⟨hc3,hf3,hl3⟩:=hb3.all;have hb4:=Blk.mk hn4;clear hn4;obtain ⟨hc4,hf4,hl4⟩:=hb4.all;have hb5:=Blk.mk hn5;clear hn5;obtain ⟨hc5,hf5,hl5⟩:=hb5.all;(try clear hx0);rw [H1.out]
  go_wp2_with fail
  go_at_call 108;refine (rexisting_any b _).mono ?_;rintro e w1 ⟨rfl,hx0⟩;have hy:=Ext.trans (a:=w) EX hx0;clear hx;have hx:=hy;clear hy;have hn0:=BB hx0 (w.heap.size);have hn1:=BB hx0 (w.heap.size+1);have hn2:=BB hx0 (w.heap.size+1+1);have hn3:=BB hx0 (w.heap.size+1+1+1);have hn4:=BB hx0 (w.heap.size+1+1+1+1);have hn5:=BB hx0 (w.heap.size+1+1+1+1+1);(first | simp [↓heap_drew_at,↓heap_drewN_at,↓heap_alloc_at,↓heap_set_at,ne_two,ne_three,ne_two_left,ne_three_left,ne_four,ne_five,ne_six,ne_four_left,ne_five_left,ne_six_left,↓hb0.eq,hb0.lt,hb0.ne,↓hb1.eq,hb1.lt,hb1.ne,↓hb2.eq,hb2.lt,hb2.ne,↓hb3.eq,hb3.lt,hb3.ne,↓hb4.eq,hb4.lt,hb4.ne,↓hb5.eq,hb5.lt,hb5.ne] at hn0 hn1 hn2 hn3 hn4 hn5 | simp [↓heap_drew_at,↓heap_drewN_at,↓heap_alloc_at,↓heap_set_at,ne_two,ne_three,ne_two_left,ne_three_left,ne_four,ne_five,ne_six,ne_four_left,ne_five_left,ne_six_left] at hn0 hn1 hn2 hn3 hn4 hn5);(try clear hb0 hc0 hf0 hl0);(try clear hb1 hc1 hf1 hl1);(try clear hb2 hc2 hf2 hl2);(try clear hb3 hc3 hf3 hl3);(try clear hb4 hc4 hf4 hl4);(try clear hb5 hc5 hf5 hl5);have hb0:=Blk.mk hn0;clear hn0;obtain ⟨hc0,hf0,hl0⟩:=hb0.all;have hb1:=Blk.mk hn1;clear hn1;obtain ⟨hc1,hf1,hl1⟩:=hb1.all;have hb2:=Blk.mk hn2;clear hn2;obtain ⟨hc2,hf2,hl2⟩:=hb2.all;have hb3:=Blk.mk hn3;clear hn3;obtain ⟨hc3,hf3,hl3⟩:=hb3.all;have hb4:=Blk.mk hn4;clear hn4;obtain ⟨hc4,hf4,hl4⟩:=hb4.all;have hb5:=Blk.mk hn5;clear hn5;obtain ⟨hc5,hf5,hl5⟩:=hb5.all;(try clear hx0);rw [H2.out]
  go_wp2_with fail
  go_region
  all_goals go_wp2
  all_goals (refine bodyPost_ret (v:=.tuple #[c.v,d.v,.bool true]) ?_ rfl ?_;(focus (simp only [results,Tryz.results92];go_simp;(try (simp));done));refine Ret.mk rfl ?_;(focus (exact EX;done)))
end Go.Proofs.YtlbhaimfjfdppaaGreatDoor
