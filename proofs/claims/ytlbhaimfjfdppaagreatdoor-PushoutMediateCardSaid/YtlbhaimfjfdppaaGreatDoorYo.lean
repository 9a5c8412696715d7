import Derived.Test.YtlbhaimfjfdppaaGreatDoorYn
set_option linter.unusedSimpArgs false
set_option linter.unusedVariables false
namespace Go.Proofs.YtlbhaimfjfdppaaGreatDoor
open Go.RowKit
theorem rswitch_ways {α:Type} (ak bk:Int) (F H X T r:α) (h6:6≤ak) (h8:ak≤8)
 (hr:r=if bk=2∨(bk=8∧ak=8)∨(ak=6∧bk=7)∨(ak=7∧bk=6) then F else if ak=7∧bk=7 then X else if ak=6∧bk=6 then H else T):
 ((bk == 2)=true∧r=F)∨((bk == 2)=false∧(bk == 8)=true∧(ak == 8)=true∧r=F) ∨
 ((bk == 2)=false∧(bk == 8)=false∧(ak == 6)=true∧(bk == 7)=true∧r=F) ∨
 ((bk == 2)=false∧(bk == 8)=false∧(ak == 6)=false∧(ak == 7)=true∧(bk == 6)=true∧r=F) ∨
 ((bk == 2)=false∧(bk == 8)=false∧(ak == 6)=false∧(ak == 7)=true∧(bk == 6)=false∧(bk == 7)=true∧r=X) ∨
 ((bk == 2)=false∧(bk == 8)=false∧(ak == 6)=true∧(bk == 7)=false∧(ak == 7)=false∧(bk == 6)=true∧r=H) ∨
 ((bk == 2)=false∧(bk == 8)=false∧(ak == 6)=true∧(bk == 7)=false∧(ak == 7)=false∧(bk == 6)=false∧r=T) ∨
 ((bk == 2)=false∧(bk == 8)=false∧(ak == 6)=false∧(ak == 7)=true∧(bk == 6)=false∧(bk == 7)=false∧r=T) ∨
 ((bk == 2)=false∧(bk == 8)=false∧(ak == 6)=false∧(ak == 7)=false∧r=T) ∨
 ((bk == 2)=false∧(bk == 8)=true∧(ak == 8)=false∧(ak == 6)=true∧(bk == 7)=false∧(ak == 7)=false∧(bk == 6)=false∧r=T) ∨
 ((bk == 2)=false∧(bk == 8)=true∧(ak == 8)=false∧(ak == 6)=false∧(ak == 7)=true∧(bk == 6)=false∧(bk == 7)=false∧r=T):=by
 by_cases b2:bk=2
 ·simp [hr,b2]
 by_cases b8:bk=8
 ·by_cases a8:ak=8
  ·simp [hr,b2,a8,b8]
  ·by_cases a6:ak=6
   ·simp [hr,a6,b8]
   ·have a7:ak=7:=by omega
    simp [hr,a7,b8]
 by_cases a6:ak=6
 ·by_cases b6:bk=6
  ·simp [hr,a6,b6]
  ·by_cases b7:bk=7 <;> simp [hr,b2,a6,b6,b7,b8]
 by_cases a7:ak=7
 ·by_cases b7:bk=7
  ·simp [hr,a7,b7]
  ·by_cases b6:bk=6 <;> simp [hr,b2,a7,b6,b7,b8]
 simp [hr,b2,a6,a7,b8]
set_option maxHeartbeats 16000000 in
set_option maxRecDepth 100000 in
theorem rcontent_met (a b c d:Pv) (w:World) (h1:Qm.adds a.kind=false) (h2:Qm.adds b.kind=false) (h3:(a.path.toList == c.path.toList)=true) (h6:6≤a.kind) (h8:a.kind≤8)
 (o1:0≤a.off) (o2:a.off≤65536) (o3:0≤b.off) (o4:b.off≤65536) (s1:a.so.size≤65536) (s2:a.sn.size≤65536) (s3:b.so.size≤65536) (s4:b.sn.size≤65536) (n1:a.hunk.fair) (n2:b.hunk.fair):
 Calls Tryz.prog 92 #[a.v,b.v,c.v,d.v] w (Ret (.tuple #[(Rm.content a b c d).1.v,(Rm.content a b c d).2.1.v,.bool (Rm.content a b c d).2.2]) w):=by
 have hw:=rswitch_ways a.kind b.kind (c,d,false) (c.withHunk (a.hunk.commute b.hunk).1,d.withHunk (a.hunk.commute b.hunk).2.1,(a.hunk.commute b.hunk).2.2) (a.xbytes b c d) (c,d,true) (Rm.content a b c d) h6 h8
  (by unfold Rm.content;rw [if_neg (by rw [h1,h2,Qm.eqB,h3];simp;omega)])
 generalize Rm.content a b c d=R at hw ⊢
 have HB:=Lib.hid (fun W=>rxbytes_any a b c d W o1 (by omega) o3 (by omega) (by omega) (by omega) (by omega) (by omega))
 have HH:=Lib.hid (fun W=>rhcommute_any a.hunk b.hunk W n1 n2)
 generalize a.xbytes b c d=X at hw HB
 generalize a.hunk.commute b.hunk=H at hw HH
 have H1:=Lib.hid h1
 have H2:=Lib.hid h2
 have k6:¬ a.kind < 6:=by omega
 clear h1 h2 o1 o2 o3 o4 s1 s2 s3 s4 n1 n2 h6 h8
 have HW:=Lib.hid hw
 clear hw
 go_enter Tryz.func92,Tryz.ntmps92
 have hx:=Ext.refl w
 go_wp2_with fail
 go_at_call 108;refine (rexisting_any a _).mono ?_;rintro e w1 ⟨rfl,hx0⟩;have hy:=Ext.trans (a:=w) EX hx0;clear hx;have hx:=hy;clear hy;have hn0:=BB hx0 (w.heap.size);have hn1:=BB hx0 (w.heap.size+1);have hn2:=BB hx0 (w.heap.size+1+1);have hn3:=BB hx0 (w.heap.size+1+1+1);have hn4:=BB hx0 (w.heap.size+1+1+1+1);have hn5:=BB hx0 (w.heap.size+1+1+1+1+1);(first | simp [↓heap_drew_at,↓heap_drewN_at,↓heap_alloc_at,↓heap_set_at,ne_two,ne_three,ne_two_left,ne_three_left,ne_four,ne_five,ne_six,ne_four_left,ne_five_left,ne_six_left,↓hb0.eq,hb0.lt,hb0.ne,↓hb1.eq,hb1.lt,hb1.ne,↓hb2.eq,hb2.lt,hb2.ne,↓hb3.eq,hb3.lt,hb3.ne,↓hb4.eq,hb4.lt,hb4.ne,↓hb5.eq,hb5.lt,hb5.ne] at hn0 hn1 hn2 hn3 hn4 hn5 | simp [↓heap_drew_at,↓heap_drewN_at,↓heap_alloc_at,↓heap_set_at,ne_two,ne_three,ne_two_left,ne_three_left,ne_four,ne_five,ne_six,ne_four_left,ne_five_left,ne_six_left] at hn0 hn1 hn2 hn3 hn4 hn5);(try clear hb0 hc0 hf0 hl0);(try clear hb1 hc1 hf1 hl1);(try clear hb2 hc2 hf2 hl2);(try clear hb3 hc3 hf3 hl3);(try clear hb4 hc4 hf4 hl4);(try clear hb5 hc5 hf5 hl5);have hb0:=Blk.mk hn0;clear hn0;obtain ⟨hc0,hf0,hl0⟩:=hb0.all;have hb1:=Blk.mk hn1;clear hn1;obtain ⟨hc1,hf1,hl1⟩:=hb1.all;have hb2:=Blk.mk hn2;clear hn2;obtain ⟨hc2,hf2,hl2⟩:=hb2.all;have hb3:=Blk.mk hn3;clear hn3;obtain ⟨hc3,hf3,hl3⟩:=hb3.all;have hb4:=Blk.mk hn4;clear hn4;obtain ⟨hc4,hf4,hl4⟩:=hb4.all;have hb5:=Blk.mk hn5;clear hn5;obtain ⟨hc5,hf5,hl5⟩:=hb5.all;(try clear hx0);rw [H1.out]
 go_wp2_with fail
 go_at_call 108;refine (rexisting_any b _).mono ?_;rintro e w1 ⟨rfl,hx0⟩;have hy:=Ext.trans (a:=w) EX hx0;clear hx;have hx:=hy;clear hy;have hn0:=BB hx0 (w.heap.size);have hn1:=BB hx0 (w.heap.size+1);have hn2:=BB hx0 (w.heap.size+1+1);have hn3:=BB hx0 (w.heap.size+1+1+1);have hn4:=BB hx0 (w.heap.size+1+1+1+1);have hn5:=BB hx0 (w.heap.size+1+1+1+1+1);(first | simp [↓heap_drew_at,↓heap_drewN_at,↓heap_alloc_at,↓heap_set_at,ne_two,ne_three,ne_two_left,ne_three_left,ne_four,ne_five,ne_six,ne_four_left,ne_five_left,ne_six_left,↓hb0.eq,hb0.lt,hb0.ne,↓hb1.eq,hb1.lt,hb1.ne,↓hb2.eq,hb2.lt,hb2.ne,↓hb3.eq,hb3.lt,hb3.ne,↓hb4.eq,hb4.lt,hb4.ne,↓hb5.eq,hb5.lt,hb5.ne] at hn0 hn1 hn2 hn3 hn4 hn5 | simp [↓heap_drew_at,↓heap_drewN_at,↓heap_alloc_at,↓heap_set_at,ne_two,ne_three,ne_two_left,ne_three_left,ne_four,ne_five,ne_six,ne_four_left,ne_five_left,ne_six_left] at hn0 hn1 hn2 hn3 hn4 hn5);(try clear hb0 hc0 hf0 hl0);(try clear hb1 hc1 hf1 hl1);(try clear hb2 hc2 hf2 hl2);(try clear hb3 hc3 hf3 hl3);(try clear hb4 hc4 hf4 hl4);(try clear hb5 hc5 hf5 hl5);have hb0:=Blk.mk hn0;clear hn0;obtain ⟨hc0,hf0,hl0⟩:=hb0.all;have hb1:=Blk.mk hn1;clear hn1;obtain ⟨hc1,hf1,hl1⟩:=hb1.all;have hb2:=Blk.mk hn2;clear hn2;obtain ⟨hc2,hf2,hl2⟩:=hb2.all;have hb3:=Blk.mk hn3;clear hn3;obtain ⟨hc3,hf3,hl3⟩:=hb3.all;have hb4:=Blk.mk hn4;clear hn4;obtain ⟨hc4,hf4,hl4⟩:=hb4.all;have hb5:=Blk.mk hn5;clear hn5;obtain ⟨hc5,hf5,hl5⟩:=hb5.all;(try clear hx0);rw [H2.out]
 go_upto_region 3 with fail
 rcases HW.out with ⟨j1,rfl⟩ | ⟨j1,j2,j3,rfl⟩ | ⟨j1,j2,j3,j4,rfl⟩ | ⟨j1,j2,j3,j4,j5,rfl⟩ | ⟨j1,j2,j3,j4,j5,j6,hR⟩ | ⟨j1,j2,j3,j4,j5,j6,hR⟩ | ⟨j1,j2,j3,j4,j5,j6,rfl⟩ | ⟨j1,j2,j3,j4,j5,j6,rfl⟩ | ⟨j1,j2,j3,j4,rfl⟩ | ⟨j1,j2,j3,j4,j5,j6,j7,rfl⟩ | ⟨j1,j2,j3,j4,j5,j6,j7,rfl⟩
 case inr.inr.inr.inr.inl=>
  have HR:=Lib.hid hR
  clear hR
  go_wp2_with (go_at_call 111;refine (HB.out _).mono ?_;rintro e w1 ⟨rfl,hx0⟩;have hy:=Ext.trans (a:=w) EX hx0;clear hx;have hx:=hy;clear hy;have hn0:=BB hx0 (w.heap.size);have hn1:=BB hx0 (w.heap.size+1);have hn2:=BB hx0 (w.heap.size+1+1);have hn3:=BB hx0 (w.heap.size+1+1+1);have hn4:=BB hx0 (w.heap.size+1+1+1+1);have hn5:=BB hx0 (w.heap.size+1+1+1+1+1);(first | simp [↓heap_drew_at,↓heap_drewN_at,↓heap_alloc_at,↓heap_set_at,ne_two,ne_three,ne_two_left,ne_three_left,ne_four,ne_five,ne_six,ne_four_left,ne_five_left,ne_six_left,↓hb0.eq,hb0.lt,hb0.ne,↓hb1.eq,hb1.lt,hb1.ne,↓hb2.eq,hb2.lt,hb2.ne,↓hb3.eq,hb3.lt,hb3.ne,↓hb4.eq,hb4.lt,hb4.ne,↓hb5.eq,hb5.lt,hb5.ne] at hn0 hn1 hn2 hn3 hn4 hn5 | simp [↓heap_drew_at,↓heap_drewN_at,↓heap_alloc_at,↓heap_set_at,ne_two,ne_three,ne_two_left,ne_three_left,ne_four,ne_five,ne_six,ne_four_left,ne_five_left,ne_six_left] at hn0 hn1 hn2 hn3 hn4 hn5);(try clear hb0 hc0 hf0 hl0);(try clear hb1 hc1 hf1 hl1);(try clear hb2 hc2 hf2 hl2);(try clear hb3 hc3 hf3 hl3);(try clear hb4 hc4 hf4 hl4);(try clear hb5 hc5 hf5 hl5);have hb0:=Blk.mk hn0;clear hn0;obtain ⟨hc0,hf0,hl0⟩:=hb0.all;have hb1:=Blk.mk hn1;clear hn1;obtain ⟨hc1,hf1,hl1⟩:=hb1.all;have hb2:=Blk.mk hn2;clear hn2;obtain ⟨hc2,hf2,hl2⟩:=hb2.all;have hb3:=Blk.mk hn3;clear hn3;obtain ⟨hc3,hf3,hl3⟩:=hb3.all;have hb4:=Blk.mk hn4;clear hn4;obtain ⟨hc4,hf4,hl4⟩:=hb4.all;have hb5:=Blk.mk hn5;clear hn5;obtain ⟨hc5,hf5,hl5⟩:=hb5.all;(try clear hx0))
  rw [HR.out]
  (refine bodyPost_ret (v:=.tuple #[X.1.v,X.2.1.v,.bool X.2.2]) ?_ rfl ?_;(focus (simp only [results,Tryz.results92];go_simp;(try (simp));done));refine Ret.mk rfl ?_;(focus (exact EX;done)))
 case inr.inr.inr.inr.inr.inl=>
  have HR:=Lib.hid hR
  clear hR
  go_wp2_with (go_at_call 112;refine (HH.out _).mono ?_;rintro e w1 ⟨rfl,hx0⟩;have hy:=Ext.trans (a:=w) EX hx0;clear hx;have hx:=hy;clear hy;have hn0:=BB hx0 (w.heap.size);have hn1:=BB hx0 (w.heap.size+1);have hn2:=BB hx0 (w.heap.size+1+1);have hn3:=BB hx0 (w.heap.size+1+1+1);have hn4:=BB hx0 (w.heap.size+1+1+1+1);have hn5:=BB hx0 (w.heap.size+1+1+1+1+1);(first | simp [↓heap_drew_at,↓heap_drewN_at,↓heap_alloc_at,↓heap_set_at,ne_two,ne_three,ne_two_left,ne_three_left,ne_four,ne_five,ne_six,ne_four_left,ne_five_left,ne_six_left,↓hb0.eq,hb0.lt,hb0.ne,↓hb1.eq,hb1.lt,hb1.ne,↓hb2.eq,hb2.lt,hb2.ne,↓hb3.eq,hb3.lt,hb3.ne,↓hb4.eq,hb4.lt,hb4.ne,↓hb5.eq,hb5.lt,hb5.ne] at hn0 hn1 hn2 hn3 hn4 hn5 | simp [↓heap_drew_at,↓heap_drewN_at,↓heap_alloc_at,↓heap_set_at,ne_two,ne_three,ne_two_left,ne_three_left,ne_four,ne_five,ne_six,ne_four_left,ne_five_left,ne_six_left] at hn0 hn1 hn2 hn3 hn4 hn5);(try clear hb0 hc0 hf0 hl0);(try clear hb1 hc1 hf1 hl1);(try clear hb2 hc2 hf2 hl2);(try clear hb3 hc3 hf3 hl3);(try clear hb4 hc4 hf4 hl4);(try clear hb5 hc5 hf5 hl5);have hb0:=Blk.mk hn0;clear hn0;obtain ⟨hc0,hf0,hl0⟩:=hb0.all;have hb1:=Blk.mk hn1;clear hn1;obtain ⟨hc1,hf1,hl1⟩:=hb1.all;have hb2:=Blk.mk hn2;clear hn2;obtain ⟨hc2,hf2,hl2⟩:=hb2.all;have hb3:=Blk.mk hn3;clear hn3;obtain ⟨hc3,hf3,hl3⟩:=hb3.all;have hb4:=Blk.mk hn4;clear hn4;obtain ⟨hc4,hf4,hl4⟩:=hb4.all;have hb5:=Blk.mk hn5;clear hn5;obtain ⟨hc5,hf5,hl5⟩:=hb5.all;(try clear hx0))
  go_region
  all_goals go_wp2
  all_goals (try go_region)
  all_goals (try go_wp2)
  all_goals rw [HR.out]
  all_goals (refine bodyPost_ret (v:=.tuple #[(c.withHunk H.1).v,(d.withHunk H.2.1).v,.bool H.2.2]) ?_ rfl ?_;(focus (simp only [results,Tryz.results92];go_simp;(try (simp [Pv.withHunk]));done));refine Ret.mk rfl ?_;(focus (exact EX;done)))
 all_goals
  clear HW HB HH
  go_wp2_with fail
  go_region
  all_goals go_wp2
 all_goals first
  | (refine bodyPost_ret (v:=.tuple #[c.v,d.v,.bool false]) ?_ rfl ?_;(focus (simp only [results,Tryz.results92];go_simp;(try (simp));done));refine Ret.mk rfl ?_;(focus (exact EX;done)))
  | (refine bodyPost_ret (v:=.tuple #[c.v,d.v,.bool true]) ?_ rfl ?_;(focus (simp only [results,Tryz.results92];go_simp;(try (simp));done));refine Ret.mk rfl ?_;(focus (exact EX;done)))
end Go.Proofs.YtlbhaimfjfdppaaGreatDoor
