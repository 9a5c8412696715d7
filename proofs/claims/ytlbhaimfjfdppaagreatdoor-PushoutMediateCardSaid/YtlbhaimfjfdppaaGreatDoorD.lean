import Derived.Test.YtlbhaimfjfdppaaGreatDoorBase
import Derived.Test.YtlbhaimfjfdppaaGreatDoorShelf
set_option linter.unusedSimpArgs false
set_option linter.unusedVariables false
namespace Go.Proofs.YtlbhaimfjfdppaaGreatDoor
open Go.RowKit
set_option maxHeartbeats 400000 in
theorem growth_any (h:Hv) (w:World) (hb:h.fair):
 Calls Tryz.prog 118 #[h.v] w (Ret (.int .i64 h.growth) w):=by
 obtain ⟨hb1,hb2⟩:=hb
 go_enter Tryz.func118,Tryz.ntmps118
 have hx:=Ext.refl w
 go_wp2
 (go_ret;refine Ret.mk ?_ ?_;(focus (rfl;done));(focus (exact EX;done)))
set_option maxHeartbeats 400000 in
theorem shifted_any (h:Hv) (d:Int) (w:World) (h1:-1152921504606846976≤h.at_) (h2:h.at_≤1152921504606846976) (h3:-1152921504606846976≤d) (h4:d≤1152921504606846976):
 Calls Tryz.prog 117 #[h.v,.int .i64 d] w (Ret (.tuple #[(h.shift d).v,.bool (decide (h.at_+d≤1099511627776))]) w):=by
 go_enter Tryz.func117,Tryz.ntmps117
 have hx:=Ext.refl w
 go_wp2
 go_region
 all_goals go_wp2
 all_goals (refine bodyPost_ret (v:=.tuple #[(h.shift d).v,.bool (decide (h.at_+d≤1099511627776))]) ?_ rfl ?_;(focus (simp only [results,Tryz.results117];go_simp;(try (simp [Hv.shift]));done));refine Ret.mk rfl ?_;(focus (exact EX;done)))
set_option maxHeartbeats 400000 in
theorem both_any (hh kk:Hv) (b:Bool) (w:World):
 Calls Tryz.prog 119 #[hh.v,kk.v,.bool b] w (Ret (if b then .tuple #[hh.v,kk.v,.bool true] else .tuple #[Hv.zero.v,Hv.zero.v,.bool false]) w):=by
 cases b
 ·
  go_enter Tryz.func119,Tryz.ntmps119
  have hx:=Ext.refl w
  go_wp2
  (refine bodyPost_ret (v:=.tuple #[Hv.zero.v,Hv.zero.v,.bool false]) ?_ rfl ?_;(focus (simp only [results,Tryz.results119];go_simp;(try (simp [Hv.zero]));done));refine Ret.mk rfl ?_;(focus (exact EX;done)))
 ·
  go_enter Tryz.func119,Tryz.ntmps119
  have hx:=Ext.refl w
  go_wp2
  go_region
  all_goals go_wp2
  all_goals (refine bodyPost_ret (v:=.tuple #[hh.v,kk.v,.bool true]) ?_ rfl ?_;(focus (simp only [results,Tryz.results119];go_simp;(try (simp));done));refine Ret.mk rfl ?_;(focus (exact EX;done)))
end Go.Proofs.YtlbhaimfjfdppaaGreatDoor
namespace Go.Proofs.YtlbhaimfjfdppaaGreatDoor
open Go.RowKit
set_option maxHeartbeats 2000000 in
set_option maxRecDepth 100000 in
theorem hcheck_any (h:Hv) (bX:Nat) (w:World) (hb:h.fair) (hbX:Blk w bX 40 #[.int .i64 h.at_,.slice h.A1 h.n1 h.c1,.slice h.A2 h.n2 h.c2]):
 Calls Tryz.prog 133 #[.slice (some ⟨bX,0,none⟩) 1 1] w (Ret (.int .i64 h.check) w):=by
 obtain ⟨hb1,hb2⟩:=hb
 obtain ⟨hcX,hfX,hlX⟩:=hbX.all
 have hneX:w.heap.size≠bX:=by omega
 go_enter Tryz.func133,Tryz.ntmps133
 have hx:=Ext.refl w
 go_wp2
 refine wp_loop_rounds 2 ?_
 rw [rounds_succ]
 go_wp2
 ·(go_ret;refine Ret.mk ?_ ?_;(focus (simp [Hv.check];omega;done));(focus (exact EX;done)))
 ·(go_ret;refine Ret.mk ?_ ?_;(focus (have h0:(h.n1:Int)+h.n2=0:=(by simpa using ‹((h.n1:Int)+h.n2 == 0)=true›);have h1:h.n1+h.n2=0:=(by omega);simp [Hv.check,h1];omega;done));(focus (exact EX;done)))
 ·go_quiet (fail)
  go_wp2
  rw [rounds_succ]
  go_wp2
  (go_ret;refine Ret.mk ?_ ?_;(focus (have h0:¬ (h.n1:Int)+h.n2=0:=(by simpa using ‹((h.n1:Int)+h.n2 == 0)=false›);have h1:¬ h.n1+h.n2=0:=(by omega);have hck:h.check=0:=(by simp only [Hv.check,h1,if_false];rw [if_neg (by omega)]);rw [hck];rfl;done));(focus (exact EX;done)))
 ·(go_ret;refine Ret.mk ?_ ?_;(focus (simp [Hv.check];omega;done));(focus (exact EX;done)))
set_option maxHeartbeats 1000000 in
theorem hvalid_any (h:Hv) (w:World) (hb:h.fair):
 Calls Tryz.prog 116 #[h.v] w (Ret (.bool (h.check == 0)) w):=by
 go_enter Tryz.func116,Tryz.ntmps116
 have hx:=Ext.refl w
 go_wp2_with (go_at_call 133;refine (hcheck_any h _ _ hb (Blk.new' (by simp))).mono ?_;rintro e w1 ⟨rfl,hx0⟩;have hy:=Ext.trans (a:=w) EX hx0;clear hx;have hx:=hy;clear hy;skip;(try clear hx0))
 (go_ret;refine Ret.mk ?_ ?_;(focus (rfl;done));(focus (exact EX;done)))
end Go.Proofs.YtlbhaimfjfdppaaGreatDoor
namespace Go.Proofs.YtlbhaimfjfdppaaGreatDoor
open Go.RowKit
def Hv.commute (a b:Hv):Hv × Hv × Bool:=
 if (a.check == 0)=false∨(b.check == 0)=false then (Hv.zero,Hv.zero,false)
 else if a.at_+a.n2 < b.at_ then (if (b.shift (-a.growth)).at_≤1099511627776 then (b.shift (-a.growth),a,true) else (Hv.zero,Hv.zero,false))
 else if b.at_+b.n1 < a.at_ then (if (a.shift b.growth).at_≤1099511627776 then (b,a.shift b.growth,true) else (Hv.zero,Hv.zero,false))
 else (Hv.zero,Hv.zero,false)
theorem Hv.check_bounds {h:Hv} (hc:(h.check == 0)=true):0≤h.at_∧h.at_≤1099511627776:=by
 simp only [Hv.check,beq_iff_eq] at hc
 split at hc
 ·cases hc
 ·omega
set_option maxHeartbeats 8000000 in
set_option maxRecDepth 100000 in
theorem hcommute_bad (a b:Hv) (w:World) (ha:a.fair) (hb:b.fair) (hbad:(a.check == 0)=false∨(b.check == 0)=false):
 Calls Tryz.prog 100 #[a.v,b.v] w (Ret (.tuple #[(a.commute b).1.v,(a.commute b).2.1.v,.bool (a.commute b).2.2]) w):=by
 obtain ⟨ha1,ha2⟩:=ha
 obtain ⟨hb1,hb2⟩:=hb
 cases va:(a.check == 0)
 ·have hm:a.commute b=(Hv.zero,Hv.zero,false):=by simp [Hv.commute,va]
  rw [hm]
  have Va:=Lib.hid va;clear va hm
  go_enter Tryz.func100,Tryz.ntmps100
  have hx:=Ext.refl w
  go_wp2_with (first
   | (go_at_call 116;refine (hvalid_any a _ ⟨by omega,by omega⟩).mono ?_;rintro e w1 ⟨rfl,hx0⟩;have hy:=Ext.trans (a:=w) EX hx0;clear hx;have hx:=hy;clear hy;have hn0:=BB hx0 (w.heap.size);have hn1:=BB hx0 (w.heap.size+1);have hn2:=BB hx0 (w.heap.size+1+1);have hn3:=BB hx0 (w.heap.size+1+1+1);(first | simp [↓heap_drew_at,↓heap_drewN_at,↓heap_alloc_at,↓heap_set_at,ne_two,ne_three,ne_two_left,ne_three_left,↓hb0.eq,hb0.lt,hb0.ne,↓hb1.eq,hb1.lt,hb1.ne,↓hb2.eq,hb2.lt,hb2.ne,↓hb3.eq,hb3.lt,hb3.ne] at hn0 hn1 hn2 hn3 | simp [↓heap_drew_at,↓heap_drewN_at,↓heap_alloc_at,↓heap_set_at,ne_two,ne_three,ne_two_left,ne_three_left] at hn0 hn1 hn2 hn3);(try clear hb0 hc0 hf0 hl0);(try clear hb1 hc1 hf1 hl1);(try clear hb2 hc2 hf2 hl2);(try clear hb3 hc3 hf3 hl3);have hb0:=Blk.mk hn0;clear hn0;obtain ⟨hc0,hf0,hl0⟩:=hb0.all;have hb1:=Blk.mk hn1;clear hn1;obtain ⟨hc1,hf1,hl1⟩:=hb1.all;have hb2:=Blk.mk hn2;clear hn2;obtain ⟨hc2,hf2,hl2⟩:=hb2.all;have hb3:=Blk.mk hn3;clear hn3;obtain ⟨hc3,hf3,hl3⟩:=hb3.all;(try clear hx0);rw [Va.out])
   | (go_at_call 119;refine (both_any Hv.zero Hv.zero false _).mono ?_;rintro e w1 ⟨rfl,hx0⟩;have hy:=Ext.trans (a:=w) EX hx0;clear hx;have hx:=hy;clear hy;have hn0:=BB hx0 (w.heap.size);have hn1:=BB hx0 (w.heap.size+1);have hn2:=BB hx0 (w.heap.size+1+1);have hn3:=BB hx0 (w.heap.size+1+1+1);(first | simp [↓heap_drew_at,↓heap_drewN_at,↓heap_alloc_at,↓heap_set_at,ne_two,ne_three,ne_two_left,ne_three_left,↓hb0.eq,hb0.lt,hb0.ne,↓hb1.eq,hb1.lt,hb1.ne,↓hb2.eq,hb2.lt,hb2.ne,↓hb3.eq,hb3.lt,hb3.ne] at hn0 hn1 hn2 hn3 | simp [↓heap_drew_at,↓heap_drewN_at,↓heap_alloc_at,↓heap_set_at,ne_two,ne_three,ne_two_left,ne_three_left] at hn0 hn1 hn2 hn3);(try clear hb0 hc0 hf0 hl0);(try clear hb1 hc1 hf1 hl1);(try clear hb2 hc2 hf2 hl2);(try clear hb3 hc3 hf3 hl3);have hb0:=Blk.mk hn0;clear hn0;obtain ⟨hc0,hf0,hl0⟩:=hb0.all;have hb1:=Blk.mk hn1;clear hn1;obtain ⟨hc1,hf1,hl1⟩:=hb1.all;have hb2:=Blk.mk hn2;clear hn2;obtain ⟨hc2,hf2,hl2⟩:=hb2.all;have hb3:=Blk.mk hn3;clear hn3;obtain ⟨hc3,hf3,hl3⟩:=hb3.all;(try clear hx0)))
  (refine bodyPost_ret (v:=.tuple #[Hv.zero.v,Hv.zero.v,.bool false]) ?_ rfl ?_;(focus (simp only [results,Tryz.results100];go_simp;(try (simp));done));refine Ret.mk rfl ?_;(focus (exact EX;done)))
 ·have hA:=Hv.check_bounds va
  have Va:=Lib.hid va
  cases vb:(b.check == 0)
  ·have hm:a.commute b=(Hv.zero,Hv.zero,false):=by simp [Hv.commute,vb]
   rw [hm]
   have Vb:=Lib.hid vb;clear va vb hm
   go_enter Tryz.func100,Tryz.ntmps100
   have hx:=Ext.refl w
   go_wp2_with fail
   go_at_call 116;refine (hvalid_any a _ ⟨by omega,by omega⟩).mono ?_;rintro e w1 ⟨rfl,hx0⟩;have hy:=Ext.trans (a:=w) EX hx0;clear hx;have hx:=hy;clear hy;have hn0:=BB hx0 (w.heap.size);have hn1:=BB hx0 (w.heap.size+1);have hn2:=BB hx0 (w.heap.size+1+1);have hn3:=BB hx0 (w.heap.size+1+1+1);(first | simp [↓heap_drew_at,↓heap_drewN_at,↓heap_alloc_at,↓heap_set_at,ne_two,ne_three,ne_two_left,ne_three_left,↓hb0.eq,hb0.lt,hb0.ne,↓hb1.eq,hb1.lt,hb1.ne,↓hb2.eq,hb2.lt,hb2.ne,↓hb3.eq,hb3.lt,hb3.ne] at hn0 hn1 hn2 hn3 | simp [↓heap_drew_at,↓heap_drewN_at,↓heap_alloc_at,↓heap_set_at,ne_two,ne_three,ne_two_left,ne_three_left] at hn0 hn1 hn2 hn3);(try clear hb0 hc0 hf0 hl0);(try clear hb1 hc1 hf1 hl1);(try clear hb2 hc2 hf2 hl2);(try clear hb3 hc3 hf3 hl3);have hb0:=Blk.mk hn0;clear hn0;obtain ⟨hc0,hf0,hl0⟩:=hb0.all;have hb1:=Blk.mk hn1;clear hn1;obtain ⟨hc1,hf1,hl1⟩:=hb1.all;have hb2:=Blk.mk hn2;clear hn2;obtain ⟨hc2,hf2,hl2⟩:=hb2.all;have hb3:=Blk.mk hn3;clear hn3;obtain ⟨hc3,hf3,hl3⟩:=hb3.all;(try clear hx0);rw [Va.out]
   go_wp2_with fail
   go_at_call 116;refine (hvalid_any b _ ⟨by omega,by omega⟩).mono ?_;rintro e w1 ⟨rfl,hx0⟩;have hy:=Ext.trans (a:=w) EX hx0;clear hx;have hx:=hy;clear hy;have hn0:=BB hx0 (w.heap.size);have hn1:=BB hx0 (w.heap.size+1);have hn2:=BB hx0 (w.heap.size+1+1);have hn3:=BB hx0 (w.heap.size+1+1+1);(first | simp [↓heap_drew_at,↓heap_drewN_at,↓heap_alloc_at,↓heap_set_at,ne_two,ne_three,ne_two_left,ne_three_left,↓hb0.eq,hb0.lt,hb0.ne,↓hb1.eq,hb1.lt,hb1.ne,↓hb2.eq,hb2.lt,hb2.ne,↓hb3.eq,hb3.lt,hb3.ne] at hn0 hn1 hn2 hn3 | simp [↓heap_drew_at,↓heap_drewN_at,↓heap_alloc_at,↓heap_set_at,ne_two,ne_three,ne_two_left,ne_three_left] at hn0 hn1 hn2 hn3);(try clear hb0 hc0 hf0 hl0);(try clear hb1 hc1 hf1 hl1);(try clear hb2 hc2 hf2 hl2);(try clear hb3 hc3 hf3 hl3);have hb0:=Blk.mk hn0;clear hn0;obtain ⟨hc0,hf0,hl0⟩:=hb0.all;have hb1:=Blk.mk hn1;clear hn1;obtain ⟨hc1,hf1,hl1⟩:=hb1.all;have hb2:=Blk.mk hn2;clear hn2;obtain ⟨hc2,hf2,hl2⟩:=hb2.all;have hb3:=Blk.mk hn3;clear hn3;obtain ⟨hc3,hf3,hl3⟩:=hb3.all;(try clear hx0);rw [Vb.out]
   go_wp2_with (go_at_call 119;refine (both_any Hv.zero Hv.zero false _).mono ?_;rintro e w1 ⟨rfl,hx0⟩;have hy:=Ext.trans (a:=w) EX hx0;clear hx;have hx:=hy;clear hy;have hn0:=BB hx0 (w.heap.size);have hn1:=BB hx0 (w.heap.size+1);have hn2:=BB hx0 (w.heap.size+1+1);have hn3:=BB hx0 (w.heap.size+1+1+1);(first | simp [↓heap_drew_at,↓heap_drewN_at,↓heap_alloc_at,↓heap_set_at,ne_two,ne_three,ne_two_left,ne_three_left,↓hb0.eq,hb0.lt,hb0.ne,↓hb1.eq,hb1.lt,hb1.ne,↓hb2.eq,hb2.lt,hb2.ne,↓hb3.eq,hb3.lt,hb3.ne] at hn0 hn1 hn2 hn3 | simp [↓heap_drew_at,↓heap_drewN_at,↓heap_alloc_at,↓heap_set_at,ne_two,ne_three,ne_two_left,ne_three_left] at hn0 hn1 hn2 hn3);(try clear hb0 hc0 hf0 hl0);(try clear hb1 hc1 hf1 hl1);(try clear hb2 hc2 hf2 hl2);(try clear hb3 hc3 hf3 hl3);have hb0:=Blk.mk hn0;clear hn0;obtain ⟨hc0,hf0,hl0⟩:=hb0.all;have hb1:=Blk.mk hn1;clear hn1;obtain ⟨hc1,hf1,hl1⟩:=hb1.all;have hb2:=Blk.mk hn2;clear hn2;obtain ⟨hc2,hf2,hl2⟩:=hb2.all;have hb3:=Blk.mk hn3;clear hn3;obtain ⟨hc3,hf3,hl3⟩:=hb3.all;(try clear hx0))
   (refine bodyPost_ret (v:=.tuple #[Hv.zero.v,Hv.zero.v,.bool false]) ?_ rfl ?_;(focus (simp only [results,Tryz.results100];go_simp;(try (simp));done));refine Ret.mk rfl ?_;(focus (exact EX;done)))
  ·rw [va,vb] at hbad;rcases hbad with h0 | h0 <;> cases h0
theorem Hv.commute_else {a b:Hv} (va:(a.check == 0)=true) (vb:(b.check == 0)=true) (c1:¬ a.at_+a.n2 < b.at_) (c2:¬ b.at_+b.n1 < a.at_):a.commute b=(Hv.zero,Hv.zero,false):=by simp [Hv.commute,va,vb,c1,c2]
set_option maxHeartbeats 8000000 in
set_option maxRecDepth 100000 in
theorem hcommute_else (a b:Hv) (w:World) (ha:a.fair) (hb:b.fair) (va:(a.check == 0)=true) (vb:(b.check == 0)=true) (c1:¬ a.at_+a.n2 < b.at_) (c2:¬ b.at_+b.n1 < a.at_):
 Calls Tryz.prog 100 #[a.v,b.v] w (Ret (.tuple #[(a.commute b).1.v,(a.commute b).2.1.v,.bool (a.commute b).2.2]) w):=by
 obtain ⟨ha1,ha2⟩:=ha
 obtain ⟨hb1,hb2⟩:=hb
 have hA:=Hv.check_bounds va
 have hB:=Hv.check_bounds vb
 have Va:=Lib.hid va
 have Vb:=Lib.hid vb
 rw [Hv.commute_else va vb c1 c2]
 clear va vb
 go_enter Tryz.func100,Tryz.ntmps100
 have hx:=Ext.refl w
 go_wp2_with fail
 go_at_call 116;refine (hvalid_any a _ ⟨by omega,by omega⟩).mono ?_;rintro e w1 ⟨rfl,hx0⟩;have hy:=Ext.trans (a:=w) EX hx0;clear hx;have hx:=hy;clear hy;have hn0:=BB hx0 (w.heap.size);have hn1:=BB hx0 (w.heap.size+1);have hn2:=BB hx0 (w.heap.size+1+1);have hn3:=BB hx0 (w.heap.size+1+1+1);(first | simp [↓heap_drew_at,↓heap_drewN_at,↓heap_alloc_at,↓heap_set_at,ne_two,ne_three,ne_two_left,ne_three_left,↓hb0.eq,hb0.lt,hb0.ne,↓hb1.eq,hb1.lt,hb1.ne,↓hb2.eq,hb2.lt,hb2.ne,↓hb3.eq,hb3.lt,hb3.ne] at hn0 hn1 hn2 hn3 | simp [↓heap_drew_at,↓heap_drewN_at,↓heap_alloc_at,↓heap_set_at,ne_two,ne_three,ne_two_left,ne_three_left] at hn0 hn1 hn2 hn3);(try clear hb0 hc0 hf0 hl0);(try clear hb1 hc1 hf1 hl1);(try clear hb2 hc2 hf2 hl2);(try clear hb3 hc3 hf3 hl3);have hb0:=Blk.mk hn0;clear hn0;obtain ⟨hc0,hf0,hl0⟩:=hb0.all;have hb1:=Blk.mk hn1;clear hn1;obtain ⟨hc1,hf1,hl1⟩:=hb1.all;have hb2:=Blk.mk hn2;clear hn2;obtain ⟨hc2,hf2,hl2⟩:=hb2.all;have hb3:=Blk.mk hn3;clear hn3;obtain ⟨hc3,hf3,hl3⟩:=hb3.all;(try clear hx0);rw [Va.out]
 go_wp2_with fail
 go_at_call 116;refine (hvalid_any b _ ⟨by omega,by omega⟩).mono ?_;rintro e w1 ⟨rfl,hx0⟩;have hy:=Ext.trans (a:=w) EX hx0;clear hx;have hx:=hy;clear hy;have hn0:=BB hx0 (w.heap.size);have hn1:=BB hx0 (w.heap.size+1);have hn2:=BB hx0 (w.heap.size+1+1);have hn3:=BB hx0 (w.heap.size+1+1+1);(first | simp [↓heap_drew_at,↓heap_drewN_at,↓heap_alloc_at,↓heap_set_at,ne_two,ne_three,ne_two_left,ne_three_left,↓hb0.eq,hb0.lt,hb0.ne,↓hb1.eq,hb1.lt,hb1.ne,↓hb2.eq,hb2.lt,hb2.ne,↓hb3.eq,hb3.lt,hb3.ne] at hn0 hn1 hn2 hn3 | simp [↓heap_drew_at,↓heap_drewN_at,↓heap_alloc_at,↓heap_set_at,ne_two,ne_three,ne_two_left,ne_three_left] at hn0 hn1 hn2 hn3);(try clear hb0 hc0 hf0 hl0);(try clear hb1 hc1 hf1 hl1);(try clear hb2 hc2 hf2 hl2);(try clear hb3 hc3 hf3 hl3);have hb0:=Blk.mk hn0;clear hn0;obtain ⟨hc0,hf0,hl0⟩:=hb0.all;have hb1:=Blk.mk hn1;clear hn1;obtain ⟨hc1,hf1,hl1⟩:=hb1.all;have hb2:=Blk.mk hn2;clear hn2;obtain ⟨hc2,hf2,hl2⟩:=hb2.all;have hb3:=Blk.mk hn3;clear hn3;obtain ⟨hc3,hf3,hl3⟩:=hb3.all;(try clear hx0);rw [Vb.out]
 go_wp2_with (go_at_call 119;refine (both_any Hv.zero Hv.zero false _).mono ?_;rintro e w1 ⟨rfl,hx0⟩;have hy:=Ext.trans (a:=w) EX hx0;clear hx;have hx:=hy;clear hy;have hn0:=BB hx0 (w.heap.size);have hn1:=BB hx0 (w.heap.size+1);have hn2:=BB hx0 (w.heap.size+1+1);have hn3:=BB hx0 (w.heap.size+1+1+1);(first | simp [↓heap_drew_at,↓heap_drewN_at,↓heap_alloc_at,↓heap_set_at,ne_two,ne_three,ne_two_left,ne_three_left,↓hb0.eq,hb0.lt,hb0.ne,↓hb1.eq,hb1.lt,hb1.ne,↓hb2.eq,hb2.lt,hb2.ne,↓hb3.eq,hb3.lt,hb3.ne] at hn0 hn1 hn2 hn3 | simp [↓heap_drew_at,↓heap_drewN_at,↓heap_alloc_at,↓heap_set_at,ne_two,ne_three,ne_two_left,ne_three_left] at hn0 hn1 hn2 hn3);(try clear hb0 hc0 hf0 hl0);(try clear hb1 hc1 hf1 hl1);(try clear hb2 hc2 hf2 hl2);(try clear hb3 hc3 hf3 hl3);have hb0:=Blk.mk hn0;clear hn0;obtain ⟨hc0,hf0,hl0⟩:=hb0.all;have hb1:=Blk.mk hn1;clear hn1;obtain ⟨hc1,hf1,hl1⟩:=hb1.all;have hb2:=Blk.mk hn2;clear hn2;obtain ⟨hc2,hf2,hl2⟩:=hb2.all;have hb3:=Blk.mk hn3;clear hn3;obtain ⟨hc3,hf3,hl3⟩:=hb3.all;(try clear hx0))
 (refine bodyPost_ret (v:=.tuple #[Hv.zero.v,Hv.zero.v,.bool false]) ?_ rfl ?_;(focus (simp only [results,Tryz.results100];go_simp;(try (simp));done));refine Ret.mk rfl ?_;(focus (exact EX;done)))
end Go.Proofs.YtlbhaimfjfdppaaGreatDoor
