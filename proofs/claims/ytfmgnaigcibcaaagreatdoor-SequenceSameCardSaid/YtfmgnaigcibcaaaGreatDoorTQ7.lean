import Derived.Test.YtfmgnaigcibcaaaGreatDoorTBase
import Derived.Test.YtfmgnaigcibcaaaGreatDoorShelf
import Derived.Test.YtfmgnaigcibcaaaGreatDoorTQ5
import Derived.Test.YtfmgnaigcibcaaaGreatDoorTQ3
set_option linter.unusedSimpArgs false
set_option linter.unusedVariables false
namespace Go.Proofs.YtfmgnaigcibcaaaGreatDoor
open Go.RowKit
set_option maxHeartbeats 400000 in
theorem growth_any (h:Hv) (w:World) (hb:h.fair):
 Calls Tryz.prog 135 #[h.v] w (Ret (.int .i64 h.growth) w):=by
 obtain ⟨hb1,hb2⟩:=hb
 go_enter Tryz.func135,Tryz.ntmps135
 have hx:=Ext.refl w
 go_wp2
 (go_ret;refine Ret.mk ?_ ?_;(focus (rfl;done));(focus (exact EX;done)))
set_option maxHeartbeats 400000 in
theorem shifted_any (h:Hv) (d:Int) (w:World) (h1:-1152921504606846976≤h.at_) (h2:h.at_≤1152921504606846976) (h3:-1152921504606846976≤d) (h4:d≤1152921504606846976):
 Calls Tryz.prog 134 #[h.v,.int .i64 d] w (Ret (.tuple #[(h.shift d).v,.bool (decide (h.at_+d≤1099511627776))]) w):=by
 go_enter Tryz.func134,Tryz.ntmps134
 have hx:=Ext.refl w
 go_wp2
 go_region
 all_goals go_wp2
 all_goals (refine bodyPost_ret (v:=.tuple #[(h.shift d).v,.bool (decide (h.at_+d≤1099511627776))]) ?_ rfl ?_;(focus (simp only [results,Tryz.results134];go_simp;(try (simp [Hv.shift]));done));refine Ret.mk rfl ?_;(focus (exact EX;done)))
set_option maxHeartbeats 400000 in
theorem both_any (hh kk:Hv) (b:Bool) (w:World):
 Calls Tryz.prog 136 #[hh.v,kk.v,.bool b] w (Ret (if b then .tuple #[hh.v,kk.v,.bool true] else .tuple #[Hv.zero.v,Hv.zero.v,.bool false]) w):=by
 cases b
 ·
  go_enter Tryz.func136,Tryz.ntmps136
  have hx:=Ext.refl w
  go_wp2
  (refine bodyPost_ret (v:=.tuple #[Hv.zero.v,Hv.zero.v,.bool false]) ?_ rfl ?_;(focus (simp only [results,Tryz.results136];go_simp;(try (simp [Hv.zero]));done));refine Ret.mk rfl ?_;(focus (exact EX;done)))
 ·
  go_enter Tryz.func136,Tryz.ntmps136
  have hx:=Ext.refl w
  go_wp2
  go_region
  all_goals go_wp2
  all_goals (refine bodyPost_ret (v:=.tuple #[hh.v,kk.v,.bool true]) ?_ rfl ?_;(focus (simp only [results,Tryz.results136];go_simp;(try (simp));done));refine Ret.mk rfl ?_;(focus (exact EX;done)))
end Go.Proofs.YtfmgnaigcibcaaaGreatDoor
namespace Go.Proofs.YtfmgnaigcibcaaaGreatDoor
open Go.RowKit
set_option maxHeartbeats 2000000 in
set_option maxRecDepth 100000 in
theorem hcheck_any (h:Hv) (bX:Nat) (w:World) (hb:h.fair) (hbX:Blk w bX 26 #[.int .i64 h.at_,.slice h.A1 h.n1 h.c1,.slice h.A2 h.n2 h.c2]):
 Calls Tryz.prog 144 #[.slice (some ⟨bX,0,none⟩) 1 1] w (Ret (.int .i64 h.check) w):=by
 obtain ⟨hb1,hb2⟩:=hb
 obtain ⟨hcX,hfX,hlX⟩:=hbX.all
 have hneX:w.heap.size≠bX:=by omega
 go_enter Tryz.func144,Tryz.ntmps144
 have hx:=Ext.refl w
 go_wp2
 refine wp_loop_rounds 2 ?_
 rw [rounds_succ]
 go_wp2
 ·(go_ret;refine Ret.mk ?_ ?_;(focus (simp [Hv.check];omega;done));(focus (exact EX;done)))
 ·(go_ret;refine Ret.mk ?_ ?_;(focus (have h0:(h.n1:Int)+h.n2=0:=(by simpa using ‹((h.n1:Int)+h.n2 == 0)=true›);have h1:h.n1+h.n2=0:=(by omega);simp [Hv.check,h1];omega;done));(focus (exact EX;done)))
 ·go_quiet (fail)
  go_wp2
  rw [rounds_succ]
  go_wp2
  (go_ret;refine Ret.mk ?_ ?_;(focus (have h0:¬ (h.n1:Int)+h.n2=0:=(by simpa using ‹((h.n1:Int)+h.n2 == 0)=false›);have h1:¬ h.n1+h.n2=0:=(by omega);have hck:h.check=0:=(by simp only [Hv.check,h1,if_false];rw [if_neg (by omega)]);rw [hck];rfl;done));(focus (exact EX;done)))
 ·(go_ret;refine Ret.mk ?_ ?_;(focus (simp [Hv.check];omega;done));(focus (exact EX;done)))
set_option maxHeartbeats 1000000 in
theorem hvalid_any (h:Hv) (w:World) (hb:h.fair):
 Calls Tryz.prog 133 #[h.v] w (Ret (.bool (h.check == 0)) w):=by
 go_enter Tryz.func133,Tryz.ntmps133
 have hx:=Ext.refl w
 go_wp2_with (go_at_call 144;refine (hcheck_any h _ _ hb (Blk.new' (by simp))).mono ?_;rintro e w1 ⟨rfl,hx0⟩;have hy:=Ext.trans (a:=w) EX hx0;clear hx;have hx:=hy;clear hy;skip;(try clear hx0))
 (go_ret;refine Ret.mk ?_ ?_;(focus (rfl;done));(focus (exact EX;done)))
end Go.Proofs.YtfmgnaigcibcaaaGreatDoor
namespace Go.Proofs.YtfmgnaigcibcaaaGreatDoor
open Go.RowKit
def Hv.commute (a b:Hv):Hv × Hv × Bool:=
 if (a.check == 0)=false∨(b.check == 0)=false then (Hv.zero,Hv.zero,false)
 else if a.at_+a.n2 < b.at_ then (if (b.shift (-a.growth)).at_≤1099511627776 then (b.shift (-a.growth),a,true) else (Hv.zero,Hv.zero,false))
 else if b.at_+b.n1 < a.at_ then (if (a.shift b.growth).at_≤1099511627776 then (b,a.shift b.growth,true) else (Hv.zero,Hv.zero,false))
 else (Hv.zero,Hv.zero,false)
theorem Hv.check_bounds {h:Hv} (hc:(h.check == 0)=true):0≤h.at_∧h.at_≤1099511627776:=by
 simp only [Hv.check,beq_iff_eq] at hc
 split at hc
 ·cases hc
 ·omega
set_option maxHeartbeats 8000000 in
set_option maxRecDepth 100000 in
theorem hcommute_bad (a b:Hv) (w:World) (ha:a.fair) (hb:b.fair) (hbad:(a.check == 0)=false∨(b.check == 0)=false):
 Calls Tryz.prog 120 #[a.v,b.v] w (Ret (.tuple #[(a.commute b).1.v,(a.commute b).2.1.v,.bool (a.commute b).2.2]) w):=by
 obtain ⟨ha1,ha2⟩:=ha
 obtain ⟨hb1,hb2⟩:=hb
 cases va:(a.check == 0)
 ·have hm:a.commute b=(Hv.zero,Hv.zero,false):=by simp [Hv.commute,va]
  rw [hm]
  have Va:=Lib.hid va;clear va hm
  go_enter Tryz.func120,Tryz.ntmps120
  have hx:=Ext.refl w
  go_wp2_with (first
   | (go_at_call 133;refine (hvalid_any a _ ⟨by omega,by omega⟩).mono ?_;rintro e w1 ⟨rfl,hx0⟩;have hy:=Ext.trans (a:=w) EX hx0;clear hx;have hx:=hy;clear hy;have hn0:=BB hx0 (w.heap.size);have hn1:=BB hx0 (w.heap.size+1);have hn2:=BB hx0 (w.heap.size+1+1);have hn3:=BB hx0 (w.heap.size+1+1+1);(first | simp [↓heap_drew_at,↓heap_drewN_at,↓heap_alloc_at,↓heap_set_at,ne_two,ne_three,ne_two_left,ne_three_left,↓hb0.eq,hb0.lt,hb0.ne,↓hb1.eq,hb1.lt,hb1.ne,↓hb2.eq,hb2.lt,hb2.ne,↓hb3.eq,hb3.lt,hb3.ne] at hn0 hn1 hn2 hn3 | simp [↓heap_drew_at,↓heap_drewN_at,↓heap_alloc_at,↓heap_set_at,ne_two,ne_three,ne_two_left,ne_three_left] at hn0 hn1 hn2 hn3);(try clear hb0 hc0 hf0 hl0);(try clear hb1 hc1 hf1 hl1);(try clear hb2 hc2 hf2 hl2);(try clear hb3 hc3 hf3 hl3);have hb0:=Blk.mk hn0;clear hn0;obtain ⟨hc0,hf0,hl0⟩:=hb0.all;have hb1:=Blk.mk hn1;clear hn1;obtain ⟨hc1,hf1,hl1⟩:=hb1.all;have hb2:=Blk.mk hn2;clear hn2;obtain ⟨hc2,hf2,hl2⟩:=hb2.all;have hb3:=Blk.mk hn3;clear hn3;obtain ⟨hc3,hf3,hl3⟩:=hb3.all;(try clear hx0);rw [Va.out])
   | (go_at_call 136;refine (both_any Hv.zero Hv.zero false _).mono ?_;rintro e w1 ⟨rfl,hx0⟩;have hy:=Ext.trans (a:=w) EX hx0;clear hx;have hx:=hy;clear hy;have hn0:=BB hx0 (w.heap.size);have hn1:=BB hx0 (w.heap.size+1);have hn2:=BB hx0 (w.heap.size+1+1);have hn3:=BB hx0 (w.heap.size+1+1+1);(first | simp [↓heap_drew_at,↓heap_drewN_at,↓heap_alloc_at,↓heap_set_at,ne_two,ne_three,ne_two_left,ne_three_left,↓hb0.eq,hb0.lt,hb0.ne,↓hb1.eq,hb1.lt,hb1.ne,↓hb2.eq,hb2.lt,hb2.ne,↓hb3.eq,hb3.lt,hb3.ne] at hn0 hn1 hn2 hn3 | simp [↓heap_drew_at,↓heap_drewN_at,↓heap_alloc_at,↓heap_set_at,ne_two,ne_three,ne_two_left,ne_three_left] at hn0 hn1 hn2 hn3);(try clear hb0 hc0 hf0 hl0);(try clear hb1 hc1 hf1 hl1);(try clear hb2 hc2 hf2 hl2);(try clear hb3 hc3 hf3 hl3);have hb0:=Blk.mk hn0;clear hn0;obtain ⟨hc0,hf0,hl0⟩:=hb0.all;have hb1:=Blk.mk hn1;clear hn1;obtain ⟨hc1,hf1,hl1⟩:=hb1.all;have hb2:=Blk.mk hn2;clear hn2;obtain ⟨hc2,hf2,hl2⟩:=hb2.all;have hb3:=Blk.mk hn3;clear hn3;obtain ⟨hc3,hf3,hl3⟩:=hb3.all;(try clear hx0)))
  (refine bodyPost_ret (v:=.tuple #[Hv.zero.v,Hv.zero.v,.bool false]) ?_ rfl ?_;(focus (simp only [results,Tryz.results120];go_simp;(try (simp));done));refine Ret.mk rfl ?_;(focus (exact EX;done)))
 ·have hA:=Hv.check_bounds va
  have Va:=Lib.hid va
  cases vb:(b.check == 0)
  ·have hm:a.commute b=(Hv.zero,Hv.zero,false):=by simp [Hv.commute,vb]
   rw [hm]
   have Vb:=Lib.hid vb;clear va vb hm
   go_enter Tryz.func120,Tryz.ntmps120
   have hx:=Ext.refl w
   go_wp2_with fail
   go_at_call 133;refine (hvalid_any a _ ⟨by omega,by omega⟩).mono ?_;rintro e w1 ⟨rfl,hx0⟩;have hy:=Ext.trans (a:=w) EX hx0;clear hx;have hx:=hy;clear hy;have hn0:=BB hx0 (w.heap.size);have hn1:=BB hx0 (w.heap.size+1);have hn2:=BB hx0 (w.heap.size+1+1);have hn3:=BB hx0 (w.heap.size+1+1+1);(first | simp [↓heap_drew_at,↓heap_drewN_at,↓heap_alloc_at,↓heap_set_at,ne_two,ne_three,ne_two_left,ne_three_left,↓hb0.eq,hb0.lt,hb0.ne,↓hb1.eq,hb1.lt,hb1.ne,↓hb2.eq,hb2.lt,hb2.ne,↓hb3.eq,hb3.lt,hb3.ne] at hn0 hn1 hn2 hn3 | simp [↓heap_drew_at,↓heap_drewN_at,↓heap_alloc_at,↓heap_set_at,ne_two,ne_three,ne_two_left,ne_three_left] at hn0 hn1 hn2 hn3);(try clear hb0 hc0 hf0 hl0);(try clear hb1 hc1 hf1 hl1);(try clear hb2 hc2 hf2 hl2);(try clear hb3 hc3 hf3 hl3);have hb0:=Blk.mk hn0;clear hn0;obtain ⟨hc0,hf0,hl0⟩:=hb0.all;have hb1:=Blk.mk hn1;clear hn1;obtain ⟨hc1,hf1,hl1⟩:=hb1.all;have hb2:=Blk.mk hn2;clear hn2;obtain ⟨hc2,hf2,hl2⟩:=hb2.all;have hb3:=Blk.mk hn3;clear hn3;obtain ⟨hc3,hf3,hl3⟩:=hb3.all;(try clear hx0);rw [Va.out]
   go_wp2_with fail
   go_at_call 133;refine (hvalid_any b _ ⟨by omega,by omega⟩).mono ?_;rintro e w1 ⟨rfl,hx0⟩;have hy:=Ext.trans (a:=w) EX hx0;clear hx;have hx:=hy;clear hy;have hn0:=BB hx0 (w.heap.size);have hn1:=BB hx0 (w.heap.size+1);have hn2:=BB hx0 (w.heap.size+1+1);have hn3:=BB hx0 (w.heap.size+1+1+1);(first | simp [↓heap_drew_at,↓heap_drewN_at,↓heap_alloc_at,↓heap_set_at,ne_two,ne_three,ne_two_left,ne_three_left,↓hb0.eq,hb0.lt,hb0.ne,↓hb1.eq,hb1.lt,hb1.ne,↓hb2.eq,hb2.lt,hb2.ne,↓hb3.eq,hb3.lt,hb3.ne] at hn0 hn1 hn2 hn3 | simp [↓heap_drew_at,↓heap_drewN_at,↓heap_alloc_at,↓heap_set_at,ne_two,ne_three,ne_two_left,ne_three_left] at hn0 hn1 hn2 hn3);(try clear hb0 hc0 hf0 hl0);(try clear hb1 hc1 hf1 hl1);(try clear hb2 hc2 hf2 hl2);(try clear hb3 hc3 hf3 hl3);have hb0:=Blk.mk hn0;clear hn0;obtain ⟨hc0,hf0,hl0⟩:=hb0.all;have hb1:=Blk.mk hn1;clear hn1;obtain ⟨hc1,hf1,hl1⟩:=hb1.all;have hb2:=Blk.mk hn2;clear hn2;obtain ⟨hc2,hf2,hl2⟩:=hb2.all;have hb3:=Blk.mk hn3;clear hn3;obtain ⟨hc3,hf3,hl3⟩:=hb3.all;(try clear hx0);rw [Vb.out]
   go_wp2_with (go_at_call 136;refine (both_any Hv.zero Hv.zero false _).mono ?_;rintro e w1 ⟨rfl,hx0⟩;have hy:=Ext.trans (a:=w) EX hx0;clear hx;have hx:=hy;clear hy;have hn0:=BB hx0 (w.heap.size);have hn1:=BB hx0 (w.heap.size+1);have hn2:=BB hx0 (w.heap.size+1+1);have hn3:=BB hx0 (w.heap.size+1+1+1);(first | simp [↓heap_drew_at,↓heap_drewN_at,↓heap_alloc_at,↓heap_set_at,ne_two,ne_three,ne_two_left,ne_three_left,↓hb0.eq,hb0.lt,hb0.ne,↓hb1.eq,hb1.lt,hb1.ne,↓hb2.eq,hb2.lt,hb2.ne,↓hb3.eq,hb3.lt,hb3.ne] at hn0 hn1 hn2 hn3 | simp [↓heap_drew_at,↓heap_drewN_at,↓heap_alloc_at,↓heap_set_at,ne_two,ne_three,ne_two_left,ne_three_left] at hn0 hn1 hn2 hn3);(try clear hb0 hc0 hf0 hl0);(try clear hb1 hc1 hf1 hl1);(try clear hb2 hc2 hf2 hl2);(try clear hb3 hc3 hf3 hl3);have hb0:=Blk.mk hn0;clear hn0;obtain ⟨hc0,hf0,hl0⟩:=hb0.all;have hb1:=Blk.mk hn1;clear hn1;obtain ⟨hc1,hf1,hl1⟩:=hb1.all;have hb2:=Blk.mk hn2;clear hn2;obtain ⟨hc2,hf2,hl2⟩:=hb2.all;have hb3:=Blk.mk hn3;clear hn3;obtain ⟨hc3,hf3,hl3⟩:=hb3.all;(try clear hx0))
   (refine bodyPost_ret (v:=.tuple #[Hv.zero.v,Hv.zero.v,.bool false]) ?_ rfl ?_;(focus (simp only [results,Tryz.results120];go_simp;(try (simp));done));refine Ret.mk rfl ?_;(focus (exact EX;done)))
  ·rw [va,vb] at hbad;rcases hbad with h0 | h0 <;> cases h0
theorem Hv.commute_else {a b:Hv} (va:(a.check == 0)=true) (vb:(b.check == 0)=true) (c1:¬ a.at_+a.n2 < b.at_) (c2:¬ b.at_+b.n1 < a.at_):a.commute b=(Hv.zero,Hv.zero,false):=by simp [Hv.commute,va,vb,c1,c2]
set_option maxHeartbeats 8000000 in
set_option maxRecDepth 100000 in
theorem hcommute_else (a b:Hv) (w:World) (ha:a.fair) (hb:b.fair) (va:(a.check == 0)=true) (vb:(b.check == 0)=true) (c1:¬ a.at_+a.n2 < b.at_) (c2:¬ b.at_+b.n1 < a.at_):
 Calls Tryz.prog 120 #[a.v,b.v] w (Ret (.tuple #[(a.commute b).1.v,(a.commute b).2.1.v,.bool (a.commute b).2.2]) w):=by
 obtain ⟨ha1,ha2⟩:=ha
 obtain ⟨hb1,hb2⟩:=hb
 have hA:=Hv.check_bounds va
 have hB:=Hv.check_bounds vb
 have Va:=Lib.hid va
 have Vb:=Lib.hid vb
 rw [Hv.commute_else va vb c1 c2]
 clear va vb
 go_enter Tryz.func120,Tryz.ntmps120
 have hx:=Ext.refl w
 go_wp2_with fail
 go_at_call 133;refine (hvalid_any a _ ⟨by omega,by omega⟩).mono ?_;rintro e w1 ⟨rfl,hx0⟩;have hy:=Ext.trans (a:=w) EX hx0;clear hx;have hx:=hy;clear hy;have hn0:=BB hx0 (w.heap.size);have hn1:=BB hx0 (w.heap.size+1);have hn2:=BB hx0 (w.heap.size+1+1);have hn3:=BB hx0 (w.heap.size+1+1+1);(first | simp [↓heap_drew_at,↓heap_drewN_at,↓heap_alloc_at,↓heap_set_at,ne_two,ne_three,ne_two_left,ne_three_left,↓hb0.eq,hb0.lt,hb0.ne,↓hb1.eq,hb1.lt,hb1.ne,↓hb2.eq,hb2.lt,hb2.ne,↓hb3.eq,hb3.lt,hb3.ne] at hn0 hn1 hn2 hn3 | simp [↓heap_drew_at,↓heap_drewN_at,↓heap_alloc_at,↓heap_set_at,ne_two,ne_three,ne_two_left,ne_three_left] at hn0 hn1 hn2 hn3);(try clear hb0 hc0 hf0 hl0);(try clear hb1 hc1 hf1 hl1);(try clear hb2 hc2 hf2 hl2);(try clear hb3 hc3 hf3 hl3);have hb0:=Blk.mk hn0;clear hn0;obtain ⟨hc0,hf0,hl0⟩:=hb0.all;have hb1:=Blk.mk hn1;clear hn1;obtain ⟨hc1,hf1,hl1⟩:=hb1.all;have hb2:=Blk.mk hn2;clear hn2;obtain ⟨hc2,hf2,hl2⟩:=hb2.all;have hb3:=Blk.mk hn3;clear hn3;obtain ⟨hc3,hf3,hl3⟩:=hb3.all;(try clear hx0);rw [Va.out]
 go_wp2_with fail
 go_at_call 133;refine (hvalid_any b _ ⟨by omega,by omega⟩).mono ?_;rintro e w1 ⟨rfl,hx0⟩;have hy:=Ext.trans (a:=w) EX hx0;clear hx;have hx:=hy;clear hy;have hn0:=BB hx0 (w.heap.size);have hn1:=BB hx0 (w.heap.size+1);have hn2:=BB hx0 (w.heap.size+1+1);have hn3:=BB hx0 (w.heap.size+1+1+1);(first | simp [↓heap_drew_at,↓heap_drewN_at,↓heap_alloc_at,↓heap_set_at,ne_two,ne_three,ne_two_left,ne_three_left,↓hb0.eq,hb0.lt,hb0.ne,↓hb1.eq,hb1.lt,hb1.ne,↓hb2.eq,hb2.lt,hb2.ne,↓hb3.eq,hb3.lt,hb3.ne] at hn0 hn1 hn2 hn3 | simp [↓heap_drew_at,↓heap_drewN_at,↓heap_alloc_at,↓heap_set_at,ne_two,ne_three,ne_two_left,ne_three_left] at hn0 hn1 hn2 hn3);(try clear hb0 hc0 hf0 hl0);(try clear hb1 hc1 hf1 hl1);(try clear hb2 hc2 hf2 hl2);(try clear hb3 hc3 hf3 hl3);have hb0:=Blk.mk hn0;clear hn0;obtain ⟨hc0,hf0,hl0⟩:=hb0.all;have hb1:=Blk.mk hn1;clear hn1;obtain ⟨hc1,hf1,hl1⟩:=hb1.all;have hb2:=Blk.mk hn2;clear hn2;obtain ⟨hc2,hf2,hl2⟩:=hb2.all;have hb3:=Blk.mk hn3;clear hn3;obtain ⟨hc3,hf3,hl3⟩:=hb3.all;(try clear hx0);rw [Vb.out]
 go_wp2_with (go_at_call 136;refine (both_any Hv.zero Hv.zero false _).mono ?_;rintro e w1 ⟨rfl,hx0⟩;have hy:=Ext.trans (a:=w) EX hx0;clear hx;have hx:=hy;clear hy;have hn0:=BB hx0 (w.heap.size);have hn1:=BB hx0 (w.heap.size+1);have hn2:=BB hx0 (w.heap.size+1+1);have hn3:=BB hx0 (w.heap.size+1+1+1);(first | simp [↓heap_drew_at,↓heap_drewN_at,↓heap_alloc_at,↓heap_set_at,ne_two,ne_three,ne_two_left,ne_three_left,↓hb0.eq,hb0.lt,hb0.ne,↓hb1.eq,hb1.lt,hb1.ne,↓hb2.eq,hb2.lt,hb2.ne,↓hb3.eq,hb3.lt,hb3.ne] at hn0 hn1 hn2 hn3 | simp [↓heap_drew_at,↓heap_drewN_at,↓heap_alloc_at,↓heap_set_at,ne_two,ne_three,ne_two_left,ne_three_left] at hn0 hn1 hn2 hn3);(try clear hb0 hc0 hf0 hl0);(try clear hb1 hc1 hf1 hl1);(try clear hb2 hc2 hf2 hl2);(try clear hb3 hc3 hf3 hl3);have hb0:=Blk.mk hn0;clear hn0;obtain ⟨hc0,hf0,hl0⟩:=hb0.all;have hb1:=Blk.mk hn1;clear hn1;obtain ⟨hc1,hf1,hl1⟩:=hb1.all;have hb2:=Blk.mk hn2;clear hn2;obtain ⟨hc2,hf2,hl2⟩:=hb2.all;have hb3:=Blk.mk hn3;clear hn3;obtain ⟨hc3,hf3,hl3⟩:=hb3.all;(try clear hx0))
 (refine bodyPost_ret (v:=.tuple #[Hv.zero.v,Hv.zero.v,.bool false]) ?_ rfl ?_;(focus (simp only [results,Tryz.results120];go_simp;(try (simp));done));refine Ret.mk rfl ?_;(focus (exact EX;done)))
end Go.Proofs.YtfmgnaigcibcaaaGreatDoor
namespace Go.Proofs.YtfmgnaigcibcaaaGreatDoor
open Go.RowKit
def Pv.hunk (p:Pv):Hv:=⟨p.at_,p.A1,p.n1,p.c1,p.A2,p.n2,p.c2⟩
def Pv.linesCheck (p:Pv) (o n:List ByteArray):Int:=
 if p.hunk.check≠0 then p.hunk.check else if 2000 < p.n1∨2000 < p.n2 then 4 else if (o ++ n).all Qm.validLine=false then 3 else if o=n then 1 else 0
set_option maxHeartbeats 4000000 in
set_option maxRecDepth 100000 in
theorem checkLines_any (p:Pv) (o n:List ByteArray) (w:World) (h1:Sl w p.A1 p.n1 p.c1 o) (h2:Sl w p.A2 p.n2 p.c2 n) (b1:p.n1≤1152921504606846976) (b2:p.n2≤1152921504606846976):
 Calls Tryz.prog 233 #[p.v] w (Ret (.int .i64 (p.linesCheck o n)) w):=by
 have H1:=Lib.hid h1
 have H2:=Lib.hid h2
 clear h1 h2
 by_cases hc:p.hunk.check=0
 ·by_cases h4:2000 < p.n1∨2000 < p.n2
  ·have hv:p.linesCheck o n=4:=by rw [Pv.linesCheck,if_neg (by simp [hc]),if_pos h4]
   rw [hv]
   have Hc:=Lib.hid hc
   clear hv hc
   go_enter Tryz.func233,Tryz.ntmps233
   have hx:=Ext.refl w
   go_wp2_with (go_at_call 144;refine (hcheck_any p.hunk _ _ ⟨b1,b2⟩ (Blk.new' (by simp))).mono ?_;rintro e w1 ⟨rfl,hx0⟩;have hy:=Ext.trans (a:=w) EX hx0;clear hx;have hx:=hy;clear hy;have hn0:=BB hx0 (w.heap.size);have hn1:=BB hx0 (w.heap.size+1);(first | simp [↓heap_drew_at,↓heap_drewN_at,↓heap_alloc_at,↓heap_set_at,ne_two,ne_three,ne_two_left,ne_three_left,↓hb0.eq,hb0.lt,hb0.ne,↓hb1.eq,hb1.lt,hb1.ne] at hn0 hn1 | simp [↓heap_drew_at,↓heap_drewN_at,↓heap_alloc_at,↓heap_set_at,ne_two,ne_three,ne_two_left,ne_three_left] at hn0 hn1);(try clear hb0 hc0 hf0 hl0);(try clear hb1 hc1 hf1 hl1);have hb0:=Blk.mk hn0;clear hn0;obtain ⟨hc0,hf0,hl0⟩:=hb0.all;have hb1:=Blk.mk hn1;clear hn1;obtain ⟨hc1,hf1,hl1⟩:=hb1.all;(try clear hx0);rw [Hc.out])
   all_goals first
    | (go_ret;refine Ret.mk ?_ ?_;(focus (rfl;done));(focus (exact EX;done)))
    | (exfalso;omega)
  ·have hv:p.linesCheck o n=if (o ++ n).all Qm.validLine=false then 3 else if o=n then 1 else 0:=by rw [Pv.linesCheck,if_neg (by simp [hc]),if_neg h4]
   generalize p.linesCheck o n=R at hv ⊢
   have Hv:=Lib.hid hv
   have Hc:=Lib.hid hc
   have m1:p.n1≤2000:=by omega
   have m2:p.n2≤2000:=by omega
   clear hv hc h4
   go_enter Tryz.func233,Tryz.ntmps233
   have hx:=Ext.refl w
   go_wp2_with fail
   go_at_call 144;refine (hcheck_any p.hunk _ _ ⟨b1,b2⟩ (Blk.new' (by simp))).mono ?_;rintro e w1 ⟨rfl,hx0⟩;have hy:=Ext.trans (a:=w) EX hx0;clear hx;have hx:=hy;clear hy;have hn0:=BB hx0 (w.heap.size);have hn1:=BB hx0 (w.heap.size+1);(first | simp [↓heap_drew_at,↓heap_drewN_at,↓heap_alloc_at,↓heap_set_at,ne_two,ne_three,ne_two_left,ne_three_left,↓hb0.eq,hb0.lt,hb0.ne,↓hb1.eq,hb1.lt,hb1.ne] at hn0 hn1 | simp [↓heap_drew_at,↓heap_drewN_at,↓heap_alloc_at,↓heap_set_at,ne_two,ne_three,ne_two_left,ne_three_left] at hn0 hn1);(try clear hb0 hc0 hf0 hl0);(try clear hb1 hc1 hf1 hl1);have hb0:=Blk.mk hn0;clear hn0;obtain ⟨hc0,hf0,hl0⟩:=hb0.all;have hb1:=Blk.mk hn1;clear hn1;obtain ⟨hc1,hf1,hl1⟩:=hb1.all;(try clear hx0)
   rw [Hc.out]
   go_wp2_with fail
   refine (concat_any _ _ _ _ _ _ _ o n _ (Blk.new' (by rfl)) (H1.out.ext EX) (H2.out.ext EX) (by omega) (by omega) (by omega)).mono ?_
   rintro e w1 ⟨A,c,rfl,hs,hx0⟩
   have hy:=Ext.trans (a:=w) EX hx0;clear hx;have hx:=hy;clear hy;have hn0:=BB hx0 (w.heap.size);have hn1:=BB hx0 (w.heap.size+1);(first | simp [↓heap_drew_at,↓heap_drewN_at,↓heap_alloc_at,↓heap_set_at,ne_two,ne_three,ne_two_left,ne_three_left,↓hb0.eq,hb0.lt,hb0.ne,↓hb1.eq,hb1.lt,hb1.ne] at hn0 hn1 | simp [↓heap_drew_at,↓heap_drewN_at,↓heap_alloc_at,↓heap_set_at,ne_two,ne_three,ne_two_left,ne_three_left] at hn0 hn1);(try clear hb0 hc0 hf0 hl0);(try clear hb1 hc1 hf1 hl1);have hb0:=Blk.mk hn0;clear hn0;obtain ⟨hc0,hf0,hl0⟩:=hb0.all;have hb1:=Blk.mk hn1;clear hn1;obtain ⟨hc1,hf1,hl1⟩:=hb1.all;(try clear hx0)
   have hlen:(o ++ n).length=p.n1+p.n2:=hs.1.1
   generalize hL:o ++ n=L at *
   generalize hN:p.n1+p.n2=N at *
   have HL:=Lib.hid hL
   have HN:=Lib.hid hN
   have Hs:=Lib.hid hs
   clear hL hN hs
   have hN2:N≤4000:=by have :=HN.out;omega
   go_wp2_with fail
   go_loop [34] (fun i=>∃ k:Nat,k≤N∧i=.int .i64 k∧(L.take k).all Qm.validLine=true) (fun i=>N - (intOf i).toNat)
   case atStart=>exact ⟨0,Nat.zero_le _,rfl,rfl⟩
   case round=>
    obtain ⟨k,hk,rfl,hall⟩:=hrel
    have Hall:=Lib.hid hall
    clear hall
    by_cases hlt:k < N
    ·obtain ⟨bb,oo,rfl,_,hcl⟩:=Hs.out.1.2 (by omega)
     have hck:=hcl k hlt
     have e1:L[k]?=some (L.getD k ByteArray.empty):=by simp [List.getD,List.getElem?_eq_getElem (show k < L.length by omega)]
     generalize L.getD k ByteArray.empty=x at hck e1
     have HE:=Lib.hid e1
     clear e1 hcl
     go_wp2_with (go_at_call 238;refine (lineValid_same _ _).mono ?_;rintro e w2 ⟨rfl,rfl⟩)
     all_goals rename_i hnm
     ·have hnm2:Qm.validLine x=false:=by simpa using hnm
      have hall:L.all Qm.validLine=false:=by
       rw [List.all_eq_false]
       exact ⟨x,List.mem_of_getElem? HE.out,by rw [hnm2];exact Bool.false_ne_true⟩
      have hv:=Hv.out
      rw [if_pos hall] at hv
      (go_ret;refine Ret.mk ?_ ?_;(focus (rw [hv];rfl;done));(focus (exact EX;done)))
     ·have hnm2:Qm.validLine x=true:=by simpa using hnm
      refine ⟨⟨k+1,hlt,rfl,?_⟩,?_⟩
      ·rw [List.take_add_one,HE.out,List.all_append,Hall.out]
       simp [hnm2]
      ·simp [intOf]
       omega
    ·obtain rfl:k=N:=by omega
     have hall:L.all Qm.validLine=true:=by have h0:=Hall.out;rwa [List.take_of_length_le (by omega)] at h0
     have hv:=Hv.out
     rw [if_neg (by rw [hall];exact Bool.noConfusion)] at hv
     clear hall
     by_cases ho:o=n
     all_goals
      first | rw [if_pos ho] at hv | rw [if_neg ho] at hv
      have HV:=Lib.hid hv
      have Ho:=Lib.hid ho
      clear hv ho Hv
      go_wp2_with fail
      refine (sequal_any _ _ _ _ _ _ o n _ (H1.out.ext hx).1 (H2.out.ext hx).1 (by omega) (by omega)).mono ?_
      rintro e w2 ⟨rfl,hx0⟩
      have hy:=Ext.trans (a:=w) EX hx0;clear hx;have hx:=hy;clear hy;have hn0:=BB hx0 (w.heap.size);have hn1:=BB hx0 (w.heap.size+1);(first | simp [↓heap_drew_at,↓heap_drewN_at,↓heap_alloc_at,↓heap_set_at,ne_two,ne_three,ne_two_left,ne_three_left,↓hb0.eq,hb0.lt,hb0.ne,↓hb1.eq,hb1.lt,hb1.ne] at hn0 hn1 | simp [↓heap_drew_at,↓heap_drewN_at,↓heap_alloc_at,↓heap_set_at,ne_two,ne_three,ne_two_left,ne_three_left] at hn0 hn1);(try clear hb0 hc0 hf0 hl0);(try clear hb1 hc1 hf1 hl1);have hb0:=Blk.mk hn0;clear hn0;obtain ⟨hc0,hf0,hl0⟩:=hb0.all;have hb1:=Blk.mk hn1;clear hn1;obtain ⟨hc1,hf1,hl1⟩:=hb1.all;(try clear hx0)
      first | rw [decide_eq_true Ho.out] | rw [decide_eq_false Ho.out]
      go_wp2_with fail
     all_goals (go_ret;refine Ret.mk ?_ ?_;(focus (rw [HV.out];rfl;done));(focus (exact EX;done)))
 ·have hv:p.linesCheck o n=p.hunk.check:=by rw [Pv.linesCheck,if_pos hc]
  have hc2:(p.hunk.check != 0)=true:=by simpa using hc
  rw [hv]
  clear hv hc
  go_enter Tryz.func233,Tryz.ntmps233
  have hx:=Ext.refl w
  go_wp2_with (go_at_call 144;refine (hcheck_any p.hunk _ _ ⟨b1,b2⟩ (Blk.new' (by simp))).mono ?_;rintro e w1 ⟨rfl,hx0⟩;have hy:=Ext.trans (a:=w) EX hx0;clear hx;have hx:=hy;clear hy;have hn0:=BB hx0 (w.heap.size);have hn1:=BB hx0 (w.heap.size+1);(first | simp [↓heap_drew_at,↓heap_drewN_at,↓heap_alloc_at,↓heap_set_at,ne_two,ne_three,ne_two_left,ne_three_left,↓hb0.eq,hb0.lt,hb0.ne,↓hb1.eq,hb1.lt,hb1.ne] at hn0 hn1 | simp [↓heap_drew_at,↓heap_drewN_at,↓heap_alloc_at,↓heap_set_at,ne_two,ne_three,ne_two_left,ne_three_left] at hn0 hn1);(try clear hb0 hc0 hf0 hl0);(try clear hb1 hc1 hf1 hl1);have hb0:=Blk.mk hn0;clear hn0;obtain ⟨hc0,hf0,hl0⟩:=hb0.all;have hb1:=Blk.mk hn1;clear hn1;obtain ⟨hc1,hf1,hl1⟩:=hb1.all;(try clear hx0))
  (go_ret;refine Ret.mk ?_ ?_;(focus (rfl;done));(focus (exact EX;done)))
end Go.Proofs.YtfmgnaigcibcaaaGreatDoor
namespace Go.Proofs.YtfmgnaigcibcaaaGreatDoor
open Go.RowKit
def Pv.edCheck6 (p:Pv) (o n:List ByteArray):Int:=if p.kind=6 then p.linesCheck o n else p.edCheck
def Pv.actCheck (p:Pv) (o n:List ByteArray):Int:=
 if p.kind=1∨p.kind=3 then p.addCheck else if p.kind=2∨p.kind=4 then p.remCheck else if p.kind=5 then p.movCheck else p.edCheck6 o n
def Pv.known (p:Pv):Bool:=decide (1≤p.kind) && decide (p.kind≤8)
def Pv.pathsOk (p:Pv):Bool:=Qm.isPath p.path && (!(p.kind == 5) || Qm.isPath p.to_)
def Pv.check (p:Pv) (o n:List ByteArray):Int:=
 if p.known=false then 8 else if p.tidy=false then 1 else if p.pathsOk=false then 5 else p.actCheck o n
set_option maxHeartbeats 1600000 in
theorem edCheck6_any (p:Pv) (o n:List ByteArray) (w:World) (h1:Sl w p.A1 p.n1 p.c1 o) (h2:Sl w p.A2 p.n2 p.c2 n) (b1:p.n1≤1152921504606846976) (b2:p.n2≤1152921504606846976):
 Calls Tryz.prog 229 #[p.v] w (Ret (.int .i64 (p.edCheck6 o n)) w):=by
 by_cases h6:p.kind=6
 ·have hv:p.edCheck6 o n=p.linesCheck o n:=by rw [Pv.edCheck6,if_pos h6]
  have hk:(p.kind == 6)=true:=by simpa using h6
  rw [hv]
  clear hv h6
  have H1:=Lib.hid h1
  have H2:=Lib.hid h2
  clear h1 h2
  go_enter Tryz.func229,Tryz.ntmps229
  have hx:=Ext.refl w
  go_wp2_with (go_at_call 233;refine (checkLines_any p o n _ (H1.out.ext EX) (H2.out.ext EX) (by omega) (by omega)).mono ?_;rintro e w1 ⟨rfl,hx0⟩;have hy:=Ext.trans (a:=w) EX hx0;clear hx;have hx:=hy;clear hy;skip;(try clear hx0))
  (go_ret;refine Ret.mk ?_ ?_;(focus (rfl;done));(focus (exact EX;done)))
 ·have hv:p.edCheck6 o n=p.edCheck:=by rw [Pv.edCheck6,if_neg h6]
  rw [hv]
  exact edCheck_any p w h6
theorem upon_method {P:Program} {o:Oper} {a:Act} {K:Act→World→Prop} {Q:Exit→Act→World→Prop} {k:Nat} {T:TypeId} {v:Value} {name:String} {w:World} {f:FuncId} (h:(method k T v name).run P w=.ok (f,v) w)
 (hf:(callFunc f #[v]).run P w=.ok (.enter f #[v]) w) (hc:Oper.upon P o a K Q (.ok (.enter f #[v]) w)):Oper.upon P o a K Q (((method k T v name).run P w).andThen fun a w'=>(callFunc a.fst #[a.snd]).run P w'):=by
 rw [h]
 show Oper.upon P o a K Q ((callFunc f #[v]).run P w)
 rw [hf]
 exact hc
theorem act_known {p:Pv} (h:p.known=true):∃ T,p.act=.iface T p.v:=by
 simp only [Pv.known,Bool.and_eq_true,decide_eq_true_eq] at h
 unfold Pv.act
 repeat' split
 all_goals first | exact ⟨_,rfl⟩ | omega
theorem act_unknown {p:Pv} (h:p.known=false):p.act=.nilIface:=by
 have h':¬ (1≤p.kind∧p.kind≤8):=by
  intro hh
  have:p.known=true:=by simp [Pv.known,hh]
  rw [h] at this
  cases this
 unfold Pv.act
 repeat' split
 all_goals first | rfl | omega
set_option maxHeartbeats 4000000 in
set_option maxRecDepth 100000 in
theorem check_unknown (p:Pv) (o n:List ByteArray) (w:World) (hg:Glob w) (h1:Sl w p.A1 p.n1 p.c1 o) (h2:Sl w p.A2 p.n2 p.c2 n) (b1:p.n1≤1152921504606846976) (b2:p.n2≤1152921504606846976) (b3:p.path.size≤1152921504606846976) (b4:p.to_.size≤1152921504606846976) (hk:p.known=false):
 Calls Tryz.prog 38 #[p.v] w (Ret (.int .i64 (p.check o n)) w):=by
 have hv:p.check o n=8:=by rw [Pv.check,if_pos hk]
 rw [hv]
 have Ha:=Lib.hid (act_unknown hk)
 clear h1 h2 hg hk hv
 go_enter Tryz.func38,Tryz.ntmps38
 have hx:=Ext.refl w
 go_wp2_with (go_at_call 40;refine (action_any p _).mono ?_;rintro e w1 ⟨rfl,hx0⟩;have hy:=Ext.trans (a:=w) EX hx0;clear hx;have hx:=hy;clear hy;have hn0:=BB hx0 (w.heap.size);(first | simp [↓heap_drew_at,↓heap_drewN_at,↓heap_alloc_at,↓heap_set_at,ne_two,ne_three,ne_two_left,ne_three_left,↓hb0.eq,hb0.lt,hb0.ne] at hn0 | simp [↓heap_drew_at,↓heap_drewN_at,↓heap_alloc_at,↓heap_set_at,ne_two,ne_three,ne_two_left,ne_three_left] at hn0);(try clear hb0 hc0 hf0 hl0);have hb0:=Blk.mk hn0;clear hn0;obtain ⟨hc0,hf0,hl0⟩:=hb0.all;(try clear hx0);rw [Ha.out])
 (go_ret;refine Ret.mk ?_ ?_;(focus (rfl;done));(focus (exact EX;done)))
set_option maxHeartbeats 4000000 in
set_option maxRecDepth 100000 in
theorem check_untidy (p:Pv) (o n:List ByteArray) (w:World) (hg:Glob w) (h1:Sl w p.A1 p.n1 p.c1 o) (h2:Sl w p.A2 p.n2 p.c2 n) (b1:p.n1≤1152921504606846976) (b2:p.n2≤1152921504606846976) (b3:p.path.size≤1152921504606846976) (b4:p.to_.size≤1152921504606846976) (hk:p.known=true) (ht:p.tidy=false):
 Calls Tryz.prog 38 #[p.v] w (Ret (.int .i64 (p.check o n)) w):=by
 have hv:p.check o n=1:=by rw [Pv.check,if_neg (by rw [hk];exact Bool.noConfusion),if_pos ht]
 rw [hv]
 obtain ⟨T,ha⟩:=act_known hk
 have Ha:=Lib.hid ha
 have Ht:=Lib.hid ht
 clear h1 h2 hg hk hv ha ht
 go_enter Tryz.func38,Tryz.ntmps38
 have hx:=Ext.refl w
 go_wp2_with (first
  | (go_at_call 40;refine (action_any p _).mono ?_;rintro e w1 ⟨rfl,hx0⟩;have hy:=Ext.trans (a:=w) EX hx0;clear hx;have hx:=hy;clear hy;have hn0:=BB hx0 (w.heap.size);(first | simp [↓heap_drew_at,↓heap_drewN_at,↓heap_alloc_at,↓heap_set_at,ne_two,ne_three,ne_two_left,ne_three_left,↓hb0.eq,hb0.lt,hb0.ne] at hn0 | simp [↓heap_drew_at,↓heap_drewN_at,↓heap_alloc_at,↓heap_set_at,ne_two,ne_three,ne_two_left,ne_three_left] at hn0);(try clear hb0 hc0 hf0 hl0);have hb0:=Blk.mk hn0;clear hn0;obtain ⟨hc0,hf0,hl0⟩:=hb0.all;(try clear hx0);rw [Ha.out])
  | (go_at_call 70;refine (tidy_any p _ (by omega) (by omega)).mono ?_;rintro e w1 ⟨rfl,hx0⟩;have hy:=Ext.trans (a:=w) EX hx0;clear hx;have hx:=hy;clear hy;have hn0:=BB hx0 (w.heap.size);(first | simp [↓heap_drew_at,↓heap_drewN_at,↓heap_alloc_at,↓heap_set_at,ne_two,ne_three,ne_two_left,ne_three_left,↓hb0.eq,hb0.lt,hb0.ne] at hn0 | simp [↓heap_drew_at,↓heap_drewN_at,↓heap_alloc_at,↓heap_set_at,ne_two,ne_three,ne_two_left,ne_three_left] at hn0);(try clear hb0 hc0 hf0 hl0);have hb0:=Blk.mk hn0;clear hn0;obtain ⟨hc0,hf0,hl0⟩:=hb0.all;(try clear hx0);rw [Ht.out]))
 (go_ret;refine Ret.mk ?_ ?_;(focus (rfl;done));(focus (exact EX;done)))
set_option maxHeartbeats 4000000 in
set_option maxRecDepth 100000 in
theorem check_badpath (p:Pv) (o n:List ByteArray) (w:World) (hg:Glob w) (h1:Sl w p.A1 p.n1 p.c1 o) (h2:Sl w p.A2 p.n2 p.c2 n) (b1:p.n1≤1152921504606846976) (b2:p.n2≤1152921504606846976) (b3:p.path.size≤1152921504606846976) (b4:p.to_.size≤1152921504606846976) (hk:p.known=true) (ht:p.tidy=true) (hp:Qm.isPath p.path=false):
 Calls Tryz.prog 38 #[p.v] w (Ret (.int .i64 (p.check o n)) w):=by
 have hv:p.check o n=5:=by rw [Pv.check,if_neg (by rw [hk];exact Bool.noConfusion),if_neg (by rw [ht];exact Bool.noConfusion),if_pos (by rw [Pv.pathsOk,hp];rfl)]
 rw [hv]
 obtain ⟨T,ha⟩:=act_known hk
 have Ha:=Lib.hid ha
 have Ht:=Lib.hid ht
 have Hp:=Lib.hid hp
 have Hg:=Lib.hid hg
 clear h1 h2 hg hk hv ha ht hp
 go_enter Tryz.func38,Tryz.ntmps38
 have hx:=Ext.refl w
 go_wp2_with (first
  | (go_at_call 40;refine (action_any p _).mono ?_;rintro e w1 ⟨rfl,hx0⟩;have hy:=Ext.trans (a:=w) EX hx0;clear hx;have hx:=hy;clear hy;have hn0:=BB hx0 (w.heap.size);(first | simp [↓heap_drew_at,↓heap_drewN_at,↓heap_alloc_at,↓heap_set_at,ne_two,ne_three,ne_two_left,ne_three_left,↓hb0.eq,hb0.lt,hb0.ne] at hn0 | simp [↓heap_drew_at,↓heap_drewN_at,↓heap_alloc_at,↓heap_set_at,ne_two,ne_three,ne_two_left,ne_three_left] at hn0);(try clear hb0 hc0 hf0 hl0);have hb0:=Blk.mk hn0;clear hn0;obtain ⟨hc0,hf0,hl0⟩:=hb0.all;(try clear hx0);rw [Ha.out])
  | (go_at_call 70;refine (tidy_any p _ (by omega) (by omega)).mono ?_;rintro e w1 ⟨rfl,hx0⟩;have hy:=Ext.trans (a:=w) EX hx0;clear hx;have hx:=hy;clear hy;have hn0:=BB hx0 (w.heap.size);(first | simp [↓heap_drew_at,↓heap_drewN_at,↓heap_alloc_at,↓heap_set_at,ne_two,ne_three,ne_two_left,ne_three_left,↓hb0.eq,hb0.lt,hb0.ne] at hn0 | simp [↓heap_drew_at,↓heap_drewN_at,↓heap_alloc_at,↓heap_set_at,ne_two,ne_three,ne_two_left,ne_three_left] at hn0);(try clear hb0 hc0 hf0 hl0);have hb0:=Blk.mk hn0;clear hn0;obtain ⟨hc0,hf0,hl0⟩:=hb0.all;(try clear hx0);rw [Ht.out])
  | (go_at_call 71;refine (isPath_any _ _ (Hg.out.ext EX)).mono ?_;rintro e w1 ⟨rfl,hx0⟩;have hy:=Ext.trans (a:=w) EX hx0;clear hx;have hx:=hy;clear hy;have hn0:=BB hx0 (w.heap.size);(first | simp [↓heap_drew_at,↓heap_drewN_at,↓heap_alloc_at,↓heap_set_at,ne_two,ne_three,ne_two_left,ne_three_left,↓hb0.eq,hb0.lt,hb0.ne] at hn0 | simp [↓heap_drew_at,↓heap_drewN_at,↓heap_alloc_at,↓heap_set_at,ne_two,ne_three,ne_two_left,ne_three_left] at hn0);(try clear hb0 hc0 hf0 hl0);have hb0:=Blk.mk hn0;clear hn0;obtain ⟨hc0,hf0,hl0⟩:=hb0.all;(try clear hx0);rw [Hp.out]))
 (go_ret;refine Ret.mk ?_ ?_;(focus (rfl;done));(focus (exact EX;done)))
set_option maxHeartbeats 4000000 in
set_option maxRecDepth 100000 in
theorem check_badto (p:Pv) (o n:List ByteArray) (w:World) (hg:Glob w) (h1:Sl w p.A1 p.n1 p.c1 o) (h2:Sl w p.A2 p.n2 p.c2 n) (b1:p.n1≤1152921504606846976) (b2:p.n2≤1152921504606846976) (b3:p.path.size≤1152921504606846976) (b4:p.to_.size≤1152921504606846976) (hk:p.known=true) (ht:p.tidy=true) (hp:Qm.isPath p.path=true) (h5:(p.kind == 5)=true) (hq:Qm.isPath p.to_=false):
 Calls Tryz.prog 38 #[p.v] w (Ret (.int .i64 (p.check o n)) w):=by
 have hv:p.check o n=5:=by rw [Pv.check,if_neg (by rw [hk];exact Bool.noConfusion),if_neg (by rw [ht];exact Bool.noConfusion),if_pos (by rw [Pv.pathsOk,hp,h5,hq];rfl)]
 rw [hv]
 obtain ⟨T,ha⟩:=act_known hk
 have Ha:=Lib.hid ha
 have Ht:=Lib.hid ht
 have Hp:=Lib.hid hp
 have Hq:=Lib.hid hq
 have Hg:=Lib.hid hg
 clear h1 h2 hg hk hv ha ht hp hq
 go_enter Tryz.func38,Tryz.ntmps38
 have hx:=Ext.refl w
 go_wp2_with fail
 go_at_call 40;refine (action_any p _).mono ?_;rintro e w1 ⟨rfl,hx0⟩;have hy:=Ext.trans (a:=w) EX hx0;clear hx;have hx:=hy;clear hy;have hn0:=BB hx0 (w.heap.size);(first | simp [↓heap_drew_at,↓heap_drewN_at,↓heap_alloc_at,↓heap_set_at,ne_two,ne_three,ne_two_left,ne_three_left,↓hb0.eq,hb0.lt,hb0.ne] at hn0 | simp [↓heap_drew_at,↓heap_drewN_at,↓heap_alloc_at,↓heap_set_at,ne_two,ne_three,ne_two_left,ne_three_left] at hn0);(try clear hb0 hc0 hf0 hl0);have hb0:=Blk.mk hn0;clear hn0;obtain ⟨hc0,hf0,hl0⟩:=hb0.all;(try clear hx0);rw [Ha.out]
 go_wp2_with fail
 go_at_call 70;refine (tidy_any p _ (by omega) (by omega)).mono ?_;rintro e w1 ⟨rfl,hx0⟩;have hy:=Ext.trans (a:=w) EX hx0;clear hx;have hx:=hy;clear hy;have hn0:=BB hx0 (w.heap.size);(first | simp [↓heap_drew_at,↓heap_drewN_at,↓heap_alloc_at,↓heap_set_at,ne_two,ne_three,ne_two_left,ne_three_left,↓hb0.eq,hb0.lt,hb0.ne] at hn0 | simp [↓heap_drew_at,↓heap_drewN_at,↓heap_alloc_at,↓heap_set_at,ne_two,ne_three,ne_two_left,ne_three_left] at hn0);(try clear hb0 hc0 hf0 hl0);have hb0:=Blk.mk hn0;clear hn0;obtain ⟨hc0,hf0,hl0⟩:=hb0.all;(try clear hx0);rw [Ht.out]
 go_wp2_with fail
 go_at_call 71;refine (isPath_any p.path _ (Hg.out.ext EX)).mono ?_;rintro e w1 ⟨rfl,hx0⟩;have hy:=Ext.trans (a:=w) EX hx0;clear hx;have hx:=hy;clear hy;have hn0:=BB hx0 (w.heap.size);(first | simp [↓heap_drew_at,↓heap_drewN_at,↓heap_alloc_at,↓heap_set_at,ne_two,ne_three,ne_two_left,ne_three_left,↓hb0.eq,hb0.lt,hb0.ne] at hn0 | simp [↓heap_drew_at,↓heap_drewN_at,↓heap_alloc_at,↓heap_set_at,ne_two,ne_three,ne_two_left,ne_three_left] at hn0);(try clear hb0 hc0 hf0 hl0);have hb0:=Blk.mk hn0;clear hn0;obtain ⟨hc0,hf0,hl0⟩:=hb0.all;(try clear hx0);rw [Hp.out]
 go_wp2_with fail
 go_at_call 71;refine (isPath_any p.to_ _ (Hg.out.ext EX)).mono ?_;rintro e w1 ⟨rfl,hx0⟩;have hy:=Ext.trans (a:=w) EX hx0;clear hx;have hx:=hy;clear hy;have hn0:=BB hx0 (w.heap.size);(first | simp [↓heap_drew_at,↓heap_drewN_at,↓heap_alloc_at,↓heap_set_at,ne_two,ne_three,ne_two_left,ne_three_left,↓hb0.eq,hb0.lt,hb0.ne] at hn0 | simp [↓heap_drew_at,↓heap_drewN_at,↓heap_alloc_at,↓heap_set_at,ne_two,ne_three,ne_two_left,ne_three_left] at hn0);(try clear hb0 hc0 hf0 hl0);have hb0:=Blk.mk hn0;clear hn0;obtain ⟨hc0,hf0,hl0⟩:=hb0.all;(try clear hx0);rw [Hq.out]
 go_wp2_with fail
 (go_ret;refine Ret.mk ?_ ?_;(focus (rfl;done));(focus (exact EX;done)))
set_option maxHeartbeats 4000000 in
set_option maxRecDepth 100000 in
theorem check_add (p:Pv) (o n:List ByteArray) (w:World) (hg:Glob w) (h1:Sl w p.A1 p.n1 p.c1 o) (h2:Sl w p.A2 p.n2 p.c2 n) (b1:p.n1≤1152921504606846976) (b2:p.n2≤1152921504606846976) (b3:p.path.size≤1152921504606846976) (b4:p.to_.size≤1152921504606846976) (hK:p.kind=1∨p.kind=3) (hk:p.known=true) (ht:p.tidy=true) (hp:p.pathsOk=true):
 Calls Tryz.prog 38 #[p.v] w (Ret (.int .i64 (p.check o n)) w):=by
 have hv:p.check o n=p.addCheck:=by rw [Pv.check,if_neg (by rw [hk];exact Bool.noConfusion),if_neg (by rw [ht];exact Bool.noConfusion),if_neg (by rw [hp];exact Bool.noConfusion)];rw [Pv.actCheck,if_pos hK]
 rw [hv]
 have ha:p.act=.iface 103 p.v:=by rw [Pv.act,if_pos hK]
 have h5:(p.kind == 5)=false:=by simp;omega
 rw [Pv.pathsOk,h5] at hp
 simp only [Bool.not_true,Bool.not_false,Bool.true_or,Bool.false_or,Bool.and_true,Bool.and_eq_true] at hp
 have Ha:=Lib.hid ha
 have Ht:=Lib.hid ht
 have Hp:=Lib.hid hp
 have Hg:=Lib.hid hg
 have H1:=Lib.hid h1
 have H2:=Lib.hid h2
 clear h1 h2 hg hk hv ha ht hp hK
 go_enter Tryz.func38,Tryz.ntmps38
 have hx:=Ext.refl w
 go_wp2_with fail
 go_at_call 40;refine (action_any p _).mono ?_;rintro e w1 ⟨rfl,hx0⟩;have hy:=Ext.trans (a:=w) EX hx0;clear hx;have hx:=hy;clear hy;have hn0:=BB hx0 (w.heap.size);(first | simp [↓heap_drew_at,↓heap_drewN_at,↓heap_alloc_at,↓heap_set_at,ne_two,ne_three,ne_two_left,ne_three_left,↓hb0.eq,hb0.lt,hb0.ne] at hn0 | simp [↓heap_drew_at,↓heap_drewN_at,↓heap_alloc_at,↓heap_set_at,ne_two,ne_three,ne_two_left,ne_three_left] at hn0);(try clear hb0 hc0 hf0 hl0);have hb0:=Blk.mk hn0;clear hn0;obtain ⟨hc0,hf0,hl0⟩:=hb0.all;(try clear hx0);rw [Ha.out]
 go_wp2_with fail
 go_at_call 70;refine (tidy_any p _ (by omega) (by omega)).mono ?_;rintro e w1 ⟨rfl,hx0⟩;have hy:=Ext.trans (a:=w) EX hx0;clear hx;have hx:=hy;clear hy;have hn0:=BB hx0 (w.heap.size);(first | simp [↓heap_drew_at,↓heap_drewN_at,↓heap_alloc_at,↓heap_set_at,ne_two,ne_three,ne_two_left,ne_three_left,↓hb0.eq,hb0.lt,hb0.ne] at hn0 | simp [↓heap_drew_at,↓heap_drewN_at,↓heap_alloc_at,↓heap_set_at,ne_two,ne_three,ne_two_left,ne_three_left] at hn0);(try clear hb0 hc0 hf0 hl0);have hb0:=Blk.mk hn0;clear hn0;obtain ⟨hc0,hf0,hl0⟩:=hb0.all;(try clear hx0);rw [Ht.out]
 go_wp2_with fail
 go_at_call 71;refine (isPath_any p.path _ (Hg.out.ext EX)).mono ?_;rintro e w1 ⟨rfl,hx0⟩;have hy:=Ext.trans (a:=w) EX hx0;clear hx;have hx:=hy;clear hy;have hn0:=BB hx0 (w.heap.size);(first | simp [↓heap_drew_at,↓heap_drewN_at,↓heap_alloc_at,↓heap_set_at,ne_two,ne_three,ne_two_left,ne_three_left,↓hb0.eq,hb0.lt,hb0.ne] at hn0 | simp [↓heap_drew_at,↓heap_drewN_at,↓heap_alloc_at,↓heap_set_at,ne_two,ne_three,ne_two_left,ne_three_left] at hn0);(try clear hb0 hc0 hf0 hl0);have hb0:=Blk.mk hn0;clear hn0;obtain ⟨hc0,hf0,hl0⟩:=hb0.all;(try clear hx0);rw [Hp.out]
 go_wp2_with fail
 refine upon_method (f:=178) (by kernel_rfl) (by kernel_rfl) ?_
 rw [Oper.upon_enter]
 go_at_call 178;refine (addCheck_any p _).mono ?_;rintro e w1 ⟨rfl,hx0⟩;have hy:=Ext.trans (a:=w) EX hx0;clear hx;have hx:=hy;clear hy;have hn0:=BB hx0 (w.heap.size);(first | simp [↓heap_drew_at,↓heap_drewN_at,↓heap_alloc_at,↓heap_set_at,ne_two,ne_three,ne_two_left,ne_three_left,↓hb0.eq,hb0.lt,hb0.ne] at hn0 | simp [↓heap_drew_at,↓heap_drewN_at,↓heap_alloc_at,↓heap_set_at,ne_two,ne_three,ne_two_left,ne_three_left] at hn0);(try clear hb0 hc0 hf0 hl0);have hb0:=Blk.mk hn0;clear hn0;obtain ⟨hc0,hf0,hl0⟩:=hb0.all;(try clear hx0)
 go_wp2_with fail
 (go_ret;refine Ret.mk ?_ ?_;(focus (rfl;done));(focus (exact EX;done)))
set_option maxHeartbeats 4000000 in
set_option maxRecDepth 100000 in
theorem check_rem (p:Pv) (o n:List ByteArray) (w:World) (hg:Glob w) (h1:Sl w p.A1 p.n1 p.c1 o) (h2:Sl w p.A2 p.n2 p.c2 n) (b1:p.n1≤1152921504606846976) (b2:p.n2≤1152921504606846976) (b3:p.path.size≤1152921504606846976) (b4:p.to_.size≤1152921504606846976) (hK:p.kind=2∨p.kind=4) (hk:p.known=true) (ht:p.tidy=true) (hp:p.pathsOk=true):
 Calls Tryz.prog 38 #[p.v] w (Ret (.int .i64 (p.check o n)) w):=by
 have hv:p.check o n=p.remCheck:=by rw [Pv.check,if_neg (by rw [hk];exact Bool.noConfusion),if_neg (by rw [ht];exact Bool.noConfusion),if_neg (by rw [hp];exact Bool.noConfusion)];rw [Pv.actCheck,if_neg (by omega),if_pos hK]
 rw [hv]
 have ha:p.act=.iface 104 p.v:=by rw [Pv.act,if_neg (by omega),if_pos hK]
 have h5:(p.kind == 5)=false:=by simp;omega
 rw [Pv.pathsOk,h5] at hp
 simp only [Bool.not_true,Bool.not_false,Bool.true_or,Bool.false_or,Bool.and_true,Bool.and_eq_true] at hp
 have Ha:=Lib.hid ha
 have Ht:=Lib.hid ht
 have Hp:=Lib.hid hp
 have Hg:=Lib.hid hg
 have H1:=Lib.hid h1
 have H2:=Lib.hid h2
 clear h1 h2 hg hk hv ha ht hp hK
 go_enter Tryz.func38,Tryz.ntmps38
 have hx:=Ext.refl w
 go_wp2_with fail
 go_at_call 40;refine (action_any p _).mono ?_;rintro e w1 ⟨rfl,hx0⟩;have hy:=Ext.trans (a:=w) EX hx0;clear hx;have hx:=hy;clear hy;have hn0:=BB hx0 (w.heap.size);(first | simp [↓heap_drew_at,↓heap_drewN_at,↓heap_alloc_at,↓heap_set_at,ne_two,ne_three,ne_two_left,ne_three_left,↓hb0.eq,hb0.lt,hb0.ne] at hn0 | simp [↓heap_drew_at,↓heap_drewN_at,↓heap_alloc_at,↓heap_set_at,ne_two,ne_three,ne_two_left,ne_three_left] at hn0);(try clear hb0 hc0 hf0 hl0);have hb0:=Blk.mk hn0;clear hn0;obtain ⟨hc0,hf0,hl0⟩:=hb0.all;(try clear hx0);rw [Ha.out]
 go_wp2_with fail
 go_at_call 70;refine (tidy_any p _ (by omega) (by omega)).mono ?_;rintro e w1 ⟨rfl,hx0⟩;have hy:=Ext.trans (a:=w) EX hx0;clear hx;have hx:=hy;clear hy;have hn0:=BB hx0 (w.heap.size);(first | simp [↓heap_drew_at,↓heap_drewN_at,↓heap_alloc_at,↓heap_set_at,ne_two,ne_three,ne_two_left,ne_three_left,↓hb0.eq,hb0.lt,hb0.ne] at hn0 | simp [↓heap_drew_at,↓heap_drewN_at,↓heap_alloc_at,↓heap_set_at,ne_two,ne_three,ne_two_left,ne_three_left] at hn0);(try clear hb0 hc0 hf0 hl0);have hb0:=Blk.mk hn0;clear hn0;obtain ⟨hc0,hf0,hl0⟩:=hb0.all;(try clear hx0);rw [Ht.out]
 go_wp2_with fail
 go_at_call 71;refine (isPath_any p.path _ (Hg.out.ext EX)).mono ?_;rintro e w1 ⟨rfl,hx0⟩;have hy:=Ext.trans (a:=w) EX hx0;clear hx;have hx:=hy;clear hy;have hn0:=BB hx0 (w.heap.size);(first | simp [↓heap_drew_at,↓heap_drewN_at,↓heap_alloc_at,↓heap_set_at,ne_two,ne_three,ne_two_left,ne_three_left,↓hb0.eq,hb0.lt,hb0.ne] at hn0 | simp [↓heap_drew_at,↓heap_drewN_at,↓heap_alloc_at,↓heap_set_at,ne_two,ne_three,ne_two_left,ne_three_left] at hn0);(try clear hb0 hc0 hf0 hl0);have hb0:=Blk.mk hn0;clear hn0;obtain ⟨hc0,hf0,hl0⟩:=hb0.all;(try clear hx0);rw [Hp.out]
 go_wp2_with fail
 refine upon_method (f:=201) (by kernel_rfl) (by kernel_rfl) ?_
 rw [Oper.upon_enter]
 go_at_call 201;refine (remCheck_any p _).mono ?_;rintro e w1 ⟨rfl,hx0⟩;have hy:=Ext.trans (a:=w) EX hx0;clear hx;have hx:=hy;clear hy;have hn0:=BB hx0 (w.heap.size);(first | simp [↓heap_drew_at,↓heap_drewN_at,↓heap_alloc_at,↓heap_set_at,ne_two,ne_three,ne_two_left,ne_three_left,↓hb0.eq,hb0.lt,hb0.ne] at hn0 | simp [↓heap_drew_at,↓heap_drewN_at,↓heap_alloc_at,↓heap_set_at,ne_two,ne_three,ne_two_left,ne_three_left] at hn0);(try clear hb0 hc0 hf0 hl0);have hb0:=Blk.mk hn0;clear hn0;obtain ⟨hc0,hf0,hl0⟩:=hb0.all;(try clear hx0)
 go_wp2_with fail
 (go_ret;refine Ret.mk ?_ ?_;(focus (rfl;done));(focus (exact EX;done)))
set_option maxHeartbeats 4000000 in
set_option maxRecDepth 100000 in
theorem check_mov (p:Pv) (o n:List ByteArray) (w:World) (hg:Glob w) (h1:Sl w p.A1 p.n1 p.c1 o) (h2:Sl w p.A2 p.n2 p.c2 n) (b1:p.n1≤1152921504606846976) (b2:p.n2≤1152921504606846976) (b3:p.path.size≤1152921504606846976) (b4:p.to_.size≤1152921504606846976) (hK:p.kind=5) (hk:p.known=true) (ht:p.tidy=true) (hp:p.pathsOk=true):
 Calls Tryz.prog 38 #[p.v] w (Ret (.int .i64 (p.check o n)) w):=by
 have hv:p.check o n=p.movCheck:=by rw [Pv.check,if_neg (by rw [hk];exact Bool.noConfusion),if_neg (by rw [ht];exact Bool.noConfusion),if_neg (by rw [hp];exact Bool.noConfusion)];rw [Pv.actCheck,if_neg (by omega),if_neg (by omega),if_pos hK]
 rw [hv]
 have ha:p.act=.iface 105 p.v:=by rw [Pv.act,if_neg (by omega),if_neg (by omega),if_pos hK]
 have h5:(p.kind == 5)=true:=by simpa using hK
 rw [Pv.pathsOk,h5] at hp
 simp only [Bool.not_true,Bool.not_false,Bool.true_or,Bool.false_or,Bool.and_true,Bool.and_eq_true] at hp
 have Ha:=Lib.hid ha
 have Ht:=Lib.hid ht
 have Hp:=Lib.hid hp
 have Hg:=Lib.hid hg
 have H1:=Lib.hid h1
 have H2:=Lib.hid h2
 clear h1 h2 hg hk hv ha ht hp hK
 go_enter Tryz.func38,Tryz.ntmps38
 have hx:=Ext.refl w
 go_wp2_with fail
 go_at_call 40;refine (action_any p _).mono ?_;rintro e w1 ⟨rfl,hx0⟩;have hy:=Ext.trans (a:=w) EX hx0;clear hx;have hx:=hy;clear hy;have hn0:=BB hx0 (w.heap.size);(first | simp [↓heap_drew_at,↓heap_drewN_at,↓heap_alloc_at,↓heap_set_at,ne_two,ne_three,ne_two_left,ne_three_left,↓hb0.eq,hb0.lt,hb0.ne] at hn0 | simp [↓heap_drew_at,↓heap_drewN_at,↓heap_alloc_at,↓heap_set_at,ne_two,ne_three,ne_two_left,ne_three_left] at hn0);(try clear hb0 hc0 hf0 hl0);have hb0:=Blk.mk hn0;clear hn0;obtain ⟨hc0,hf0,hl0⟩:=hb0.all;(try clear hx0);rw [Ha.out]
 go_wp2_with fail
 go_at_call 70;refine (tidy_any p _ (by omega) (by omega)).mono ?_;rintro e w1 ⟨rfl,hx0⟩;have hy:=Ext.trans (a:=w) EX hx0;clear hx;have hx:=hy;clear hy;have hn0:=BB hx0 (w.heap.size);(first | simp [↓heap_drew_at,↓heap_drewN_at,↓heap_alloc_at,↓heap_set_at,ne_two,ne_three,ne_two_left,ne_three_left,↓hb0.eq,hb0.lt,hb0.ne] at hn0 | simp [↓heap_drew_at,↓heap_drewN_at,↓heap_alloc_at,↓heap_set_at,ne_two,ne_three,ne_two_left,ne_three_left] at hn0);(try clear hb0 hc0 hf0 hl0);have hb0:=Blk.mk hn0;clear hn0;obtain ⟨hc0,hf0,hl0⟩:=hb0.all;(try clear hx0);rw [Ht.out]
 go_wp2_with fail
 go_at_call 71;refine (isPath_any p.path _ (Hg.out.ext EX)).mono ?_;rintro e w1 ⟨rfl,hx0⟩;have hy:=Ext.trans (a:=w) EX hx0;clear hx;have hx:=hy;clear hy;have hn0:=BB hx0 (w.heap.size);(first | simp [↓heap_drew_at,↓heap_drewN_at,↓heap_alloc_at,↓heap_set_at,ne_two,ne_three,ne_two_left,ne_three_left,↓hb0.eq,hb0.lt,hb0.ne] at hn0 | simp [↓heap_drew_at,↓heap_drewN_at,↓heap_alloc_at,↓heap_set_at,ne_two,ne_three,ne_two_left,ne_three_left] at hn0);(try clear hb0 hc0 hf0 hl0);have hb0:=Blk.mk hn0;clear hn0;obtain ⟨hc0,hf0,hl0⟩:=hb0.all;(try clear hx0);rw [Hp.out.1]
 go_wp2_with fail
 go_at_call 71;refine (isPath_any p.to_ _ (Hg.out.ext EX)).mono ?_;rintro e w1 ⟨rfl,hx0⟩;have hy:=Ext.trans (a:=w) EX hx0;clear hx;have hx:=hy;clear hy;have hn0:=BB hx0 (w.heap.size);(first | simp [↓heap_drew_at,↓heap_drewN_at,↓heap_alloc_at,↓heap_set_at,ne_two,ne_three,ne_two_left,ne_three_left,↓hb0.eq,hb0.lt,hb0.ne] at hn0 | simp [↓heap_drew_at,↓heap_drewN_at,↓heap_alloc_at,↓heap_set_at,ne_two,ne_three,ne_two_left,ne_three_left] at hn0);(try clear hb0 hc0 hf0 hl0);have hb0:=Blk.mk hn0;clear hn0;obtain ⟨hc0,hf0,hl0⟩:=hb0.all;(try clear hx0);rw [Hp.out.2]
 go_wp2_with fail
 refine upon_method (f:=206) (by kernel_rfl) (by kernel_rfl) ?_
 rw [Oper.upon_enter]
 go_at_call 206;refine (movCheck_any p _ (by omega) (by omega)).mono ?_;rintro e w1 ⟨rfl,hx0⟩;have hy:=Ext.trans (a:=w) EX hx0;clear hx;have hx:=hy;clear hy;have hn0:=BB hx0 (w.heap.size);(first | simp [↓heap_drew_at,↓heap_drewN_at,↓heap_alloc_at,↓heap_set_at,ne_two,ne_three,ne_two_left,ne_three_left,↓hb0.eq,hb0.lt,hb0.ne] at hn0 | simp [↓heap_drew_at,↓heap_drewN_at,↓heap_alloc_at,↓heap_set_at,ne_two,ne_three,ne_two_left,ne_three_left] at hn0);(try clear hb0 hc0 hf0 hl0);have hb0:=Blk.mk hn0;clear hn0;obtain ⟨hc0,hf0,hl0⟩:=hb0.all;(try clear hx0)
 go_wp2_with fail
 (go_ret;refine Ret.mk ?_ ?_;(focus (rfl;done));(focus (exact EX;done)))
set_option maxHeartbeats 4000000 in
set_option maxRecDepth 100000 in
theorem check_ed (p:Pv) (o n:List ByteArray) (w:World) (hg:Glob w) (h1:Sl w p.A1 p.n1 p.c1 o) (h2:Sl w p.A2 p.n2 p.c2 n) (b1:p.n1≤1152921504606846976) (b2:p.n2≤1152921504606846976) (b3:p.path.size≤1152921504606846976) (b4:p.to_.size≤1152921504606846976) (hK:p.kind=6∨p.kind=7∨p.kind=8) (hk:p.known=true) (ht:p.tidy=true) (hp:p.pathsOk=true):
 Calls Tryz.prog 38 #[p.v] w (Ret (.int .i64 (p.check o n)) w):=by
 have hv:p.check o n=(p.edCheck6 o n):=by rw [Pv.check,if_neg (by rw [hk];exact Bool.noConfusion),if_neg (by rw [ht];exact Bool.noConfusion),if_neg (by rw [hp];exact Bool.noConfusion)];rw [Pv.actCheck,if_neg (by omega),if_neg (by omega),if_neg (by omega)]
 rw [hv]
 have ha:p.act=.iface 106 p.v:=by rw [Pv.act,if_neg (by omega),if_neg (by omega),if_neg (by omega),if_pos hK]
 have h5:(p.kind == 5)=false:=by simp;omega
 rw [Pv.pathsOk,h5] at hp
 simp only [Bool.not_true,Bool.not_false,Bool.true_or,Bool.false_or,Bool.and_true,Bool.and_eq_true] at hp
 have Ha:=Lib.hid ha
 have Ht:=Lib.hid ht
 have Hp:=Lib.hid hp
 have Hg:=Lib.hid hg
 have H1:=Lib.hid h1
 have H2:=Lib.hid h2
 clear h1 h2 hg hk hv ha ht hp hK
 go_enter Tryz.func38,Tryz.ntmps38
 have hx:=Ext.refl w
 go_wp2_with fail
 go_at_call 40;refine (action_any p _).mono ?_;rintro e w1 ⟨rfl,hx0⟩;have hy:=Ext.trans (a:=w) EX hx0;clear hx;have hx:=hy;clear hy;have hn0:=BB hx0 (w.heap.size);(first | simp [↓heap_drew_at,↓heap_drewN_at,↓heap_alloc_at,↓heap_set_at,ne_two,ne_three,ne_two_left,ne_three_left,↓hb0.eq,hb0.lt,hb0.ne] at hn0 | simp [↓heap_drew_at,↓heap_drewN_at,↓heap_alloc_at,↓heap_set_at,ne_two,ne_three,ne_two_left,ne_three_left] at hn0);(try clear hb0 hc0 hf0 hl0);have hb0:=Blk.mk hn0;clear hn0;obtain ⟨hc0,hf0,hl0⟩:=hb0.all;(try clear hx0);rw [Ha.out]
 go_wp2_with fail
 go_at_call 70;refine (tidy_any p _ (by omega) (by omega)).mono ?_;rintro e w1 ⟨rfl,hx0⟩;have hy:=Ext.trans (a:=w) EX hx0;clear hx;have hx:=hy;clear hy;have hn0:=BB hx0 (w.heap.size);(first | simp [↓heap_drew_at,↓heap_drewN_at,↓heap_alloc_at,↓heap_set_at,ne_two,ne_three,ne_two_left,ne_three_left,↓hb0.eq,hb0.lt,hb0.ne] at hn0 | simp [↓heap_drew_at,↓heap_drewN_at,↓heap_alloc_at,↓heap_set_at,ne_two,ne_three,ne_two_left,ne_three_left] at hn0);(try clear hb0 hc0 hf0 hl0);have hb0:=Blk.mk hn0;clear hn0;obtain ⟨hc0,hf0,hl0⟩:=hb0.all;(try clear hx0);rw [Ht.out]
 go_wp2_with fail
 go_at_call 71;refine (isPath_any p.path _ (Hg.out.ext EX)).mono ?_;rintro e w1 ⟨rfl,hx0⟩;have hy:=Ext.trans (a:=w) EX hx0;clear hx;have hx:=hy;clear hy;have hn0:=BB hx0 (w.heap.size);(first | simp [↓heap_drew_at,↓heap_drewN_at,↓heap_alloc_at,↓heap_set_at,ne_two,ne_three,ne_two_left,ne_three_left,↓hb0.eq,hb0.lt,hb0.ne] at hn0 | simp [↓heap_drew_at,↓heap_drewN_at,↓heap_alloc_at,↓heap_set_at,ne_two,ne_three,ne_two_left,ne_three_left] at hn0);(try clear hb0 hc0 hf0 hl0);have hb0:=Blk.mk hn0;clear hn0;obtain ⟨hc0,hf0,hl0⟩:=hb0.all;(try clear hx0);rw [Hp.out]
 go_wp2_with fail
 refine upon_method (f:=229) (by kernel_rfl) (by kernel_rfl) ?_
 rw [Oper.upon_enter]
 go_at_call 229;refine (edCheck6_any p o n _ (H1.out.ext EX) (H2.out.ext EX) (by omega) (by omega)).mono ?_;rintro e w1 ⟨rfl,hx0⟩;have hy:=Ext.trans (a:=w) EX hx0;clear hx;have hx:=hy;clear hy;have hn0:=BB hx0 (w.heap.size);(first | simp [↓heap_drew_at,↓heap_drewN_at,↓heap_alloc_at,↓heap_set_at,ne_two,ne_three,ne_two_left,ne_three_left,↓hb0.eq,hb0.lt,hb0.ne] at hn0 | simp [↓heap_drew_at,↓heap_drewN_at,↓heap_alloc_at,↓heap_set_at,ne_two,ne_three,ne_two_left,ne_three_left] at hn0);(try clear hb0 hc0 hf0 hl0);have hb0:=Blk.mk hn0;clear hn0;obtain ⟨hc0,hf0,hl0⟩:=hb0.all;(try clear hx0)
 go_wp2_with fail
 (go_ret;refine Ret.mk ?_ ?_;(focus (rfl;done));(focus (exact EX;done)))
theorem check_any (p:Pv) (o n:List ByteArray) (w:World) (hg:Glob w) (h1:Sl w p.A1 p.n1 p.c1 o) (h2:Sl w p.A2 p.n2 p.c2 n) (b1:p.n1≤1152921504606846976) (b2:p.n2≤1152921504606846976) (b3:p.path.size≤1152921504606846976) (b4:p.to_.size≤1152921504606846976):
 Calls Tryz.prog 38 #[p.v] w (Ret (.int .i64 (p.check o n)) w):=by
 cases hk:p.known
 ·exact check_unknown p o n w hg h1 h2 b1 b2 b3 b4 hk
 cases ht:p.tidy
 ·exact check_untidy p o n w hg h1 h2 b1 b2 b3 b4 hk ht
 cases hp:p.pathsOk
 ·cases hq:Qm.isPath p.path
  ·exact check_badpath p o n w hg h1 h2 b1 b2 b3 b4 hk ht hq
  ·rw [Pv.pathsOk,hq] at hp
   simp only [Bool.true_and,Bool.or_eq_false_iff,Bool.not_eq_false'] at hp
   exact check_badto p o n w hg h1 h2 b1 b2 b3 b4 hk ht hq hp.1 hp.2
 have hr:1≤p.kind∧p.kind≤8:=by simpa [Pv.known] using hk
 by_cases k1:p.kind=1∨p.kind=3
 ·exact check_add p o n w hg h1 h2 b1 b2 b3 b4 k1 hk ht hp
 by_cases k2:p.kind=2∨p.kind=4
 ·exact check_rem p o n w hg h1 h2 b1 b2 b3 b4 k2 hk ht hp
 by_cases k3:p.kind=5
 ·exact check_mov p o n w hg h1 h2 b1 b2 b3 b4 k3 hk ht hp
 ·exact check_ed p o n w hg h1 h2 b1 b2 b3 b4 (by omega) hk ht hp
end Go.Proofs.YtfmgnaigcibcaaaGreatDoor
