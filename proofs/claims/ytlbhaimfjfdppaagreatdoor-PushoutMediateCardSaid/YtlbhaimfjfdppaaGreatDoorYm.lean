import Derived.Test.YtlbhaimfjfdppaaGreatDoorJD
import Derived.Test.YtlbhaimfjfdppaaGreatDoorR
set_option linter.unusedSimpArgs false
set_option linter.unusedVariables false
namespace Go.Proofs.YtlbhaimfjfdppaaGreatDoor
open Go.RowKit
theorem Rm.slot_size (k:Int) (p t s:ByteArray):(Rm.slot k p t s).1.size≤t.size+s.size+s.size:=by
 have h:=Rm.through_size k p t (Qm.parent s)
 have h2:=Qm.parent_size s
 unfold Rm.slot
 repeat' split
 all_goals simp only [ByteArray.size_append,ByteArray.size_extract,show (ByteArray.mk #[]).size=0 from rfl]
 all_goals omega
def Rm.moved (p q:Pv):Pv × Bool:=
 ({ p with path:=(if Qm.adds p.kind then Rm.slot q.kind q.path q.to_ p.path else Rm.through q.kind q.path q.to_ p.path).1,to_:=(if p.kind == 5 then Rm.slot q.kind q.path q.to_ p.to_ else (p.to_,true)).1 },
  (if Qm.adds p.kind then Rm.slot q.kind q.path q.to_ p.path else Rm.through q.kind q.path q.to_ p.path).2 && (if p.kind == 5 then Rm.slot q.kind q.path q.to_ p.to_ else (p.to_,true)).2)
set_option maxHeartbeats 4000000 in
set_option maxRecDepth 100000 in
theorem rmoved_any (p q:Pv) (w:World) (h1:q.path.size≤1152921504606846976) (h2:q.to_.size≤1152921504606846976) (h3:p.path.size≤1152921504606846976) (h4:p.to_.size≤1152921504606846976):
 Calls Tryz.prog 89 #[p.v,q.v] w (Ret (.tuple #[(Rm.moved p q).1.v,.bool (Rm.moved p q).2]) w):=by
 have HT:=Lib.hid (fun W=>rthrough_any q p.path W h1 h2 h3)
 have HS:=Lib.hid (fun W=>rslot_any q p.path W h1 h2 h3)
 have HS2:=Lib.hid (fun W=>rslot_any q p.to_ W h1 h2 h4)
 have HV:Hid (Rm.moved p q=({ p with path:=(if Qm.adds p.kind then Rm.slot q.kind q.path q.to_ p.path else Rm.through q.kind q.path q.to_ p.path).1,to_:=(if p.kind == 5 then Rm.slot q.kind q.path q.to_ p.to_ else (p.to_,true)).1 },
  (if Qm.adds p.kind then Rm.slot q.kind q.path q.to_ p.path else Rm.through q.kind q.path q.to_ p.path).2 && (if p.kind == 5 then Rm.slot q.kind q.path q.to_ p.to_ else (p.to_,true)).2)):=Lib.hid rfl
 generalize Rm.moved p q=R at HV ⊢
 generalize Rm.through q.kind q.path q.to_ p.path=T at *
 generalize Rm.slot q.kind q.path q.to_ p.path=S at *
 generalize Rm.slot q.kind q.path q.to_ p.to_=S2 at *
 obtain ⟨T1,T2⟩:=T
 obtain ⟨S1,S2'⟩:=S
 obtain ⟨U1,U2⟩:=S2
 dsimp only at *
 clear h1 h2 h3 h4
 cases ha:Qm.adds p.kind
 ·have Ha:=Lib.hid ha
  cases k5:(p.kind == 5)
  ·have HR:Hid (R=({ p with path:=T1 },T2)):=Lib.hid (by rw [HV.out,ha,k5];simp)
   clear HV ha
   cases T2
   all_goals
    go_enter Tryz.func89,Tryz.ntmps89
    have hx:=Ext.refl w
    go_wp2_with (first
     | (go_at_call 108;refine (rexisting_any p _).mono ?_;rintro e w1 ⟨rfl,hx0⟩;have hy:=Ext.trans (a:=w) EX hx0;clear hx;have hx:=hy;clear hy;have hn0:=BB hx0 (w.heap.size);have hn1:=BB hx0 (w.heap.size+1);have hn2:=BB hx0 (w.heap.size+1+1);have hn3:=BB hx0 (w.heap.size+1+1+1);(first | simp [↓heap_drew_at,↓heap_drewN_at,↓heap_alloc_at,↓heap_set_at,ne_two,ne_three,ne_two_left,ne_three_left,↓hb0.eq,hb0.lt,hb0.ne,↓hb1.eq,hb1.lt,hb1.ne,↓hb2.eq,hb2.lt,hb2.ne,↓hb3.eq,hb3.lt,hb3.ne] at hn0 hn1 hn2 hn3 | simp [↓heap_drew_at,↓heap_drewN_at,↓heap_alloc_at,↓heap_set_at,ne_two,ne_three,ne_two_left,ne_three_left] at hn0 hn1 hn2 hn3);(try clear hb0 hc0 hf0 hl0);(try clear hb1 hc1 hf1 hl1);(try clear hb2 hc2 hf2 hl2);(try clear hb3 hc3 hf3 hl3);have hb0:=Blk.mk hn0;clear hn0;obtain ⟨hc0,hf0,hl0⟩:=hb0.all;have hb1:=Blk.mk hn1;clear hn1;obtain ⟨hc1,hf1,hl1⟩:=hb1.all;have hb2:=Blk.mk hn2;clear hn2;obtain ⟨hc2,hf2,hl2⟩:=hb2.all;have hb3:=Blk.mk hn3;clear hn3;obtain ⟨hc3,hf3,hl3⟩:=hb3.all;(try clear hx0);rw [Ha.out])
     | (go_at_call 109;refine (HT.out _).mono ?_;rintro e w1 ⟨rfl,hx0⟩;have hy:=Ext.trans (a:=w) EX hx0;clear hx;have hx:=hy;clear hy;have hn0:=BB hx0 (w.heap.size);have hn1:=BB hx0 (w.heap.size+1);have hn2:=BB hx0 (w.heap.size+1+1);have hn3:=BB hx0 (w.heap.size+1+1+1);(first | simp [↓heap_drew_at,↓heap_drewN_at,↓heap_alloc_at,↓heap_set_at,ne_two,ne_three,ne_two_left,ne_three_left,↓hb0.eq,hb0.lt,hb0.ne,↓hb1.eq,hb1.lt,hb1.ne,↓hb2.eq,hb2.lt,hb2.ne,↓hb3.eq,hb3.lt,hb3.ne] at hn0 hn1 hn2 hn3 | simp [↓heap_drew_at,↓heap_drewN_at,↓heap_alloc_at,↓heap_set_at,ne_two,ne_three,ne_two_left,ne_three_left] at hn0 hn1 hn2 hn3);(try clear hb0 hc0 hf0 hl0);(try clear hb1 hc1 hf1 hl1);(try clear hb2 hc2 hf2 hl2);(try clear hb3 hc3 hf3 hl3);have hb0:=Blk.mk hn0;clear hn0;obtain ⟨hc0,hf0,hl0⟩:=hb0.all;have hb1:=Blk.mk hn1;clear hn1;obtain ⟨hc1,hf1,hl1⟩:=hb1.all;have hb2:=Blk.mk hn2;clear hn2;obtain ⟨hc2,hf2,hl2⟩:=hb2.all;have hb3:=Blk.mk hn3;clear hn3;obtain ⟨hc3,hf3,hl3⟩:=hb3.all;(try clear hx0))
     | (go_at_call 110;refine (HS2.out _).mono ?_;rintro e w1 ⟨rfl,hx0⟩;have hy:=Ext.trans (a:=w) EX hx0;clear hx;have hx:=hy;clear hy;have hn0:=BB hx0 (w.heap.size);have hn1:=BB hx0 (w.heap.size+1);have hn2:=BB hx0 (w.heap.size+1+1);have hn3:=BB hx0 (w.heap.size+1+1+1);(first | simp [↓heap_drew_at,↓heap_drewN_at,↓heap_alloc_at,↓heap_set_at,ne_two,ne_three,ne_two_left,ne_three_left,↓hb0.eq,hb0.lt,hb0.ne,↓hb1.eq,hb1.lt,hb1.ne,↓hb2.eq,hb2.lt,hb2.ne,↓hb3.eq,hb3.lt,hb3.ne] at hn0 hn1 hn2 hn3 | simp [↓heap_drew_at,↓heap_drewN_at,↓heap_alloc_at,↓heap_set_at,ne_two,ne_three,ne_two_left,ne_three_left] at hn0 hn1 hn2 hn3);(try clear hb0 hc0 hf0 hl0);(try clear hb1 hc1 hf1 hl1);(try clear hb2 hc2 hf2 hl2);(try clear hb3 hc3 hf3 hl3);have hb0:=Blk.mk hn0;clear hn0;obtain ⟨hc0,hf0,hl0⟩:=hb0.all;have hb1:=Blk.mk hn1;clear hn1;obtain ⟨hc1,hf1,hl1⟩:=hb1.all;have hb2:=Blk.mk hn2;clear hn2;obtain ⟨hc2,hf2,hl2⟩:=hb2.all;have hb3:=Blk.mk hn3;clear hn3;obtain ⟨hc3,hf3,hl3⟩:=hb3.all;(try clear hx0)))
    rw [HR.out]
   ·(refine bodyPost_ret (v:=.tuple #[Pv.v { p with path:=T1 },.bool false]) ?_ rfl ?_;(focus (simp only [results,Tryz.results89];go_simp;(try (simp));done));refine Ret.mk rfl ?_;(focus (exact EX;done)))
   ·(refine bodyPost_ret (v:=.tuple #[Pv.v { p with path:=T1 },.bool true]) ?_ rfl ?_;(focus (simp only [results,Tryz.results89];go_simp;(try (simp));done));refine Ret.mk rfl ?_;(focus (exact EX;done)))
  ·have HR:Hid (R=({ p with path:=T1,to_:=U1 },T2 && U2)):=Lib.hid (by rw [HV.out,ha,k5];simp)
   clear HV ha
   cases T2
   all_goals
    go_enter Tryz.func89,Tryz.ntmps89
    have hx:=Ext.refl w
    go_wp2_with (first
     | (go_at_call 108;refine (rexisting_any p _).mono ?_;rintro e w1 ⟨rfl,hx0⟩;have hy:=Ext.trans (a:=w) EX hx0;clear hx;have hx:=hy;clear hy;have hn0:=BB hx0 (w.heap.size);have hn1:=BB hx0 (w.heap.size+1);have hn2:=BB hx0 (w.heap.size+1+1);have hn3:=BB hx0 (w.heap.size+1+1+1);(first | simp [↓heap_drew_at,↓heap_drewN_at,↓heap_alloc_at,↓heap_set_at,ne_two,ne_three,ne_two_left,ne_three_left,↓hb0.eq,hb0.lt,hb0.ne,↓hb1.eq,hb1.lt,hb1.ne,↓hb2.eq,hb2.lt,hb2.ne,↓hb3.eq,hb3.lt,hb3.ne] at hn0 hn1 hn2 hn3 | simp [↓heap_drew_at,↓heap_drewN_at,↓heap_alloc_at,↓heap_set_at,ne_two,ne_three,ne_two_left,ne_three_left] at hn0 hn1 hn2 hn3);(try clear hb0 hc0 hf0 hl0);(try clear hb1 hc1 hf1 hl1);(try clear hb2 hc2 hf2 hl2);(try clear hb3 hc3 hf3 hl3);have hb0:=Blk.mk hn0;clear hn0;obtain ⟨hc0,hf0,hl0⟩:=hb0.all;have hb1:=Blk.mk hn1;clear hn1;obtain ⟨hc1,hf1,hl1⟩:=hb1.all;have hb2:=Blk.mk hn2;clear hn2;obtain ⟨hc2,hf2,hl2⟩:=hb2.all;have hb3:=Blk.mk hn3;clear hn3;obtain ⟨hc3,hf3,hl3⟩:=hb3.all;(try clear hx0);rw [Ha.out])
     | (go_at_call 109;refine (HT.out _).mono ?_;rintro e w1 ⟨rfl,hx0⟩;have hy:=Ext.trans (a:=w) EX hx0;clear hx;have hx:=hy;clear hy;have hn0:=BB hx0 (w.heap.size);have hn1:=BB hx0 (w.heap.size+1);have hn2:=BB hx0 (w.heap.size+1+1);have hn3:=BB hx0 (w.heap.size+1+1+1);(first | simp [↓heap_drew_at,↓heap_drewN_at,↓heap_alloc_at,↓heap_set_at,ne_two,ne_three,ne_two_left,ne_three_left,↓hb0.eq,hb0.lt,hb0.ne,↓hb1.eq,hb1.lt,hb1.ne,↓hb2.eq,hb2.lt,hb2.ne,↓hb3.eq,hb3.lt,hb3.ne] at hn0 hn1 hn2 hn3 | simp [↓heap_drew_at,↓heap_drewN_at,↓heap_alloc_at,↓heap_set_at,ne_two,ne_three,ne_two_left,ne_three_left] at hn0 hn1 hn2 hn3);(try clear hb0 hc0 hf0 hl0);(try clear hb1 hc1 hf1 hl1);(try clear hb2 hc2 hf2 hl2);(try clear hb3 hc3 hf3 hl3);have hb0:=Blk.mk hn0;clear hn0;obtain ⟨hc0,hf0,hl0⟩:=hb0.all;have hb1:=Blk.mk hn1;clear hn1;obtain ⟨hc1,hf1,hl1⟩:=hb1.all;have hb2:=Blk.mk hn2;clear hn2;obtain ⟨hc2,hf2,hl2⟩:=hb2.all;have hb3:=Blk.mk hn3;clear hn3;obtain ⟨hc3,hf3,hl3⟩:=hb3.all;(try clear hx0))
     | (go_at_call 110;refine (HS2.out _).mono ?_;rintro e w1 ⟨rfl,hx0⟩;have hy:=Ext.trans (a:=w) EX hx0;clear hx;have hx:=hy;clear hy;have hn0:=BB hx0 (w.heap.size);have hn1:=BB hx0 (w.heap.size+1);have hn2:=BB hx0 (w.heap.size+1+1);have hn3:=BB hx0 (w.heap.size+1+1+1);(first | simp [↓heap_drew_at,↓heap_drewN_at,↓heap_alloc_at,↓heap_set_at,ne_two,ne_three,ne_two_left,ne_three_left,↓hb0.eq,hb0.lt,hb0.ne,↓hb1.eq,hb1.lt,hb1.ne,↓hb2.eq,hb2.lt,hb2.ne,↓hb3.eq,hb3.lt,hb3.ne] at hn0 hn1 hn2 hn3 | simp [↓heap_drew_at,↓heap_drewN_at,↓heap_alloc_at,↓heap_set_at,ne_two,ne_three,ne_two_left,ne_three_left] at hn0 hn1 hn2 hn3);(try clear hb0 hc0 hf0 hl0);(try clear hb1 hc1 hf1 hl1);(try clear hb2 hc2 hf2 hl2);(try clear hb3 hc3 hf3 hl3);have hb0:=Blk.mk hn0;clear hn0;obtain ⟨hc0,hf0,hl0⟩:=hb0.all;have hb1:=Blk.mk hn1;clear hn1;obtain ⟨hc1,hf1,hl1⟩:=hb1.all;have hb2:=Blk.mk hn2;clear hn2;obtain ⟨hc2,hf2,hl2⟩:=hb2.all;have hb3:=Blk.mk hn3;clear hn3;obtain ⟨hc3,hf3,hl3⟩:=hb3.all;(try clear hx0)))
    rw [HR.out]
   ·(refine bodyPost_ret (v:=.tuple #[Pv.v { p with path:=T1,to_:=U1 },.bool false]) ?_ rfl ?_;(focus (simp only [results,Tryz.results89];go_simp;(try (simp));done));refine Ret.mk rfl ?_;(focus (exact EX;done)))
   ·(refine bodyPost_ret (v:=.tuple #[Pv.v { p with path:=T1,to_:=U1 },.bool U2]) ?_ rfl ?_;(focus (simp only [results,Tryz.results89];go_simp;(try (simp));done));refine Ret.mk rfl ?_;(focus (exact EX;done)))
 ·have k5:(p.kind == 5)=false:=by
   simp only [Qm.adds,Bool.or_eq_true,beq_iff_eq] at ha
   rw [beq_eq_false_iff_ne]
   omega
  have HR:Hid (R=({ p with path:=S1 },S2')):=Lib.hid (by rw [HV.out,ha,k5];simp)
  have Ha:=Lib.hid ha
  clear HV ha
  cases S2'
  all_goals
   go_enter Tryz.func89,Tryz.ntmps89
   have hx:=Ext.refl w
   go_wp2_with (first
    | (go_at_call 108;refine (rexisting_any p _).mono ?_;rintro e w1 ⟨rfl,hx0⟩;have hy:=Ext.trans (a:=w) EX hx0;clear hx;have hx:=hy;clear hy;have hn0:=BB hx0 (w.heap.size);have hn1:=BB hx0 (w.heap.size+1);have hn2:=BB hx0 (w.heap.size+1+1);have hn3:=BB hx0 (w.heap.size+1+1+1);(first | simp [↓heap_drew_at,↓heap_drewN_at,↓heap_alloc_at,↓heap_set_at,ne_two,ne_three,ne_two_left,ne_three_left,↓hb0.eq,hb0.lt,hb0.ne,↓hb1.eq,hb1.lt,hb1.ne,↓hb2.eq,hb2.lt,hb2.ne,↓hb3.eq,hb3.lt,hb3.ne] at hn0 hn1 hn2 hn3 | simp [↓heap_drew_at,↓heap_drewN_at,↓heap_alloc_at,↓heap_set_at,ne_two,ne_three,ne_two_left,ne_three_left] at hn0 hn1 hn2 hn3);(try clear hb0 hc0 hf0 hl0);(try clear hb1 hc1 hf1 hl1);(try clear hb2 hc2 hf2 hl2);(try clear hb3 hc3 hf3 hl3);have hb0:=Blk.mk hn0;clear hn0;obtain ⟨hc0,hf0,hl0⟩:=hb0.all;have hb1:=Blk.mk hn1;clear hn1;obtain ⟨hc1,hf1,hl1⟩:=hb1.all;have hb2:=Blk.mk hn2;clear hn2;obtain ⟨hc2,hf2,hl2⟩:=hb2.all;have hb3:=Blk.mk hn3;clear hn3;obtain ⟨hc3,hf3,hl3⟩:=hb3.all;(try clear hx0);rw [Ha.out])
    | (go_at_call 110;refine (HS.out _).mono ?_;rintro e w1 ⟨rfl,hx0⟩;have hy:=Ext.trans (a:=w) EX hx0;clear hx;have hx:=hy;clear hy;have hn0:=BB hx0 (w.heap.size);have hn1:=BB hx0 (w.heap.size+1);have hn2:=BB hx0 (w.heap.size+1+1);have hn3:=BB hx0 (w.heap.size+1+1+1);(first | simp [↓heap_drew_at,↓heap_drewN_at,↓heap_alloc_at,↓heap_set_at,ne_two,ne_three,ne_two_left,ne_three_left,↓hb0.eq,hb0.lt,hb0.ne,↓hb1.eq,hb1.lt,hb1.ne,↓hb2.eq,hb2.lt,hb2.ne,↓hb3.eq,hb3.lt,hb3.ne] at hn0 hn1 hn2 hn3 | simp [↓heap_drew_at,↓heap_drewN_at,↓heap_alloc_at,↓heap_set_at,ne_two,ne_three,ne_two_left,ne_three_left] at hn0 hn1 hn2 hn3);(try clear hb0 hc0 hf0 hl0);(try clear hb1 hc1 hf1 hl1);(try clear hb2 hc2 hf2 hl2);(try clear hb3 hc3 hf3 hl3);have hb0:=Blk.mk hn0;clear hn0;obtain ⟨hc0,hf0,hl0⟩:=hb0.all;have hb1:=Blk.mk hn1;clear hn1;obtain ⟨hc1,hf1,hl1⟩:=hb1.all;have hb2:=Blk.mk hn2;clear hn2;obtain ⟨hc2,hf2,hl2⟩:=hb2.all;have hb3:=Blk.mk hn3;clear hn3;obtain ⟨hc3,hf3,hl3⟩:=hb3.all;(try clear hx0)))
   rw [HR.out]
  ·(refine bodyPost_ret (v:=.tuple #[Pv.v { p with path:=S1 },.bool false]) ?_ rfl ?_;(focus (simp only [results,Tryz.results89];go_simp;(try (simp));done));refine Ret.mk rfl ?_;(focus (exact EX;done)))
  ·(refine bodyPost_ret (v:=.tuple #[Pv.v { p with path:=S1 },.bool true]) ?_ rfl ?_;(focus (simp only [results,Tryz.results89];go_simp;(try (simp));done));refine Ret.mk rfl ?_;(focus (exact EX;done)))
end Go.Proofs.YtlbhaimfjfdppaaGreatDoor
