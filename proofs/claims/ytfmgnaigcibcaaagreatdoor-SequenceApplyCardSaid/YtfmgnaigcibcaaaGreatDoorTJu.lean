import Derived.Test.YtfmgnaigcibcaaaGreatDoorTYj
import Derived.Test.YtfmgnaigcibcaaaGreatDoorTQe
import Derived.Test.YtfmgnaigcibcaaaGreatDoorTO
set_option linter.unusedSimpArgs false
set_option linter.unusedVariables false
namespace Go.Proofs.YtfmgnaigcibcaaaGreatDoor
open Go.RowKit Pa
def Pv.turn (p:Pv) (k:Int):Pv:={ p with kind:=k,A1:=p.A2,n1:=p.n2,c1:=p.c2,A2:=p.A1,n2:=p.n1,c2:=p.c1,so:=p.sn,sn:=p.so,om:=p.nm,nm:=p.om }
def Rm.inv (p:Pv):Pv:=if p.kind=1 then p.turn 2 else if p.kind=2 then p.turn 1 else if p.kind=3 then p.turn 4 else if p.kind=4 then p.turn 3 else if p.kind=5 then { p.turn 5 with path:=p.to_,to_:=p.path } else p.turn p.kind
theorem rinv_pv {q:Qp} (h:q.check=0) (A1:Option Addr) (c1:Nat) (A2:Option Addr) (c2:Nat):Rm.inv (q.pv A1 c1 A2 c2)=q.inv.pv A2 c2 A1 c1:=by
 have l:=check_lean h
 obtain ⟨g1,g2,g3,g4,g5,g6,g7,g8,g9,g10⟩:=l
 have hk:=(check_parts h).1
 cases q
 rename_i kind path to_ ty at_ old new off so sn om nm
 dsimp only at *
 unfold Rm.inv Qp.inv Pv.turn
 by_cases k1:kind=1
 ·subst k1;simp_all [Qp.zero,Qp.pv]
 by_cases k2:kind=2
 ·subst k2;simp_all [Qp.zero,Qp.pv]
 by_cases k3:kind=3
 ·subst k3;simp_all [Qp.zero,Qp.pv]
 by_cases k4:kind=4
 ·subst k4;simp_all [Qp.zero,Qp.pv]
 by_cases k5:kind=5
 ·subst k5;simp_all [Qp.zero,Qp.pv]
 simp [k1,k2,k3,k4,k5,Qp.pv]
set_option maxHeartbeats 8000000 in
set_option maxRecDepth 100000 in
theorem rinv_any (p:Pv) (w:World) (hk:1≤p.kind∧p.kind≤8) (hc:∀ W,Ext w W→Calls Tryz.prog 42 #[p.v] W (Ret (.int .i64 0) W)):
 Calls Tryz.prog 53 #[p.v] w (Ret (.tuple #[(Rm.inv p).v,.int .i64 0]) w):=by
 have HC:=Lib.hid hc
 clear hc
 obtain ⟨kind,path,to_,ty,at_,A1,n1,c1,A2,n2,c2,off,so,sn,om,nm⟩:=p
 dsimp only at hk
 have hw:kind=1∨kind=2∨kind=3∨kind=4∨kind=5∨6≤kind:=by omega
 have HK:=Lib.hid hk
 clear hk
 rcases hw with rfl | rfl | rfl | rfl | rfl | k6
 case inr.inr.inr.inr.inr=>
  have e4:¬ kind≤4:=by omega
  have e5:(kind == 5)=false:=by rw [beq_eq_false_iff_ne];omega
  have hm:Rm.inv ⟨kind,path,to_,ty,at_,A1,n1,c1,A2,n2,c2,off,so,sn,om,nm⟩=⟨kind,path,to_,ty,at_,A2,n2,c2,A1,n1,c1,off,sn,so,nm,om⟩:=by
   unfold Rm.inv Pv.turn
   rw [if_neg (by dsimp only;omega),if_neg (by dsimp only;omega),if_neg (by dsimp only;omega),if_neg (by dsimp only;omega),if_neg (by dsimp only;omega)]
  rw [hm]
  clear hm k6
  go_enter Tryz.func53,Tryz.ntmps53
  have hx:=Ext.refl w
  go_wp2_with (go_at_call 42;refine (HC.out _ EX).mono ?_;rintro e w1 ⟨rfl,hx0⟩;have hy:=Ext.trans (a:=w) EX hx0;clear hx;have hx:=hy;clear hy;have hn0:=BB hx0 (w.heap.size);have hn1:=BB hx0 (w.heap.size+1);(first | simp [↓heap_drew_at,↓heap_drewN_at,↓heap_alloc_at,↓heap_set_at,ne_two,ne_three,ne_two_left,ne_three_left,↓hb0.eq,hb0.lt,hb0.ne,↓hb1.eq,hb1.lt,hb1.ne] at hn0 hn1 | simp [↓heap_drew_at,↓heap_drewN_at,↓heap_alloc_at,↓heap_set_at,ne_two,ne_three,ne_two_left,ne_three_left] at hn0 hn1);(try clear hb0 hc0 hf0 hl0);(try clear hb1 hc1 hf1 hl1);have hb0:=Blk.mk hn0;clear hn0;obtain ⟨hc0,hf0,hl0⟩:=hb0.all;have hb1:=Blk.mk hn1;clear hn1;obtain ⟨hc1,hf1,hl1⟩:=hb1.all;(try clear hx0))
  (refine bodyPost_ret (v:=.tuple #[Pv.v ⟨kind,path,to_,ty,at_,A2,n2,c2,A1,n1,c1,off,sn,so,nm,om⟩,.int .i64 0]) ?_ rfl ?_;(focus (simp only [results,Tryz.results53];go_simp;(try (simp));done));refine Ret.mk rfl ?_;(focus (exact EX;done)))
 case inr.inr.inr.inr.inl=>
  go_enter Tryz.func53,Tryz.ntmps53
  have hx:=Ext.refl w
  go_wp2_with (go_at_call 42;refine (HC.out _ EX).mono ?_;rintro e w1 ⟨rfl,hx0⟩;have hy:=Ext.trans (a:=w) EX hx0;clear hx;have hx:=hy;clear hy;have hn0:=BB hx0 (w.heap.size);have hn1:=BB hx0 (w.heap.size+1);(first | simp [↓heap_drew_at,↓heap_drewN_at,↓heap_alloc_at,↓heap_set_at,ne_two,ne_three,ne_two_left,ne_three_left,↓hb0.eq,hb0.lt,hb0.ne,↓hb1.eq,hb1.lt,hb1.ne] at hn0 hn1 | simp [↓heap_drew_at,↓heap_drewN_at,↓heap_alloc_at,↓heap_set_at,ne_two,ne_three,ne_two_left,ne_three_left] at hn0 hn1);(try clear hb0 hc0 hf0 hl0);(try clear hb1 hc1 hf1 hl1);have hb0:=Blk.mk hn0;clear hn0;obtain ⟨hc0,hf0,hl0⟩:=hb0.all;have hb1:=Blk.mk hn1;clear hn1;obtain ⟨hc1,hf1,hl1⟩:=hb1.all;(try clear hx0))
  (refine bodyPost_ret (v:=.tuple #[Pv.v ⟨5,to_,path,ty,at_,A2,n2,c2,A1,n1,c1,off,sn,so,nm,om⟩,.int .i64 0]) ?_ rfl ?_;(focus (simp only [results,Tryz.results53];go_simp;(try (simp));done));refine Ret.mk rfl ?_;(focus (exact EX;done)))
 case inr.inr.inr.inl=>
  go_enter Tryz.func53,Tryz.ntmps53
  have hx:=Ext.refl w
  go_wp2_with (go_at_call 42;refine (HC.out _ EX).mono ?_;rintro e w1 ⟨rfl,hx0⟩;have hy:=Ext.trans (a:=w) EX hx0;clear hx;have hx:=hy;clear hy;have hn0:=BB hx0 (w.heap.size);have hn1:=BB hx0 (w.heap.size+1);(first | simp [↓heap_drew_at,↓heap_drewN_at,↓heap_alloc_at,↓heap_set_at,ne_two,ne_three,ne_two_left,ne_three_left,↓hb0.eq,hb0.lt,hb0.ne,↓hb1.eq,hb1.lt,hb1.ne] at hn0 hn1 | simp [↓heap_drew_at,↓heap_drewN_at,↓heap_alloc_at,↓heap_set_at,ne_two,ne_three,ne_two_left,ne_three_left] at hn0 hn1);(try clear hb0 hc0 hf0 hl0);(try clear hb1 hc1 hf1 hl1);have hb0:=Blk.mk hn0;clear hn0;obtain ⟨hc0,hf0,hl0⟩:=hb0.all;have hb1:=Blk.mk hn1;clear hn1;obtain ⟨hc1,hf1,hl1⟩:=hb1.all;(try clear hx0))
  (refine bodyPost_ret (v:=.tuple #[Pv.v ⟨3,path,to_,ty,at_,A2,n2,c2,A1,n1,c1,off,sn,so,nm,om⟩,.int .i64 0]) ?_ rfl ?_;(focus (simp only [results,Tryz.results53];go_simp;(try (simp));done));refine Ret.mk rfl ?_;(focus (exact EX;done)))
 case inr.inr.inl=>
  go_enter Tryz.func53,Tryz.ntmps53
  have hx:=Ext.refl w
  go_wp2_with (go_at_call 42;refine (HC.out _ EX).mono ?_;rintro e w1 ⟨rfl,hx0⟩;have hy:=Ext.trans (a:=w) EX hx0;clear hx;have hx:=hy;clear hy;have hn0:=BB hx0 (w.heap.size);have hn1:=BB hx0 (w.heap.size+1);(first | simp [↓heap_drew_at,↓heap_drewN_at,↓heap_alloc_at,↓heap_set_at,ne_two,ne_three,ne_two_left,ne_three_left,↓hb0.eq,hb0.lt,hb0.ne,↓hb1.eq,hb1.lt,hb1.ne] at hn0 hn1 | simp [↓heap_drew_at,↓heap_drewN_at,↓heap_alloc_at,↓heap_set_at,ne_two,ne_three,ne_two_left,ne_three_left] at hn0 hn1);(try clear hb0 hc0 hf0 hl0);(try clear hb1 hc1 hf1 hl1);have hb0:=Blk.mk hn0;clear hn0;obtain ⟨hc0,hf0,hl0⟩:=hb0.all;have hb1:=Blk.mk hn1;clear hn1;obtain ⟨hc1,hf1,hl1⟩:=hb1.all;(try clear hx0))
  (refine bodyPost_ret (v:=.tuple #[Pv.v ⟨4,path,to_,ty,at_,A2,n2,c2,A1,n1,c1,off,sn,so,nm,om⟩,.int .i64 0]) ?_ rfl ?_;(focus (simp only [results,Tryz.results53];go_simp;(try (simp));done));refine Ret.mk rfl ?_;(focus (exact EX;done)))
 case inr.inl=>
  go_enter Tryz.func53,Tryz.ntmps53
  have hx:=Ext.refl w
  go_wp2_with (go_at_call 42;refine (HC.out _ EX).mono ?_;rintro e w1 ⟨rfl,hx0⟩;have hy:=Ext.trans (a:=w) EX hx0;clear hx;have hx:=hy;clear hy;have hn0:=BB hx0 (w.heap.size);have hn1:=BB hx0 (w.heap.size+1);(first | simp [↓heap_drew_at,↓heap_drewN_at,↓heap_alloc_at,↓heap_set_at,ne_two,ne_three,ne_two_left,ne_three_left,↓hb0.eq,hb0.lt,hb0.ne,↓hb1.eq,hb1.lt,hb1.ne] at hn0 hn1 | simp [↓heap_drew_at,↓heap_drewN_at,↓heap_alloc_at,↓heap_set_at,ne_two,ne_three,ne_two_left,ne_three_left] at hn0 hn1);(try clear hb0 hc0 hf0 hl0);(try clear hb1 hc1 hf1 hl1);have hb0:=Blk.mk hn0;clear hn0;obtain ⟨hc0,hf0,hl0⟩:=hb0.all;have hb1:=Blk.mk hn1;clear hn1;obtain ⟨hc1,hf1,hl1⟩:=hb1.all;(try clear hx0))
  (refine bodyPost_ret (v:=.tuple #[Pv.v ⟨1,path,to_,ty,at_,A2,n2,c2,A1,n1,c1,off,sn,so,nm,om⟩,.int .i64 0]) ?_ rfl ?_;(focus (simp only [results,Tryz.results53];go_simp;(try (simp));done));refine Ret.mk rfl ?_;(focus (exact EX;done)))
 case inl=>
  go_enter Tryz.func53,Tryz.ntmps53
  have hx:=Ext.refl w
  go_wp2_with (go_at_call 42;refine (HC.out _ EX).mono ?_;rintro e w1 ⟨rfl,hx0⟩;have hy:=Ext.trans (a:=w) EX hx0;clear hx;have hx:=hy;clear hy;have hn0:=BB hx0 (w.heap.size);have hn1:=BB hx0 (w.heap.size+1);(first | simp [↓heap_drew_at,↓heap_drewN_at,↓heap_alloc_at,↓heap_set_at,ne_two,ne_three,ne_two_left,ne_three_left,↓hb0.eq,hb0.lt,hb0.ne,↓hb1.eq,hb1.lt,hb1.ne] at hn0 hn1 | simp [↓heap_drew_at,↓heap_drewN_at,↓heap_alloc_at,↓heap_set_at,ne_two,ne_three,ne_two_left,ne_three_left] at hn0 hn1);(try clear hb0 hc0 hf0 hl0);(try clear hb1 hc1 hf1 hl1);have hb0:=Blk.mk hn0;clear hn0;obtain ⟨hc0,hf0,hl0⟩:=hb0.all;have hb1:=Blk.mk hn1;clear hn1;obtain ⟨hc1,hf1,hl1⟩:=hb1.all;(try clear hx0))
  (refine bodyPost_ret (v:=.tuple #[Pv.v ⟨2,path,to_,ty,at_,A2,n2,c2,A1,n1,c1,off,sn,so,nm,om⟩,.int .i64 0]) ?_ rfl ?_;(focus (simp only [results,Tryz.results53];go_simp;(try (simp));done));refine Ret.mk rfl ?_;(focus (exact EX;done)))
end Go.Proofs.YtfmgnaigcibcaaaGreatDoor
namespace Go.Proofs.YtfmgnaigcibcaaaGreatDoor
open Go Go.RowKit
set_option maxHeartbeats 4000000 in
set_option maxRecDepth 100000 in
theorem rinv_bad (p:Pv) (w:World) (k:Int) (hk:k≠0) (hc:∀ W,Ext w W→Calls Tryz.prog 42 #[p.v] W (Ret (.int .i64 k) W)):
 Calls Tryz.prog 53 #[p.v] w (Ret (.tuple #[(Qp.zero.pv none 0 none 0).v,.int .i64 k]) w):=by
 have HC:=Lib.hid hc
 have e1:(k != 0)=true:=by simpa using hk
 clear hc hk
 go_enter Tryz.func53,Tryz.ntmps53
 have hx:=Ext.refl w
 go_wp2_with (go_at_call 42;refine (HC.out _ EX).mono ?_;rintro e w1 ⟨rfl,hx0⟩;have hy:=Ext.trans (a:=w) EX hx0;clear hx;have hx:=hy;clear hy;have hn0:=BB hx0 (w.heap.size);have hn1:=BB hx0 (w.heap.size+1);(first | simp [↓heap_drew_at,↓heap_drewN_at,↓heap_alloc_at,↓heap_set_at,ne_two,ne_three,ne_two_left,ne_three_left,↓hb0.eq,hb0.lt,hb0.ne,↓hb1.eq,hb1.lt,hb1.ne] at hn0 hn1 | simp [↓heap_drew_at,↓heap_drewN_at,↓heap_alloc_at,↓heap_set_at,ne_two,ne_three,ne_two_left,ne_three_left] at hn0 hn1);(try clear hb0 hc0 hf0 hl0);(try clear hb1 hc1 hf1 hl1);have hb0:=Blk.mk hn0;clear hn0;obtain ⟨hc0,hf0,hl0⟩:=hb0.all;have hb1:=Blk.mk hn1;clear hn1;obtain ⟨hc1,hf1,hl1⟩:=hb1.all;(try clear hx0))
 refine bodyPost_ret (v:=.tuple #[(Qp.zero.pv none 0 none 0).v,.int .i64 k]) ?_ rfl ?_
 ·simp only [results,Tryz.results53]
  go_simp
  (try simp [Qp.zero])
 ·exact Ret.mk rfl EX
theorem inv_lines {q:Qp} (h:q.check=0):q.inv.old=q.new∧q.inv.new=q.old:=by
 have l:=check_lean h
 obtain ⟨g1,g2,g3,g4,g5,g6,g7,g8,g9,g10⟩:=l
 have hk:=(check_parts h).1
 cases q
 rename_i kind path to_ ty at_ old new off so sn om nm
 dsimp only at *
 unfold Qp.inv
 by_cases k1:kind=1
 ·subst k1;simp_all [Qp.zero]
 by_cases k2:kind=2
 ·subst k2;simp_all [Qp.zero]
 by_cases k3:kind=3
 ·subst k3;simp_all [Qp.zero]
 by_cases k4:kind=4
 ·subst k4;simp_all [Qp.zero]
 by_cases k5:kind=5
 ·subst k5;simp_all [Qp.zero]
 simp [k1,k2,k3,k4,k5]
def Qp.turned (q:Qp):Qp:=if q.check=0 then q.inv else Qp.zero
theorem rinv_both (p:Pv) (q:Qp) (w:World) {F:Nat→Prop} (h:Is w F p q) (b1:q.old.length≤1152921504606846976) (b2:q.new.length≤1152921504606846976) (b3:q.path.size≤1152921504606846976) (b4:q.to_.size≤1152921504606846976)
 (z1:∀ x∈q.old,x.size≤4611686018427387904) (z2:∀ x∈q.new,x.size≤4611686018427387904):
 Calls Tryz.prog 53 #[p.v] w (fun e w'=>∃ P:Pv,e=.returned (.tuple #[P.v,.int .i64 q.check])∧Is w' (fun _=>True) P q.turned∧Ext w w'):=by
 have hck:∀ W,Ext w W→Calls Tryz.prog 42 #[p.v] W (Ret (.int .i64 q.check) W):=fun W hW=>by
  obtain ⟨A1,c1,A2,c2,rfl,⟨h1,h2⟩,_⟩:=h.ext hW
  rw [← check_pv q A1 c1 A2 c2]
  exact rcheck_any (q.pv A1 c1 A2 c2) q.old q.new W h1 h2 b1 b2 (by show q.path.size≤_;omega) (by show q.to_.size≤_;omega) z1 z2
 obtain ⟨A1,c1,A2,c2,rfl,⟨s1,s2⟩,f1,f2⟩:=h
 unfold Qp.turned
 by_cases hc:q.check=0
 ·rw [hc] at hck
  have h1:=rinv_any (q.pv A1 c1 A2 c2) w (check_parts hc).1 (fun W' hW'=>hck W' hW')
  rw [rinv_pv hc] at h1
  refine h1.mono ?_
  rintro e w' ⟨rfl,hx⟩
  obtain ⟨e1,e2⟩:=inv_lines hc
  rw [if_pos hc]
  exact ⟨_,by rw [hc],⟨A2,c2,A1,c1,rfl,⟨by rw [e1];exact s2.ext hx,by rw [e2];exact s1.ext hx⟩,(fun _ _ _=>trivial),(fun _ _ _=>trivial)⟩,hx⟩
 ·rw [if_neg hc]
  refine (rinv_bad _ w q.check hc (fun W' hW'=>hck W' hW')).mono ?_
  rintro e w' ⟨rfl,hx⟩
  exact ⟨Qp.zero.pv none 0 none 0,rfl,Is.none _ _ _ rfl rfl,hx⟩
theorem inv_both (p:Pv) (q:Qp) (w:World) (hg:Glob w) {F:Nat→Prop} (h:Is w F p q) (b1:q.old.length≤1152921504606846976) (b2:q.new.length≤1152921504606846976) (b3:q.path.size≤1152921504606846976) (b4:q.to_.size≤1152921504606846976):
 Calls Tryz.prog 51 #[p.v] w (fun e w'=>∃ P:Pv,e=.returned (.tuple #[P.v,.int .i64 q.check])∧Is w' (fun _=>True) P q.turned∧Ext w w'):=by
 unfold Qp.turned
 by_cases hc:q.check=0
 ·rw [if_pos hc]
  refine (inv_good p q w hg h b1 b2 b3 b4 hc).mono ?_
  rintro e w' ⟨P,rfl,hi,hx⟩
  exact ⟨P,by rw [hc],hi.mono (fun _ _=>trivial),hx⟩
 ·rw [if_neg hc]
  refine (inv_bad p q w hg h b1 b2 b3 b4 hc).mono ?_
  rintro e w' ⟨P,rfl,hi,hx⟩
  exact ⟨P,rfl,hi.mono (fun _ _=>trivial),hx⟩
end Go.Proofs.YtfmgnaigcibcaaaGreatDoor
