import Derived.Test.YtfmgnaigcibcaaaGreatDoorTQ3
import Derived.Test.YtfmgnaigcibcaaaGreatDoorTD4
import Derived.Test.YtfmgnaigcibcaaaGreatDoorTQ7
set_option linter.unusedSimpArgs false
set_option linter.unusedVariables false
namespace Go.Proofs.YtfmgnaigcibcaaaGreatDoor
open Go.RowKit
attribute [local go_sem ↓] Go.wp_at_zero Go.wp_at_succ
set_option maxHeartbeats 8000000 in
set_option maxRecDepth 100000 in
theorem edInv_any (p:Pv) (o n:List ByteArray) (w:World) (h1:Sl w p.A1 p.n1 p.c1 o) (h2:Sl w p.A2 p.n2 p.c2 n) (b1:p.n1≤4194304) (b2:p.n2≤4194304):
 Calls Tryz.prog 230 #[p.v] w (fun e w'=>∃ A1 c1 A2 c2,e=.returned (Pv.v ⟨p.kind,p.path,p.to_,p.ty,p.at_,A1,p.n2,c1,A2,p.n1,c2,p.off,p.sn,p.so,p.nm,p.om⟩)∧Sl w' A1 p.n2 c1 n∧Sl w' A2 p.n1 c2 o∧Hi w.heap.size A1∧Hi w.heap.size A2∧Ext w w'):=by
 have H1:=Lib.hid h1
 have H2:=Lib.hid h2
 clear h1 h2
 go_enter Tryz.func230,Tryz.ntmps230
 have hx:=Ext.refl w
 go_upto_region 2 with fail
 go_cut [] (fun wx=>∃ A1 c1 A2 c2,Hid ((Sl wx A1 p.n2 c1 n∧Sl wx A2 p.n1 c2 o∧Ext w wx)∧Hi (w.heap.size+1+1+1) A1∧Hi (w.heap.size+1+1+1) A2)∧Blk wx (w.heap.size+1) 28 #[.int .i64 0,.string ⟨#[]⟩,.string ⟨#[]⟩,.int .i64 0,.int .i64 0,.slice none 0 0,.slice none 0 0,.int .i64 0,.string ⟨#[]⟩,.string ⟨#[]⟩,.int .i64 0,.int .i64 0]∧Blk wx (w.heap.size+1+1) 28 #[.int .i64 p.kind,.string p.path,.string p.to_,.int .i64 p.ty,.int .i64 p.at_,.slice A1 p.n2 c1,.slice A2 p.n1 c2,.int .i64 p.off,.string p.so,.string p.sn,.int .i64 p.om,.int .i64 p.nm])
 case first=>
  go_region_with (first
   | (go_at_call_of 234 (Value.slice p.A2 p.n2 p.c2);refine (sclone_any _ _ _ n _ (H2.out.ext EX) b2).mono ?_;rintro e w1 ⟨A1,c1,rfl,hs1,hi1,hx0⟩;(first | replace hi1:Hi (w.heap.size+1+1+1) A1:=hi1.le (by first | (simp;done) | (simp;omega)));have hy:=Ext.trans (a:=w) EX hx0;clear hx;have hx:=hy;clear hy;have hn0:=BB hx0 (w.heap.size);have hn1:=BB hx0 (w.heap.size+1);have hn2:=BB hx0 (w.heap.size+1+1);(first | simp [↓heap_drew_at,↓heap_drewN_at,↓heap_alloc_at,↓heap_set_at,ne_two,ne_three,ne_two_left,ne_three_left,↓hb0.eq,hb0.lt,hb0.ne,↓hb1.eq,hb1.lt,hb1.ne,↓hb2.eq,hb2.lt,hb2.ne] at hn0 hn1 hn2 | simp [↓heap_drew_at,↓heap_drewN_at,↓heap_alloc_at,↓heap_set_at,ne_two,ne_three,ne_two_left,ne_three_left] at hn0 hn1 hn2);(try clear hb0 hc0 hf0 hl0);(try clear hb1 hc1 hf1 hl1);(try clear hb2 hc2 hf2 hl2);have hb0:=Blk.mk hn0;clear hn0;obtain ⟨hc0,hf0,hl0⟩:=hb0.all;have hb1:=Blk.mk hn1;clear hn1;obtain ⟨hc1,hf1,hl1⟩:=hb1.all;have hb2:=Blk.mk hn2;clear hn2;obtain ⟨hc2,hf2,hl2⟩:=hb2.all;(try clear hx0);have Hs1:=Lib.hid hs1;clear hs1)
   | (go_at_call_of 234 (Value.slice p.A1 p.n1 p.c1);refine (sclone_any _ _ _ o _ (H1.out.ext EX) b1).mono ?_;rintro e w2 ⟨A2,c2,rfl,hs2,hi2,hx0⟩;(first | replace hi2:Hi (w.heap.size+1+1+1) A2:=hi2.le (by first | (simp;done) | (simp;omega) | omega));have Hs3:=Lib.hid (Hs1.out.ext hx0);have hy:=Ext.trans (a:=w) EX hx0;clear hx;have hx:=hy;clear hy;have hn0:=BB hx0 (w.heap.size);have hn1:=BB hx0 (w.heap.size+1);have hn2:=BB hx0 (w.heap.size+1+1);(first | simp [↓heap_drew_at,↓heap_drewN_at,↓heap_alloc_at,↓heap_set_at,ne_two,ne_three,ne_two_left,ne_three_left,↓hb0.eq,hb0.lt,hb0.ne,↓hb1.eq,hb1.lt,hb1.ne,↓hb2.eq,hb2.lt,hb2.ne] at hn0 hn1 hn2 | simp [↓heap_drew_at,↓heap_drewN_at,↓heap_alloc_at,↓heap_set_at,ne_two,ne_three,ne_two_left,ne_three_left] at hn0 hn1 hn2);(try clear hb0 hc0 hf0 hl0);(try clear hb1 hc1 hf1 hl1);(try clear hb2 hc2 hf2 hl2);have hb0:=Blk.mk hn0;clear hn0;obtain ⟨hc0,hf0,hl0⟩:=hb0.all;have hb1:=Blk.mk hn1;clear hn1;obtain ⟨hc1,hf1,hl1⟩:=hb1.all;have hb2:=Blk.mk hn2;clear hn2;obtain ⟨hc2,hf2,hl2⟩:=hb2.all;(try clear hx0);have Hs2:=Lib.hid hs2;clear hs2))
  all_goals (go_wp2_with fail;go_meet)
  all_goals refine ⟨A1,c1,A2,c2,Lib.hid ⟨⟨((Hs3.out.set hi1 _).set hi1 _).set hi1 _,((Hs2.out.set hi2 _).set hi2 _).set hi2 _,?_⟩,hi1,hi2⟩,?_,?_⟩
  all_goals first
   | exact ((hb2.set_ 4 _).set_ 5 _).set_ 6 _
   | (refine ((hb1.far ?_ _).far ?_ _).far ?_ _ <;> (dsimp only;omega))
   | exact EX
 case rest=>
  obtain ⟨A1,c1,A2,c2,HX,hb1,hb2⟩:=hcut
  obtain ⟨hc1,hf1,hl1⟩:=hb1.all
  obtain ⟨hc2,hf2,hl2⟩:=hb2.all
  clear H1 H2 hx
  go_wp2_with fail
  refine bodyPost_ret (v:=Pv.v ⟨p.kind,p.path,p.to_,p.ty,p.at_,A1,p.n2,c1,A2,p.n1,c2,p.off,p.sn,p.so,p.nm,p.om⟩) ?_ rfl ?_
  ·simp only [results,Tryz.results230]
   go_simp
  ·obtain ⟨⟨hs1,hs2,hx⟩,hi1,hi2⟩:=HX.out
   have hj1:=hi1.le (Nat.le_succ (w.heap.size+1+1))
   have hj2:=hi2.le (Nat.le_succ (w.heap.size+1+1))
   refine ⟨A1,c1,A2,c2,rfl,?_,?_,hi1.le (by omega),hi2.le (by omega),?_⟩
   ·repeat (first | with_reducible exact hs1 | with_reducible refine Sl.set ?_ hi1 _ | with_reducible refine Sl.set ?_ hj1 _)
   ·repeat (first | with_reducible exact hs2 | with_reducible refine Sl.set ?_ hi2 _ | with_reducible refine Sl.set ?_ hj2 _)
   ·have le1:w.heap.size≤w.heap.size+1:=Nat.le_succ _
    have le2:w.heap.size≤w.heap.size+1+1:=Nat.le_trans le1 (Nat.le_succ _)
    repeat (first | with_reducible exact hx | refine Ext.setCell ?_ le1 _ | refine Ext.setCell ?_ le2 _)
end Go.Proofs.YtfmgnaigcibcaaaGreatDoor
namespace Go.Proofs.YtfmgnaigcibcaaaGreatDoor
open Go.RowKit
structure Qp where
 kind:Int
 path:ByteArray
 to_:ByteArray
 ty:Int
 at_:Int
 old:List ByteArray
 new:List ByteArray
 off:Int
 so:ByteArray
 sn:ByteArray
 om:Int
 nm:Int
abbrev Qp.pv (q:Qp) (A1:Option Addr) (c1:Nat) (A2:Option Addr) (c2:Nat):Pv:=
 ⟨q.kind,q.path,q.to_,q.ty,q.at_,A1,q.old.length,c1,A2,q.new.length,c2,q.off,q.so,q.sn,q.om,q.nm⟩
def Fp (F:Nat→Prop) (A:Option Addr) (n:Nat):Prop:=0 < n→∀ a,A=some a→F a.block
theorem Fp.mono {F G:Nat→Prop} {A:Option Addr} {n:Nat} (h:Fp F A n) (hg:∀ b,F b→G b):Fp G A n:=fun hn a ha=>hg _ (h hn a ha)
theorem Hi.fp {B:Nat} {A:Option Addr} (h:Hi B A) (n:Nat):Fp (fun b=>B≤b) A n:=fun _ a ha=>h a ha
theorem Sl.put {w:World} {A:Option Addr} {n c g k:Nat} {F:Nat→Prop} {l:List ByteArray} (h:Sl w A n c l) (hf:Fp F A n) (hg:¬ F g) (u:Value):Sl (w.setCell ⟨g,k,none⟩ u) A n c l:=by
 refine ⟨⟨h.1.1,fun hn=>?_⟩,h.2⟩
 obtain ⟨b,o,hA,hb,hc⟩:=h.1.2 hn
 have hne:b≠g:=by
  rintro rfl
  exact hg (hf hn _ hA)
 refine ⟨b,o,hA,by simpa using hb,fun j hj=>?_⟩
 rw [← hc j hj]
 exact World.cell?_of_block (Below.heap_setCell w ⟨g,k,none⟩ u b hne)
def Is (w:World) (F:Nat→Prop) (p:Pv) (q:Qp):Prop:=∃ A1 c1 A2 c2,p=q.pv A1 c1 A2 c2∧(Sl w A1 q.old.length c1 q.old∧Sl w A2 q.new.length c2 q.new)∧Fp F A1 q.old.length∧Fp F A2 q.new.length
theorem Is.ext {w w':World} {F:Nat→Prop} {p:Pv} {q:Qp} (h:Is w F p q) (hx:Ext w w'):Is w' F p q:=by
 obtain ⟨A1,c1,A2,c2,e,⟨h1,h2⟩,h3⟩:=h
 exact ⟨A1,c1,A2,c2,e,⟨h1.ext hx,h2.ext hx⟩,h3⟩
theorem Is.mono {w:World} {F G:Nat→Prop} {p:Pv} {q:Qp} (h:Is w F p q) (hg:∀ b,F b→G b):Is w G p q:=by
 obtain ⟨A1,c1,A2,c2,e,h1,h3,h4⟩:=h
 exact ⟨A1,c1,A2,c2,e,h1,h3.mono hg,h4.mono hg⟩
theorem Is.put {w:World} {F:Nat→Prop} {p:Pv} {q:Qp} {g k:Nat} (h:Is w F p q) (hg:¬ F g) (u:Value):Is (w.setCell ⟨g,k,none⟩ u) F p q:=by
 obtain ⟨A1,c1,A2,c2,e,⟨h1,h2⟩,h3,h4⟩:=h
 exact ⟨A1,c1,A2,c2,e,⟨h1.put h3 hg u,h2.put h4 hg u⟩,h3,h4⟩
theorem Is.alloc {w:World} {F:Nat→Prop} {p:Pv} {q:Qp} (h:Is w F p q) (o:Obj):Is (w.alloc o) F p q:=h.ext ((Ext.refl w).alloc o)
theorem Is.drew {w:World} {F:Nat→Prop} {p:Pv} {q:Qp} (h:Is w F p q):Is w.drew F p q:=h.ext (Ext.refl w).drew1
theorem Is.drewN {w:World} {F:Nat→Prop} {p:Pv} {q:Qp} (h:Is w F p q) (n:Nat):Is (w.drewN n) F p q:=h.ext ((Ext.refl w).drewN n)
theorem Is.in {w:World} {F:Nat→Prop} {p:Pv} {q:Qp} (h:Is w F p q):Is w (fun b=>F b∧b < w.heap.size) p q:=by
 obtain ⟨A1,c1,A2,c2,e,⟨h1,h2⟩,h3,h4⟩:=h
 refine ⟨A1,c1,A2,c2,e,⟨h1,h2⟩,fun hn a ha=>⟨h3 hn a ha,?_⟩,fun hn a ha=>⟨h4 hn a ha,?_⟩⟩
 ·obtain ⟨b,o,hA,hb,_⟩:=h1.1.2 hn
  rw [ha] at hA
  cases hA
  exact hb
 ·obtain ⟨b,o,hA,hb,_⟩:=h2.1.2 hn
  rw [ha] at hA
  cases hA
  exact hb
def Qp.zero:Qp:=⟨0,⟨#[]⟩,⟨#[]⟩,0,0,[],[],0,⟨#[]⟩,⟨#[]⟩,0,0⟩
theorem Sl.none (w:World):Sl w .none 0 0 []:=⟨Lst.nil w _,fun _=>⟨rfl,rfl⟩⟩
theorem Is.none (w:World) (F:Nat→Prop) (q:Qp) (h1:q.old=[]) (h2:q.new=[]):Is w F (q.pv .none 0 .none 0) q:=
 ⟨.none,0,.none,0,rfl,⟨by rw [h1];exact Sl.none w,by rw [h2];exact Sl.none w⟩,(fun _ a ha=>nomatch ha),(fun _ a ha=>nomatch ha)⟩
def Qp.check (q:Qp):Int:=(q.pv none 0 none 0).check q.old q.new
def Qp.inv (q:Qp):Qp:=
 if q.kind=1 then { Qp.zero with kind:=2,path:=q.path,ty:=q.ty,om:=q.nm,so:=q.sn }
 else if q.kind=3 then { Qp.zero with kind:=4,path:=q.path }
 else if q.kind=2 then { Qp.zero with kind:=1,path:=q.path,ty:=q.ty,nm:=q.om,sn:=q.so }
 else if q.kind=4 then { Qp.zero with kind:=3,path:=q.path }
 else if q.kind=5 then { Qp.zero with kind:=5,path:=q.to_,to_:=q.path }
 else { q with old:=q.new,new:=q.old,so:=q.sn,sn:=q.so,om:=q.nm,nm:=q.om }
theorem tidy_pv (q:Qp) (A1:Option Addr) (c1:Nat) (A2:Option Addr) (c2:Nat):(q.pv A1 c1 A2 c2).tidy=(q.pv none 0 none 0).tidy:=by
 unfold Pv.tidy Pv.strip
 by_cases k1:q.kind=1
 ·simp [k1,Pv.bare]
 by_cases k2:q.kind=2
 ·simp [k2,Pv.bare]
 by_cases k5:q.kind=5
 ·simp [k5,Pv.bare]
 by_cases k6:q.kind=6
 ·simp [k6,Pv.bare]
 by_cases k7:q.kind=7
 ·simp [k7,Pv.bare]
 by_cases k8:q.kind=8
 ·simp [k8,Pv.bare]
 simp [k1,k2,k5,k6,k7,k8,Pv.bare]
theorem check_pv (q:Qp) (A1:Option Addr) (c1:Nat) (A2:Option Addr) (c2:Nat):(q.pv A1 c1 A2 c2).check q.old q.new=q.check:=by
 unfold Qp.check Pv.check
 rw [tidy_pv]
 rfl
theorem check_q (p:Pv) (q:Qp) (w:World) (hg:Glob w) {F:Nat→Prop} (h:Is w F p q) (b1:q.old.length≤1152921504606846976) (b2:q.new.length≤1152921504606846976) (b3:q.path.size≤1152921504606846976) (b4:q.to_.size≤1152921504606846976):
 Calls Tryz.prog 38 #[p.v] w (Ret (.int .i64 q.check) w):=by
 obtain ⟨A1,c1,A2,c2,rfl,⟨h1,h2⟩,_⟩:=h
 rw [← check_pv q A1 c1 A2 c2]
 exact check_any (q.pv A1 c1 A2 c2) q.old q.new w hg h1 h2 b1 b2 b3 b4
theorem Qp.small {q:Qp} (h:q.check=0):1≤q.kind∧q.kind≤8∧q.old.length≤2000∧q.new.length≤2000:=by
 unfold Qp.check Pv.check at h
 cases hk:(q.pv none 0 none 0).known
 ·rw [if_pos hk] at h;cases h
 rw [if_neg (by rw [hk];exact Bool.noConfusion)] at h
 cases ht:(q.pv none 0 none 0).tidy
 ·rw [if_pos ht] at h;cases h
 rw [if_neg (by rw [ht];exact Bool.noConfusion)] at h
 cases hp:(q.pv none 0 none 0).pathsOk
 ·rw [if_pos hp] at h;cases h
 rw [if_neg (by rw [hp];exact Bool.noConfusion)] at h
 have hk2:1≤q.kind∧q.kind≤8:=by simpa [Pv.known] using hk
 refine ⟨hk2.1,hk2.2,?_⟩
 by_cases h6:q.kind=6
 ·simp only [Pv.actCheck,Pv.edCheck6,h6] at h
  simp at h
  simp only [Pv.linesCheck] at h
  split at h
  ·exfalso;simp_all
  ·split at h
   ·cases h
   ·omega
 ·have hs:(q.pv none 0 none 0).strip.n1=q.old.length∧(q.pv none 0 none 0).strip.n2=q.new.length:=by
   unfold Pv.strip
   repeat' split
   all_goals first | exact ⟨rfl,rfl⟩ | (exfalso;omega)
  unfold Pv.tidy Pv.bare at ht
  simp only [Bool.and_eq_true] at ht
  have h0:=ht.1.1.1.1.1.2
  rw [hs.1,hs.2] at h0
  simp at h0
  omega
end Go.Proofs.YtfmgnaigcibcaaaGreatDoor
