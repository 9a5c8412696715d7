import Derived.Test.YtlbhaimfjfdppaaGreatDoorGr
import Derived.Test.YtlbhaimfjfdppaaGreatDoorJB
import Derived.Test.YtlbhaimfjfdppaaGreatDoorMe
import Derived.Test.YtlbhaimfjfdppaaGreatDoorSl
import Derived.Test.YtlbhaimfjfdppaaGreatDoorCl
set_option linter.unusedSimpArgs false
set_option linter.unusedVariables false
namespace Go.Proofs.YtlbhaimfjfdppaaGreatDoor
open Go Go.RowKit
theorem seqmerge_ok {A B:Option Addr} {n cA m cB:Nat} {a b:List Qp} {w:World} (hg:Glob w) {F:Nat→Prop} (ha:Qs w F A a) (hb:Qs w F B b) (hn:a.length=n) (hm:b.length=m) (hB:B=none→m=0∧cB=0)
 (b1:n≤100000000000) (b2:m≤100000000000) (fa:∀ q∈a,q.Fits) (fb:∀ q∈b,q.Fits) {t:List Qp × List Qp} (ht:Sq.merge a b=.ok t):
 Calls Tryz.prog 31 #[.slice A n cA,.slice B m cB] w (fun e w'=>∃ A1 c1 A2 c2,e=.returned (.tuple #[.slice A1 m c1,.slice A2 n c2,.agg #[.int .i64 0,.int .i64 0],.bool true])∧Hid (Qs w' (Fresh F w) A1 t.1∧Qs w' (Fresh F w) A2 t.2∧(A1=none→c1=0)∧(A2=none→c2=0))∧Ext w w'):=by
 refine (seqmerge_any A B n cA m cB a b w hg ha hb hn hm hB b1 b2 fa fb).mono ?_
 rintro e w' ⟨h,hx⟩
 rw [ht] at h
 obtain ⟨A1,c1,A2,c2,rfl,hq⟩:=h
 obtain ⟨l1,l2⟩:=Sq.merge_length ht
 exact ⟨A1,c1,A2,c2,by rw [l1,l2,hn,hm],hq,hx⟩
theorem seqmerge_bad {A B:Option Addr} {n cA m cB:Nat} {a b:List Qp} {w:World} (hg:Glob w) {F:Nat→Prop} (ha:Qs w F A a) (hb:Qs w F B b) (hn:a.length=n) (hm:b.length=m) (hB:B=none→m=0∧cB=0)
 (b1:n≤100000000000) (b2:m≤100000000000) (fa:∀ q∈a,q.Fits) (fb:∀ q∈b,q.Fits) {i k:Nat} (ht:Sq.merge a b=.error (i,k)):
 Calls Tryz.prog 31 #[.slice A n cA,.slice B m cB] w (Ret (.tuple #[.slice none 0 0,.slice none 0 0,.agg #[.int .i64 i,.int .i64 k],.bool false]) w):=by
 refine (seqmerge_any A B n cA m cB a b w hg ha hb hn hm hB b1 b2 fa fb).mono ?_
 rintro e w' ⟨h,hx⟩
 rw [ht] at h
 exact ⟨h,hx⟩
theorem seqmerge_go {A B:Option Addr} {n cA m cB:Nat} {a b:List Qp} {w:World} (hg:Glob w) (ha:Qs w (fun _=>True) A a) (hb:Qs w (fun _=>True) B b) (hn:a.length=n) (hm:b.length=m) (hB:B=none→m=0∧cB=0)
 (b1:n≤100000000000) (b2:m≤100000000000) (fa:∀ q∈a,q.Fits) (fb:∀ q∈b,q.Fits) {t:List Qp × List Qp} (ht:Sq.merge a b=.ok t):
 Calls Tryz.prog 31 #[.slice A n cA,.slice B m cB] w (fun e w'=>∃ A1 c1 A2 c2,e=.returned (.tuple #[.slice A1 m c1,.slice A2 n c2,.agg #[.int .i64 0,.int .i64 0],.bool true])∧Hid (Qs w' (fun _=>True) A1 t.1)∧Hid (Qs w' (fun _=>True) A2 t.2)∧Hid ((A1=none→c1=0)∧(A2=none→c2=0))∧Ext w w'):=by
 refine (seqmerge_ok hg ha hb hn hm hB b1 b2 fa fb ht).mono ?_
 rintro e w' ⟨A1,c1,A2,c2,rfl,hq,hx⟩
 exact ⟨A1,c1,A2,c2,rfl,Lib.hid hq.out.1.all,Lib.hid hq.out.2.1.all,Lib.hid ⟨hq.out.2.2.1,hq.out.2.2.2⟩,hx⟩
theorem merge_fitting {a b:List Qp} {t:List Qp × List Qp} (ht:Sq.merge a b=.ok t) (fa:∀ q∈a,q.Fits) (fb:∀ q∈b,q.Fits):(∀ q∈t.1,q.Fits)∧∀ q∈t.2,q.Fits:=by
 induction a generalizing b t with
 | nil=>
   obtain rfl:=Except.ok.inj ht
   exact ⟨fb,fun q hq=>by cases hq⟩
 | cons x a ih=>
   unfold Sq.merge at ht
   split at ht
   ·cases ht
   ·rename_i r hr
    split at ht
    ·rename_i u hu
     obtain rfl:=Except.ok.inj ht
     obtain ⟨f1,f2⟩:=carried_fits hr (fa x (List.mem_cons_self ..))
     obtain ⟨g1,g2⟩:=ih hu (fun q hq=>fa q (List.mem_cons_of_mem _ hq)) f2
     refine ⟨g1,fun q hq=>?_⟩
     rcases List.mem_cons.1 hq with rfl | hq
     ·exact f1
     ·exact g2 q hq
    ·cases ht
end Go.Proofs.YtlbhaimfjfdppaaGreatDoor
namespace Go.Proofs.YtlbhaimfjfdppaaGreatDoor
open Go Go.RowKit
attribute [local go_sem ↓] Go.wp_at_zero Go.wp_at_succ
theorem same_ones (y x:Qp):Sq.same [y] [x]=y.same x:=by
 show (match Sq.without [y] x with | some r=>Sq.same r [] | none=>false)=_
 have e:Sq.without [y] x=if y.same x then some [] else none:=by
  show (match Sq.move [y] 0 0 with | some m=>if (m.getD 0 Qp.zero).same x then some m.tail else Sq.withoutFrom [y] x 0 1 | none=>Sq.withoutFrom [y] x 0 1)=_
  rw [Sq.move_self (by simp)]
  rfl
 rw [e]
 cases y.same x <;> rfl
set_option maxHeartbeats 16000000 in
set_option maxRecDepth 100000 in
theorem pwithout_any (A:Option Addr) (n c:Nat) (l:List Qp) (p:Pv) (x:Qp) (w:World) (hg:Glob w) {F G:Nat→Prop} (h:Qs w F A l) (hn:l.length=n) (hx:Is w G p x) (fx:x.Fits) (hb:n≤1000000000000) (hf:∀ q∈l,q.Fits):
 Calls Tryz.prog 32 #[.slice A n c,p.v] w (Rest (Sq.without l x) (n - 1) w):=by
 have HMV:=Lib.hid (fun W k (hW:Ext w W) (hk:k < n)=>move_any A n c k 0 l W (hg.ext hW) (h.ext hW) hn hk (by omega) hb hf)
 have HMF:=Lib.hid (fun k m (hm:Sq.move l k 0=some m)=>Sq.move_fits hm hf)
 have HML:Hid (∀ k m,Sq.move l k 0=some m→m.length=n):=Lib.hid fun k m hm=>(Sq.move_length hm).trans hn
 have HFS:=Lib.hid (fun k (hk:k < n)=>Sq.from_step (l:=l) (x:=x) hk)
 have HEQ:Hid (∀ W y g g2 c2,Ext w W→Qs W (fun _=>True) (some ⟨g,0,none⟩) [y]→y.Fits→Blk W g2 42 (parr p)→Calls Tryz.prog 10 #[.slice (some ⟨g,0,none⟩) 1 c2,.slice (some ⟨g2,0,none⟩) 1 1] W (Ret (.bool (y.same x)) W)):=Lib.hid fun W y g g2 c2 hW hq fy hb2=>by
  rw [← same_ones]
  exact seqsame_any _ _ 1 c2 1 1 [y] [x] W (hg.ext hW) hq (Qs.one hb2 (hx.ext hW)) rfl rfl (by omega) (by omega) (by simpa using fy) (by simpa using fx)
 have H0:Hid (Sq.without l x=Sq.withoutFrom l x (n - 0) 0):=Lib.hid (by unfold Sq.without;rw [hn];rfl)
 generalize Sq.without l x=R at H0 ⊢
 clear h hn hx fx hf hg
 go_enter Tryz.func32,Tryz.ntmps32
 have hx:=Ext.refl w
 go_wp2_with fail
 have hbx:Blk (w.alloc (.cells (parr p) 42)) w.heap.size 42 (parr p):=Blk.new' rfl
 have hx0:Ext w (w.alloc (.cells (parr p) 42)):=(Ext.refl w).alloc _
 generalize (w.alloc (.cells (parr p) 42))=w0 at hbx hx0 ⊢
 clear hx
 go_loopw [11] (fun u11 wr=>∃ k:Nat,k≤n∧u11=.int .i64 k∧Ext w wr∧Blk wr w.heap.size 42 (parr p)∧Hid (R=Sq.withoutFrom l x (n - k) k)) (fun u11 wr=>n - (intOf u11).toNat)
 case atStart=>exact ⟨0,Nat.zero_le _,rfl,hx0,hbx,H0⟩
 case round=>
  clear hx0 hbx H0
  obtain ⟨k,hk,rfl,hx,hbx,HR⟩:=hrel
  by_cases hlt:k < n
  ·have HR2:=Lib.hid (HR.out.trans (HFS.out k hlt))
   clear HR
   go_wp2_with fail
   refine (HMV.out _ k hx hlt).mono ?_
   rintro e w1 ⟨hres,hx1⟩
   have hbx1:=hbx.ext hx1
   have hx2:=hx.trans hx1
   clear hx hx1 hbx
   have hx:=hx2
   clear hx2
   rcases hres with ⟨hm,rfl⟩ | ⟨m,g,hm,rfl,hgw,ho⟩
   ·have HR3:Hid (R=Sq.withoutFrom l x (n - (k+1)) (k+1)):=Lib.hid (by have h0:=HR2.out;rw [hm] at h0;exact h0)
    clear HR2 hm
    go_wp2_with fail
    refine wp_region_noPanic (wp_region_held_drew (S:=fun w'=>Ext w1 w') (by kernel_rfl) (Ext.refl w1).drew1 (fun hv=>?_))
    refine tf (i:=0) (v:=.bool false) rfl rfl (fun _=>rfl) hv ?_
    try simp only [Act.put,sA,s0,sS]
    refine tf (i:=1) (v:=.bool false) rfl rfl (fun _=>rfl) hv ?_
    try simp only [Act.put,sA,s0,sS]
    refine tk (i:=2) rfl rfl hv ?_
    try simp only [Act.put,sA,s0,sS]
    refine tk (i:=3) rfl rfl hv ?_
    try simp only [Act.put,sA,s0,sS]
    refine tk (i:=4) rfl rfl hv ?_
    try simp only [Act.put,sA,s0,sS]
    refine tk (i:=5) rfl rfl hv ?_
    try simp only [Act.put,sA,s0,sS]
    refine tk (i:=6) rfl rfl hv ?_
    try simp only [Act.put,sA,s0,sS]
    refine tf (i:=7) (v:=.bool false) rfl rfl (fun _=>rfl) hv ?_
    try simp only [Act.put,sA,s0,sS]
    refine wpAnyH_done (by kernel_rfl) (NoPanic.normal ?_) _
    go_wp2_with fail
    go_roundw
    case rel=>exact ⟨k+1,hlt,rfl,hx.drew1,hbx1.drew,HR3⟩
    case measure=>simp [intOf];omega
   ·have hml:=HML.out k m hm
    have e0:m[0]?=some (m[0]'(by omega)):=List.getElem?_eq_getElem (by omega)
    have fy:=HMF.out k m hm _ (List.mem_of_getElem? e0)
    have hd:m.getD 0 Qp.zero=m[0]'(by omega):=by simp [List.getD,e0]
    obtain ⟨b,o,P2,hA,hbl,hc,hi⟩:=ho.out.qs.get e0
    obtain ⟨rfl,rfl⟩:b=g∧o=0:=by simp at hA;exact ⟨hA.1.symm,hA.2.symm⟩
    have HR3:Hid (R=if (m[0]'(by omega)).same x then some m.tail else Sq.withoutFrom l x (n - (k+1)) (k+1)):=Lib.hid (by have h0:=HR2.out;rw [hm] at h0;dsimp only at h0;rwa [hd] at h0)
    have HQ:Hid (Qs w1 (fun _=>True) (some ⟨b,0+1 * 12,none⟩) m.tail):=Lib.hid (by have :=(ho.out.qs.drop 1).mono (G:=fun _=>True) (fun _ _=>trivial);rwa [List.drop_one] at this)
    have HLT:Hid (m.tail.length=n - 1):=Lib.hid (by rw [List.length_tail,hml])
    have HQ1:Hid (Qs w1 (fun _=>True) (some ⟨b,0,none⟩) [m[0]'(by omega)]):=Lib.hid (by
     have h1:=(ho.out.qs.take 1).mono (G:=fun _=>True) (fun _ _=>trivial)
     have e2:m.take 1=[m[0]'(by omega)]:=by
      rw [List.take_one]
      cases m with
      | nil=>simp at hml;omega
      | cons a m=>rfl
     rwa [e2] at h1)
    generalize m[0]'(by omega)=y at hi fy HR3 HQ1
    have HE:=Lib.hid (fun W g2 (hW:Ext w1 W) (hb2:Blk W g2 42 (parr p))=>HEQ.out W y b g2 n (hx.trans hW) (HQ1.out.ext hW) fy hb2)
    clear hm hml e0 fy hd hA hbl hc hi ho HR2 hgw
    go_wp2_with fail
    refine wp_region_noPanic (wp_region_held_drew (S:=fun w'=>Ext w1 w') (by kernel_rfl) (Ext.refl w1).drew1 (fun hv=>?_))
    generalize w1.drew=v0 at hv ⊢
    refine tf (i:=0) (v:=.bool true) rfl rfl (fun _=>rfl) hv ?_
    try simp only [Act.put,sA,s0,sS]
    refine tf (i:=1) (v:=.bool true) rfl rfl (fun _=>rfl) hv ?_
    try simp only [Act.put,sA,s0,sS]
    refine tf (i:=2) (v:=.slice (some ⟨b,0,none⟩) n n) rfl rfl (fun _=>rfl) hv ?_
    try simp only [Act.put,sA,s0,sS]
    refine take_any (i:=3) (v:=.slice (some ⟨b,0,none⟩) 1 n) rfl rfl (by kernel_rfl) (by kernel_rfl) (by kernel_rfl) (.inl ⟨(by kernel_rfl),fun W' hW'=>?ix⟩) hv ?_
    case ix=>
     have z1:¬ ((n:Int) < 1):=by omega
     go_simp
    try simp only [Act.put,sA,s0,sS]
    refine tg (i:=4) (parr p).toList rfl rfl rfl rfl Tryz.underlying42 rfl (fun _ h=>(hbx1.ext h).range 0 _ (fun j _=>by rw [Nat.zero_add,Array.getElem?_toList])) hv ?_
    try simp only [Act.put,sA,s0,sS]
    refine wpAnyH_one (i:=5) (by kernel_rfl) rfl (by kernel_rfl) ?_
    go_simp
    refine ⟨hv.trans ((Ext.refl v0).alloc _),?_⟩
    try simp only [Act.put,sA,s0,sS]
    generalize hq:World.alloc v0 _=v2
    have hx0:Ext v0 v2:=by rw [← hq];exact (Ext.refl v0).alloc _
    have hbp:Blk v2 v0.heap.size 42 (parr p):=by rw [← hq];exact Blk.new' rfl
    have hv2:=hv.trans hx0
    clear hv hq hx0
    have hv:=hv2
    clear hv2
    refine wpAnyH_one (i:=6) (by kernel_rfl) rfl (by kernel_rfl) ?_
    go_simp
    refine (HE.out _ _ hv hbp).mono ?_
    rintro e v1 ⟨rfl,hx0⟩
    have hv2:=hv.trans hx0
    clear hv hx0 hbp
    have hv:=hv2
    clear hv2
    refine ⟨hv,?_⟩
    try simp only [Act.put,sA,s0,sS]
    cases hs:y.same x
    ·have HR4:Hid (R=Sq.withoutFrom l x (n - (k+1)) (k+1)):=Lib.hid (by have h0:=HR3.out;rwa [hs,if_neg (by decide)] at h0)
     clear HR3 hs
     refine tf (i:=7) (v:=.bool false) rfl rfl (fun _=>rfl) hv ?_
     try simp only [Act.put,sA,s0,sS]
     refine wpAnyH_done (by kernel_rfl) (NoPanic.normal ?_) _
     go_wp2_with fail
     go_roundw
     case rel=>exact ⟨k+1,hlt,rfl,hx.trans hv,hbx1.ext hv,HR4⟩
     case measure=>simp [intOf];omega
    ·have HR4:Hid (R=some m.tail):=Lib.hid (by have h0:=HR3.out;rwa [hs,if_pos rfl] at h0)
     clear HR3 hs
     refine tf (i:=7) (v:=.bool true) rfl rfl (fun _=>rfl) hv ?_
     try simp only [Act.put,sA,s0,sS]
     refine wpAnyH_done (by kernel_rfl) (NoPanic.normal ?_) _
     have z1:¬ ((n:Int) < 1):=by omega
     go_wp2_with fail
     case inr=>
      refine bodyPost_ret (v:=.tuple #[.slice (some ⟨b,12,none⟩) (n - 1:Nat) (n - 1:Nat),.bool true]) (by simp only [results,Tryz.results32];go_simp) rfl ?_
      exact ⟨.inr ⟨m.tail,b,12,HR4.out,HLT.out,rfl,Lib.hid (HQ.out.ext hv)⟩,hx.trans hv⟩
     case inl=>
      have hn1:n=1:=by assumption
      have hnil:m.tail=[]:=List.length_eq_zero_iff.1 (by have :=HLT.out;omega)
      refine bodyPost_ret (v:=.tuple #[.slice (some ⟨b,0,none⟩) 0 0,.bool true]) (by simp only [results,Tryz.results32];go_simp) rfl ?_
      exact ⟨.inr ⟨[],b,0,HR4.out.trans (by rw [hnil]),rfl,rfl,Lib.hid (Qs.nil _ _ _)⟩,hx.trans hv⟩
  ·have HZ:Hid (R=none):=Lib.hid (by have h0:=HR.out;rw [show n - k=0 by omega] at h0;exact h0)
   clear HR
   go_wp2_with fail
   refine bodyPost_ret (v:=.tuple #[.slice none 0 0,.bool false]) (by simp only [results,Tryz.results32];go_simp) rfl ?_
   exact ⟨.inl ⟨HZ.out,rfl⟩,hx⟩
set_option maxHeartbeats 2000000 in
set_option maxRecDepth 100000 in
theorem pgrow_any (n:Nat) (w:World) (hn:n≤800000000000):
 Calls Tryz.prog 50 #[.slice none 0 0,.int .i64 n] w (fun e w'=>∃ v,e=.returned v∧(∀ F,Grows w' w.heap.size F v [])∧Ext w w'):=by
 obtain ⟨i0,hi,hz0,hz1,hz2⟩:=info_parts (show (Tryz.prog.info? 42).map (fun i=>(i.zero,i.size,i.bytes))=some (some (.agg zcells),12,160) by kernel_rfl)
 by_cases h0:n=0
 ·subst h0
  go_enter Tryz.func50,Tryz.ntmps50
  have hx:=Ext.refl w
  go_wp2
  refine bodyPost_ret (v:=.slice none 0 0) (by simp only [results,Tryz.results50];go_simp) rfl ?_
  exact ⟨_,rfl,fun F=>Grows.nil _ _ _,hx⟩
 ·have hrz:∀ ty,(Builtin.append_ #[22,3] ty #[.slice none 0 0,.int .i64 n]).run Tryz.prog w =
   .ok (.slice (some ⟨w.heap.size,0,none⟩) n (grownCap w n 0 42)) (w.drew.alloc (.cells (#[] ++ Builtin.zeroCells zcells n ++ Builtin.zeroCells zcells (grownCap w n 0 42 - n)) 42)):=fun ty=>by
   have h:=Lib.run_append_grow_zeros w 22 3 ty 42 i0 (.agg zcells) .i64 .i64 Tryz.underlying22 Tryz.underlying3 hi hz0 none 0 0 [] (by exact run_firstCells_none w.drew i0.size 0 0 0) n (by omega) (by omega) (by omega) (by omega)
    (by rw [hz2];omega) (by rw [hz2];exact growslice_fits (by omega) (by omega))
   simpa [Value.cells] using h
  have hG:=grownCap_ge w n 0 42
  have hG2:=grownCap_le_maxLen w n 0 42 (by unfold maxLen;omega)
  generalize grownCap w n 0 42=G at hrz hG hG2
  unfold maxLen at hG2
  go_enter Tryz.func50,Tryz.ntmps50
  have hx:=Ext.refl w
  go_wp2_with (at_builtin;refine Lib.wpList_append_run _ rfl _ _ _ _ rfl _ _ rfl rfl _ _ (hrz _) ?_)
  refine bodyPost_ret (v:=.slice (some ⟨w.heap.size,0,none⟩) 0 G) (by simp only [results,Tryz.results50];go_simp) rfl ?_
  refine ⟨_,rfl,fun F=>⟨[],rfl,⟨rfl,.inr ⟨w.heap.size,G,_,rfl,Nat.le_refl _,heap_alloc_new _ _,Nat.zero_le _,by unfold maxLen;omega,?_,by simp [flat]⟩⟩,fun i p q hp=>by simp at hp⟩,(Ext.refl w).drew1.alloc _⟩
  have hs:(zcells).size=12:=rfl
  have h0:(#[]:Array Value).size=0:=rfl
  simp only [Array.size_append,size_zeroCells,hs,h0]
  omega
set_option maxHeartbeats 4000000 in
set_option maxRecDepth 100000 in
theorem pconcat_any (bX:Nat) (t:TypeId) (A1 A2:Option Addr) (n1 c1 n2 c2:Nat) (l1 l2:List Qp) (w:World) (hbX:Blk w bX t #[.slice A1 n1 c1,.slice A2 n2 c2]) {F:Nat→Prop} (h1:Qs w F A1 l1) (h2:Qs w F A2 l2) (e1:l1.length=n1) (e2:l2.length=n2) (b1:n1≤100000000000) (b2:n2≤100000000000):
 Calls Tryz.prog 33 #[.slice (some ⟨bX,0,none⟩) 2 2] w (fun e w'=>∃ A c,e=.returned (.slice A (n1+n2:Nat) c)∧Hid (Qs w' (fun b=>F b∧b < w.heap.size) A (l1 ++ l2))∧(A=none→c=0)∧Ext w w'):=by
 obtain ⟨hcX,hfX,hlX⟩:=hbX.all
 have H1:=Lib.hid h1.in
 have H2:=Lib.hid h2.in
 have E1:=Lib.hid e1
 have E2:=Lib.hid e2
 clear h1 h2 e1 e2
 go_enter Tryz.func33,Tryz.ntmps33
 have hx:=Ext.refl w
 go_wp2
 refine wp_loop_rounds 3 ?_
 rw [rounds_succ]
 go_wp2
 rw [rounds_succ]
 go_wp2
 rw [rounds_succ]
 go_wp2_with fail
 rw [show ((n1:Int)+(n2:Int))=((n1+n2:Nat):Int) from by omega]
 refine (pgrow_any (n1+n2) _ (by omega)).mono ?_
 rintro e w1 ⟨v,rfl,hown,hx0⟩
 have hbY:=hbX.ext hx0
 have hz:=hx0.size_le
 have HO:=Lib.hid (hown (fun b=>F b∧b < w.heap.size))
 have Hx:=Lib.hid hx0
 have HbX:=Lib.hid hbX
 clear hx hx0 hcX hfX hlX hbX hown
 obtain ⟨hcX,hfX,hlX⟩:=hbY.all
 go_wp2_with fail
 refine wp_loop_rounds 3 ?_
 rw [rounds_succ]
 go_wp2_with (at_builtin;refine wpList_grows _ rfl _ _ 22 rfl Tryz.underlying22 (by kernel_rfl) w.heap.size v [] l1 rfl HO.out A1 n1 c1 rfl E1.out (H1.out.ext Hx.out) (fun b hb=>⟨by have :=hb.2;omega,hb,fun e=>by have :=(HO.out.own b e.symm).1;have:=hb.2;omega⟩) (by simp;omega) hz ?_;intro v2 w2 hgr2 hg2;clear H1)
 have hx2:=Ext.grownBy Hx.out hg2 (fun g hg=>(HO.out.own g hg).1)
 rw [List.nil_append] at hgr2
 have hbY:=HbX.out.ext hx2
 have hz:=hx2.size_le
 have Hx2:=Lib.hid hx2
 have HO2:=Lib.hid hgr2
 clear hx2 hcX hfX hlX hg2 Hx HO hgr2
 obtain ⟨hcX,hfX,hlX⟩:=hbY.all
 rw [rounds_succ]
 go_wp2_with (at_builtin;refine wpList_grows _ rfl _ _ 22 rfl Tryz.underlying22 (by kernel_rfl) w.heap.size v2 l1 l2 rfl HO2.out A2 n2 c2 rfl E2.out (H2.out.ext Hx2.out) (fun b hb=>⟨by have :=hb.2;omega,hb,fun e=>by have :=(HO2.out.own b e.symm).1;have:=hb.2;omega⟩) (by rw [E1.out];omega) hz ?_;intro v3 w3 hgr3 hg3;clear H2)
 have hx3:=Ext.grownBy Hx2.out hg3 (fun g hg=>(HO2.out.own g hg).1)
 have HX3:=Lib.hid hx3
 have HO3:=Lib.hid hgr3
 clear hx3 hg3 hgr3 hcX hfX hlX
 rw [rounds_succ]
 go_wp2
 obtain ⟨A,c,rfl,hqs,hle,hnone⟩:=HO3.out.qs
 have hl:(l1 ++ l2).length=n1+n2:=by rw [List.length_append,E1.out,E2.out]
 refine bodyPost_ret (v:=.slice A (l1 ++ l2).length c) (by simp only [results,Tryz.results33];go_simp) rfl ?_
 exact ⟨A,c,by rw [hl],Lib.hid (hqs.mono fun b hb=>hb.1),hnone,HX3.out⟩
end Go.Proofs.YtlbhaimfjfdppaaGreatDoor
namespace Go.Proofs.YtlbhaimfjfdppaaGreatDoor
open Go Go.RowKit
attribute [local go_sem ↓] Go.wp_at_zero Go.wp_at_succ
def Mediated (R:Option (List Qp)) (w:World) (e:Ending) (w':World):Prop:=
 ((R=none∧e=.returned (.tuple #[.slice none 0 0,.bool false]))∨∃ l E n c,R=some l∧l.length=n∧e=.returned (.tuple #[.slice E n c,.bool true])∧Hid (Qs w' (fun _=>True) E l))∧Ext w w'
set_option maxHeartbeats 16000000 in
set_option maxRecDepth 100000 in
theorem mediate_any (A B C D:Option Addr) (n cA m cB k cC j cD:Nat) (a b c d:List Qp) (w:World) (hg:Glob w) (ha:Qs w (fun _=>True) A a) (hb:Qs w (fun _=>True) B b) (hc:Qs w (fun _=>True) C c) (hd:Qs w (fun _=>True) D d)
 (hn:a.length=n) (hm:b.length=m) (hk:c.length=k) (hj:d.length=j) (hB:B=none→m=0∧cB=0) (b1:n≤100000000) (b2:m≤100000000) (b3:k≤100000000) (b4:j≤100000000)
 (fa:∀ q∈a,q.Fits) (fb:∀ q∈b,q.Fits) (fc:∀ q∈c,q.Fits) (fd:∀ q∈d,q.Fits):
 Calls Tryz.prog 14 #[.slice A n cA,.slice B m cB,.slice C k cC,.slice D j cD] w (Mediated (Sq.mediate a b c d) w):=by
 have HC:=Lib.hid hc
 have HD:=Lib.hid hd
 have HK:=Lib.hid hk
 have HJ:=Lib.hid hj
 have HFC:=Lib.hid fc
 have HFD:=Lib.hid fd
 have HG:=Lib.hid hg
 have HR:Hid (Sq.mediate a b c d=match Sq.merge a b with | .error _=>none | .ok r=>(Sq.withoutAll c r.1).bind fun m=>if Sq.same d (r.2 ++ m) then some m else none):=Lib.hid rfl
 generalize Sq.mediate a b c d=R at HR ⊢
 cases hM:Sq.merge a b with
 | error p=>
   obtain ⟨p1,p2⟩:=p
   have HMG:=Lib.hid (fun W (hW:Ext w W)=>seqmerge_bad (cA:=cA) (cB:=cB) (hg.ext hW) (ha.ext hW) (hb.ext hW) hn hm hB (by omega) (by omega) fa fb hM)
   have HZ:Hid (R=none):=Lib.hid (by rw [HR.out,hM])
   clear ha hb hc hd hn hm hk hj hB fa fb fc fd hg HR hM
   go_enter Tryz.func14,Tryz.ntmps14
   have hx:=Ext.refl w
   go_wp2_with fail
   refine (HMG.out _ hx).mono ?_
   rintro e w1 ⟨rfl,hx0⟩
   have hx1:=hx.trans hx0
   clear hx hx0
   have hx:=hx1
   clear hx1
   dsimp only
   go_wp2_with fail
   refine bodyPost_ret (v:=.tuple #[.slice none 0 0,.bool false]) (by simp only [results,Tryz.results14];go_simp) rfl ?_
   exact ⟨.inl ⟨HZ.out,rfl⟩,by exact EX⟩
 | ok r=>
   have HMG:=Lib.hid (fun W (hW:Ext w W)=>seqmerge_go (cA:=cA) (cB:=cB) (hg.ext hW) (ha.ext hW) (hb.ext hW) hn hm hB (by omega) (by omega) fa fb hM)
   have HR2:Hid (R=(Sq.withoutAll c r.1).bind fun m=>if Sq.same d (r.2 ++ m) then some m else none):=Lib.hid (by rw [HR.out,hM])
   have HF1:=Lib.hid (merge_fitting hM fa fb).1
   have HF2:=Lib.hid (merge_fitting hM fa fb).2
   have HL1:Hid (r.1.length=m):=Lib.hid ((Sq.merge_length hM).1.trans hm)
   have HL2:Hid (r.2.length=n):=Lib.hid ((Sq.merge_length hM).2.trans hn)
   clear ha hb hc hd hn hm hk hj hB fa fb fc fd hg HR hM
   go_enter Tryz.func14,Tryz.ntmps14
   have hx:=Ext.refl w
   go_wp2_with fail
   refine (HMG.out _ hx).mono ?_
   rintro e w1 ⟨A1,c1,A2,c2,rfl,HQ1,HQ2,_,hx0⟩
   have hx1:=hx.trans hx0
   clear hx hx0 HMG
   have hx:=hx1
   clear hx1
   dsimp only
   go_wp2_with fail
   generalize hw2:World.alloc w1 _=w2
   have hx2:Ext w1 w2:=by rw [← hw2];exact (Ext.refl w1).alloc _
   have HQ1:=Lib.hid (HQ1.out.ext hx2)
   have HQ2:=Lib.hid (HQ2.out.ext hx2)
   have hxw:=hx.trans hx2
   have HC:=Lib.hid (HC.out.ext hxw)
   have HD:=Lib.hid (HD.out.ext hxw)
   have HXW:=Lib.hid hxw
   clear hw2 hx hx2 hxw
   have H0:Hid (Sq.withoutAll c r.1=Sq.withoutAll c (r.1.drop 0)):=Lib.hid (by rw [List.drop_zero])
   go_loopw [14,30] (fun u14 u30 wr=>∃ (i:Nat) (E:Option Addr) (n' c':Nat) (l:List Qp),i≤m∧u30=.int .i64 i∧u14=.slice E n' c'∧n'≤100000000∧Ext w2 wr∧Hid (Qs wr (fun _=>True) E l)∧Hid (l.length=n')∧Hid (∀ q∈l,q.Fits)∧Hid (Sq.withoutAll c r.1=Sq.withoutAll l (r.1.drop i))) (fun u14 u30 wr=>m - (intOf u30).toNat)
   case atStart=>exact ⟨0,C,k,cC,c,Nat.zero_le _,rfl,rfl,b3,Ext.refl _,HC,HK,HFC,H0⟩
   case round=>
    clear HC HK HFC H0
    obtain ⟨i,E,n',c',l,hi,rfl,rfl,hn',hx,HA,HN,HFA,HW0⟩:=hrel
    by_cases hlt:i < m
    ·have hkl:i < r.1.length:=by rw [HL1.out];exact hlt
     have e1:r.1[i]?=some (r.1[i]'hkl):=List.getElem?_eq_getElem hkl
     obtain ⟨bb,oo,p,rfl,hbl,hcc,hii⟩:=(HQ1.out.ext hx).get e1
     have fy:=HF1.out _ (List.mem_of_getElem? e1)
     have hdr:r.1.drop i=(r.1[i]'hkl) :: r.1.drop (i+1):=by rw [List.drop_eq_getElem_cons hkl]
     generalize r.1[i]'hkl=y at hii fy hdr e1
     have HW2:Hid (Sq.withoutAll c r.1=(Sq.without l y).bind fun s=>Sq.withoutAll s (r.1.drop (i+1))):=Lib.hid (by rw [HW0.out,hdr];rfl)
     have HW:=Lib.hid (fun W (hW:Ext wr W)=>pwithout_any E n' c' l p y W (HG.out.ext (HXW.out.trans (hx.trans hW))) (HA.out.ext hW) HN.out (hii.ext hW) fy (by omega) HFA.out)
     have HF3:=Lib.hid (fun s (hs:Sq.without l y=some s)=>Sq.without_fits hs HFA.out)
     obtain ⟨q0,q1,q2,q3,q4,q5,q6,q7,q8,q9,q10,q11⟩:=cells12 hcc
     clear hcc hii fy hdr e1 HA HN hkl HW0
     go_wp2_with fail
     clear q0 q1 q2 q3 q4 q5 q6 q7 q8 q9 q10 q11
     refine (HW.out _ ((Ext.refl wr).alloc _)).mono ?_
     rintro e w3 ⟨hres,hx1⟩
     have hx3:=hx.trans (((Ext.refl wr).alloc _).trans hx1)
     clear hx hx1 HW
     have hx:=hx3
     clear hx3
     rcases hres with ⟨hr,rfl⟩ | ⟨s,g,o,hr,hrl,rfl,HQ⟩
     ·have HZ:Hid (R=none):=Lib.hid (by rw [HR2.out,HW2.out,hr];rfl)
      clear HR2 HW2 hr
      go_wp2_with fail
      refine bodyPost_ret (v:=.tuple #[.slice none 0 0,.bool false]) (by simp only [results,Tryz.results14];go_simp) rfl ?_
      exact ⟨.inl ⟨HZ.out,rfl⟩,HXW.out.trans hx⟩
     ·have HW3:Hid (Sq.withoutAll c r.1=Sq.withoutAll s (r.1.drop (i+1))):=Lib.hid (by rw [HW2.out,hr];rfl)
      have HFR:=Lib.hid (HF3.out s hr)
      have HRL:=Lib.hid hrl
      clear HW2 hr HF3 hrl
      go_wp2_with fail
      go_roundw
      case rel=>
       first
        | exact ⟨i+1,some ⟨g,o,none⟩,n' - 1,n' - 1,s,hlt,rfl,rfl,by omega,hx,HQ,HRL,HFR,HW3⟩
        | ((repeat apply Exists.intro);exact ⟨⟨i+1,some ⟨g,o,none⟩,n' - 1,n' - 1,s,hlt,rfl,rfl,by omega,hx,HQ,HRL,HFR,HW3⟩,rfl⟩)
      case measure=>simp [intOf];omega
    ·have HW1:Hid (Sq.withoutAll c r.1=some l):=Lib.hid (by rw [HW0.out,List.drop_of_length_le (by rw [HL1.out];omega)];rfl)
     have HCC:=Lib.hid (fun W g (hW:Ext wr W) (hb:Blk W g 22 #[.slice A2 n c2,.slice E n' c'])=>pconcat_any g _ A2 E n c2 n' c' r.2 l W hb (HQ2.out.ext (hx.trans hW)) (HA.out.ext hW) HL2.out HN.out (by omega) (by omega))
     have HSM:=Lib.hid (fun W S cs (hW:Ext wr W) (hq:Qs W (fun _=>True) S (r.2 ++ l))=>seqsame_any D S j cD (n+n') cs d (r.2 ++ l) W (HG.out.ext (HXW.out.trans (hx.trans hW))) (HD.out.ext (hx.trans hW)) hq HJ.out (by rw [List.length_append,HL2.out,HN.out]) (by omega) (by omega) HFD.out (fun q hq=>(List.mem_append.1 hq).elim (HF2.out q) (HFA.out q)))
     have HR3:Hid (R=if Sq.same d (r.2 ++ l) then some l else none):=Lib.hid (by rw [HR2.out,HW1.out];rfl)
     clear HR2 HW1 HW0
     go_wp2_with fail
     refine (HCC.out _ _ ((Ext.refl wr).alloc _) (Blk.new' rfl)).mono ?_
     rintro e w3 ⟨S,cs,rfl,HS,_,hx1⟩
     have hx3:=((Ext.refl wr).alloc _).trans hx1
     clear hx1 HCC
     go_wp2_with fail
     refine (HSM.out _ S cs hx3 (HS.out.mono fun _ _=>trivial)).mono ?_
     rintro e w4 ⟨rfl,hx1⟩
     have hx4:=hx3.trans hx1
     clear hx3 hx1 HSM HS
     have HA4:=Lib.hid (HA.out.ext hx4)
     have hxx:=HXW.out.trans (hx.trans hx4)
     clear hx hx4 HA
     cases hs:Sq.same d (r.2 ++ l)
     ·have HZ:Hid (R=none):=Lib.hid (by rw [HR3.out,hs];rfl)
      clear HR3 hs
      go_wp2_with fail
      refine bodyPost_ret (v:=.tuple #[.slice none 0 0,.bool false]) (by simp only [results,Tryz.results14];go_simp) rfl ?_
      exact ⟨.inl ⟨HZ.out,rfl⟩,hxx⟩
     ·have HZ:Hid (R=some l):=Lib.hid (by rw [HR3.out,hs];rfl)
      clear HR3 hs
      go_wp2_with fail
      refine bodyPost_ret (v:=.tuple #[.slice E n' c',.bool true]) (by simp only [results,Tryz.results14];go_simp) rfl ?_
      exact ⟨.inr ⟨l,E,n',c',HZ.out,HN.out,rfl,HA4⟩,hxx⟩
end Go.Proofs.YtlbhaimfjfdppaaGreatDoor
namespace Go.Proofs.YtlbhaimfjfdppaaGreatDoor
open Go Go.RowKit
attribute [local go_sem ↓] Go.wp_at_zero Go.wp_at_succ
def axAdd (a:ByteArray):Qp:={ Qp.zero with kind:=1,path:=a,ty:=1 }
def axMove:Qp:={ Qp.zero with kind:=5,path:=⟨#[100]⟩,to_:=⟨#[101]⟩ }
theorem ax_one:Sq.merge [axAdd ⟨#[120]⟩,axAdd ⟨#[121]⟩] [axMove,axAdd ⟨#[121]⟩]=.error (1,1):=by kernel_rfl
theorem ax_two:Sq.merge [axAdd ⟨#[120]⟩,axAdd ⟨#[121]⟩] [axMove]=.ok ([axMove],[axAdd ⟨#[120]⟩,axAdd ⟨#[121]⟩]):=by kernel_rfl
theorem ax_fits:(axAdd ⟨#[120]⟩).Fits∧(axAdd ⟨#[121]⟩).Fits∧axMove.Fits:=
 ⟨⟨Nat.zero_le _,Nat.zero_le _,by decide,by decide⟩,⟨Nat.zero_le _,Nat.zero_le _,by decide,by decide⟩,⟨Nat.zero_le _,Nat.zero_le _,by decide,by decide⟩⟩
set_option maxHeartbeats 4000000 in
set_option maxRecDepth 100000 in
theorem axAdd_any (a:ByteArray) (w:World):
 Calls Tryz.prog 30 #[.string a] w (Ret ((axAdd a).pv none 0 none 0).v w):=by
 go_enter Tryz.func30,Tryz.ntmps30
 have hx:=Ext.refl w
 go_wp2_with fail
 refine bodyPost_ret (v:=((axAdd a).pv none 0 none 0).v) ?_ rfl ?_
 ·simp only [results,Tryz.results30]
  go_simp
  simp [axAdd,Qp.zero]
 ·exact ⟨rfl,EX⟩
theorem ax_merge1 (gA gB:Nat) (w:World) (hg:Glob w) (hA:Blk w gA 42 (flat [(axAdd ⟨#[120]⟩).pv none 0 none 0,(axAdd ⟨#[121]⟩).pv none 0 none 0]).toArray) (hB:Blk w gB 42 (flat [axMove.pv none 0 none 0,(axAdd ⟨#[121]⟩).pv none 0 none 0]).toArray):
 Calls Tryz.prog 31 #[.slice (some ⟨gA,0,none⟩) 2 2,.slice (some ⟨gB,0,none⟩) 2 2] w (fun e w'=>e=.returned (.tuple #[.slice none 0 0,.slice none 0 0,.agg #[.int .i64 1,.int .i64 1],.bool false])∧Ext w w'):=by
 obtain ⟨f1,f2,f3⟩:=ax_fits
 refine (seqmerge_any _ _ 2 2 2 2 [axAdd ⟨#[120]⟩,axAdd ⟨#[121]⟩] [axMove,axAdd ⟨#[121]⟩] w hg (F:=fun _=>True) (Qs.plain _ hA (by simp [axAdd,Qp.zero])) (Qs.plain _ hB (by simp [axAdd,axMove,Qp.zero])) rfl rfl (fun h=>nomatch h) (by omega) (by omega) (by simp [f1,f2]) (by simp [f2,f3])).mono ?_
 rintro e w' ⟨h,hx⟩
 rw [ax_one] at h
 exact ⟨h,hx⟩
theorem ax_merge2 (gA gB:Nat) (w:World) (hg:Glob w) (hA:Blk w gA 42 (flat [(axAdd ⟨#[120]⟩).pv none 0 none 0,(axAdd ⟨#[121]⟩).pv none 0 none 0]).toArray) (hB:Blk w gB 42 (flat [axMove.pv none 0 none 0]).toArray):
 Calls Tryz.prog 31 #[.slice (some ⟨gA,0,none⟩) 2 2,.slice (some ⟨gB,0,none⟩) 1 1] w (fun e w'=>∃ A1 c1 A2 c2,e=.returned (.tuple #[.slice A1 1 c1,.slice A2 2 c2,.agg #[.int .i64 0,.int .i64 0],.bool true])∧Hid (Qs w' (fun _=>True) A1 [axMove]∧Qs w' (fun _=>True) A2 [axAdd ⟨#[120]⟩,axAdd ⟨#[121]⟩])∧Ext w w'):=by
 obtain ⟨f1,f2,f3⟩:=ax_fits
 refine (seqmerge_any _ _ 2 2 1 1 [axAdd ⟨#[120]⟩,axAdd ⟨#[121]⟩] [axMove] w hg (F:=fun _=>True) (Qs.plain _ hA (by simp [axAdd,Qp.zero])) (Qs.plain _ hB (by simp [axMove,Qp.zero])) rfl rfl (fun h=>nomatch h) (by omega) (by omega) (by simp [f1,f2]) (by simp [f3])).mono ?_
 rintro e w' ⟨h,hx⟩
 rw [ax_two] at h
 obtain ⟨A1,c1,A2,c2,rfl,hq⟩:=h
 exact ⟨A1,c1,A2,c2,rfl,Lib.hid ⟨hq.out.1.mono fun _ _=>trivial,hq.out.2.1.mono fun _ _=>trivial⟩,hx⟩
set_option maxHeartbeats 16000000 in
set_option maxRecDepth 100000 in
theorem awake15_any (w:World) (hg:Glob w):Calls Tryz.prog 13 #[] w (Ret (.bool true) w):=by
 have HG:=Lib.hid hg
 clear hg
 go_enter Tryz.func13,Tryz.ntmps13
 have hx:=Ext.refl w
 go_wp2_with fail
 refine (axAdd_any _ _).mono ?_
 rintro e w1 ⟨rfl,hx0⟩
 have hb:Blk w1 w.heap.size 42 (parr (axMove.pv none 0 none 0)):=Blk.ext hx0 (Blk.new' rfl)
 have hx1:=Ext.trans (a:=w) EX hx0
 clear hx hx0
 have hx:=hx1
 clear hx1
 go_wp2_with fail
 refine (axAdd_any _ _).mono ?_
 rintro e w2 ⟨rfl,hx0⟩
 replace hb:=Blk.ext hx0 hb
 have hx1:=Ext.trans (a:=w) EX hx0
 clear hx hx0
 have hx:=hx1
 clear hx1
 have hc:=hb.cell
 have hl:=hb.lt
 go_upto_region 4 with fail
 generalize hw3:World.alloc w2 _=w3
 have hA:Blk w3 w2.heap.size 42 (flat [(axAdd ⟨#[120]⟩).pv none 0 none 0,(axAdd ⟨#[121]⟩).pv none 0 none 0]).toArray:=by rw [← hw3];exact Blk.new' rfl
 have hx3:Ext w2 w3:=by rw [← hw3];exact (Ext.refl w2).alloc _
 replace hb:=hb.ext hx3
 have hx1:=hx.trans hx3
 clear hw3 hx hx3 hc hl
 have hx:=hx1
 clear hx1
 generalize w2.heap.size=gA at hA ⊢
 have HA:=Lib.hid hA
 have HB:=Lib.hid hb
 have HX:=Lib.hid hx
 have HM1:=Lib.hid (fun W gB (hW:Ext w3 W) hB=>ax_merge1 gA gB W (HG.out.ext (hx.trans hW)) (hA.ext hW) hB)
 go_cut [6,7] (fun u6 u7 wx=>∃ g6:Nat,u6=.pointer (some ⟨g6,0,none⟩)∧u7=.bool false∧Blk wx g6 50 #[.int .i64 1,.int .i64 1]∧Ext w3 wx)
 case first=>
  refine wp_region_noPanic (wp_region_held_drew (S:=fun w'=>Ext w3 w') (by kernel_rfl) (Ext.refl w3).drew1 (fun hv=>?_))
  refine tf (i:=0) (v:=.slice (some ⟨gA,0,none⟩) 2 2) rfl rfl (fun _=>rfl) hv ?_
  try simp only [Act.put,sA,s0,sS]
  refine tl (i:=1) (parr (axMove.pv none 0 none 0)).toList rfl rfl rfl rfl rfl Tryz.underlying42 rfl (fun _ h=>(HB.out.ext h).range 0 _ (fun j _=>by rw [Nat.zero_add,Array.getElem?_toList])) hv ?_
  try simp only [Act.put,sA,s0,sS]
  refine tf (i:=2) (v:=.func (.func 30) #[] #[]) rfl rfl (fun _=>rfl) hv ?_
  try simp only [Act.put,sA,s0,sS]
  generalize w3.drew=v0 at hv ⊢
  refine wpAnyH_ready (rs:=[3,11]) (by kernel_rfl) (by simp) ?_
  refine (AllReadyH.cons rfl (fun K hK=>?_) (AllReadyH.cons rfl (fun K hK=>?_) AllReadyH.nil))
  ·go_simp
   refine (axAdd_any _ _).mono ?_
   rintro e v1 ⟨rfl,hx0⟩
   have hv':=hv.trans hx0
   clear hv hx0
   have hv:=hv'
   clear hv'
   refine hK.out _ _ hv (fun _=>?_)
   clear hK
   try simp only [Act.put,sA,s0,sS]
   refine wpAnyH_ready (rs:=[4,11]) (by kernel_rfl) (by simp) ?_
   refine (AllReadyH.cons rfl (fun K hK=>?_) (AllReadyH.cons rfl (fun K hK=>?_) AllReadyH.nil))
   ·go_simp
    refine hK.out _ _ (hv.trans ((Ext.refl v1).alloc _)) (fun _=>?_)
    clear hK
    try simp only [Act.put,sA,s0,sS]
    generalize hq:World.alloc v1 _=v2
    have hx0:Ext v1 v2:=by rw [← hq];exact (Ext.refl v1).alloc _
    have hbB:Blk v2 v1.heap.size 42 (flat [(axMove.pv none 0 none 0),((axAdd ⟨#[121]⟩).pv none 0 none 0)]).toArray:=by rw [← hq];exact Blk.new' rfl
    have hv':=hv.trans hx0
    clear hv hq hx0
    have hv:=hv'
    clear hv'
    refine wpAnyH_ready (rs:=[5,11]) (by kernel_rfl) (by simp) ?_
    refine (AllReadyH.cons rfl (fun K hK=>?_) (AllReadyH.cons rfl (fun K hK=>?_) AllReadyH.nil))
    ·go_simp
     refine (HM1.out _ _ hv hbB).mono ?_
     rintro e v3 ⟨rfl,hx0⟩
     have hv':=hv.trans hx0
     replace hbB:=hbB.ext hx0
     clear hv hx0
     have hv:=hv'
     clear hv'
     refine hK.out _ _ hv (fun _=>?_)
     clear hK
     try simp only [Act.put,sA,s0,sS]
     refine tf (i:=6) (v:=.tuple #[.slice none 0 0,.slice none 0 0,.agg #[.int .i64 1,.int .i64 1],.bool false]) rfl rfl (fun _=>rfl) hv ?_
     try simp only [Act.put,sA,s0,sS]
     refine tf (i:=7) (v:=.slice none 0 0) rfl rfl (fun _=>rfl) hv ?_
     try simp only [Act.put,sA,s0,sS]
     refine tf (i:=8) (v:=.slice none 0 0) rfl rfl (fun _=>rfl) hv ?_
     try simp only [Act.put,sA,s0,sS]
     refine tf (i:=9) (v:=.agg #[.int .i64 1,.int .i64 1]) rfl rfl (fun _=>rfl) hv ?_
     try simp only [Act.put,sA,s0,sS]
     refine tf (i:=10) (v:=.bool false) rfl rfl (fun _=>rfl) hv ?_
     try simp only [Act.put,sA,s0,sS]
     refine wpAnyH_one (i:=11) (by kernel_rfl) rfl (by kernel_rfl) ?_
     go_simp
     refine ⟨hv.trans ((Ext.refl v3).alloc _),?_⟩
     try simp only [Act.put,sA,s0,sS]
     generalize hq:World.alloc v3 _=v4
     have hx0:Ext v3 v4:=by rw [← hq];exact (Ext.refl v3).alloc _
     have hb6:Blk v4 v3.heap.size 50 #[.int .i64 0,.int .i64 0]:=by rw [← hq];exact Blk.new' rfl
     have hv':=hv.trans hx0
     replace hbB:=hbB.ext hx0
     have hg6:w3.heap.size≤v3.heap.size:=hv.size_le
     clear hv hq hx0
     have hv:=hv'
     clear hv'
     refine tf (i:=12) (v:=.slice none 0 0) rfl rfl (fun _=>rfl) hv ?_
     try simp only [Act.put,sA,s0,sS]
     refine tf (i:=13) (v:=.slice none 0 0) rfl rfl (fun _=>rfl) hv ?_
     try simp only [Act.put,sA,s0,sS]
     refine wpAnyH_one (i:=14) (by kernel_rfl) rfl (by kernel_rfl) ?_
     refine wp_store_blk 50 _ _ rfl hb6 rfl (.agg #[.int .i64 1,.int .i64 1]) rfl rfl (by kernel_rfl) (by simp [Value.cells,Value.oneCell']) ?_
     have hv6:=Ext.setAll hg6 [.int .i64 1,.int .i64 1] 0 _ hv
     refine ⟨hv6,?_⟩
     try simp only [Act.put,sA,s0,sS]
     refine tf (i:=15) (v:=.bool false) rfl rfl (fun _=>rfl) hv6 ?_
     try simp only [Act.put,sA,s0,sS]
     refine wpAnyH_done (by kernel_rfl) (NoPanic.normal ?_) _
     go_wp2_with fail
     go_meet
     exact ⟨_,rfl,rfl,Blk.whole (vs:=(#[.int .i64 1,.int .i64 1]:Array Value)) hb6 rfl,hv6⟩
    ·go_simp
     refine hK.out _ _ (hv.trans ((Ext.refl v2).alloc _)) (fun _=>?_)
     clear hK
     try simp only [Act.put,sA,s0,sS]
     generalize hq:World.alloc v2 _=v5
     have hx0:Ext v2 v5:=by rw [← hq];exact (Ext.refl v2).alloc _
     have hb6:Blk v5 v2.heap.size 50 #[.int .i64 0,.int .i64 0]:=by rw [← hq];exact Blk.new' rfl
     have hv':=hv.trans hx0
     replace hbB:=hbB.ext hx0
     have hg6:w3.heap.size≤v2.heap.size:=hv.size_le
     clear hv hq hx0
     have hv:=hv'
     clear hv'
     refine wpAnyH_one (i:=5) (by kernel_rfl) rfl (by kernel_rfl) ?_
     go_simp
     refine (HM1.out _ _ hv hbB).mono ?_
     rintro e v6 ⟨rfl,hx0⟩
     have hv':=hv.trans hx0
     replace hbB:=hbB.ext hx0
     replace hb6:=hb6.ext hx0
     clear hv hx0
     have hv:=hv'
     clear hv'
     refine ⟨hv,?_⟩
     try simp only [Act.put,sA,s0,sS]
     refine tf (i:=6) (v:=.tuple #[.slice none 0 0,.slice none 0 0,.agg #[.int .i64 1,.int .i64 1],.bool false]) rfl rfl (fun _=>rfl) hv ?_
     try simp only [Act.put,sA,s0,sS]
     refine tf (i:=7) (v:=.slice none 0 0) rfl rfl (fun _=>rfl) hv ?_
     try simp only [Act.put,sA,s0,sS]
     refine tf (i:=8) (v:=.slice none 0 0) rfl rfl (fun _=>rfl) hv ?_
     try simp only [Act.put,sA,s0,sS]
     refine tf (i:=9) (v:=.agg #[.int .i64 1,.int .i64 1]) rfl rfl (fun _=>rfl) hv ?_
     try simp only [Act.put,sA,s0,sS]
     refine tf (i:=10) (v:=.bool false) rfl rfl (fun _=>rfl) hv ?_
     try simp only [Act.put,sA,s0,sS]
     refine tf (i:=12) (v:=.slice none 0 0) rfl rfl (fun _=>rfl) hv ?_
     try simp only [Act.put,sA,s0,sS]
     refine tf (i:=13) (v:=.slice none 0 0) rfl rfl (fun _=>rfl) hv ?_
     try simp only [Act.put,sA,s0,sS]
     refine wpAnyH_one (i:=14) (by kernel_rfl) rfl (by kernel_rfl) ?_
     refine wp_store_blk 50 _ _ rfl hb6 rfl (.agg #[.int .i64 1,.int .i64 1]) rfl rfl (by kernel_rfl) (by simp [Value.cells,Value.oneCell']) ?_
     have hv6:=Ext.setAll hg6 [.int .i64 1,.int .i64 1] 0 _ hv
     refine ⟨hv6,?_⟩
     try simp only [Act.put,sA,s0,sS]
     refine tf (i:=15) (v:=.bool false) rfl rfl (fun _=>rfl) hv6 ?_
     try simp only [Act.put,sA,s0,sS]
     refine wpAnyH_done (by kernel_rfl) (NoPanic.normal ?_) _
     go_wp2_with fail
     go_meet
     exact ⟨_,rfl,rfl,Blk.whole (vs:=(#[.int .i64 1,.int .i64 1]:Array Value)) hb6 rfl,hv6⟩
   ·go_simp
    refine hK.out _ _ (hv.trans ((Ext.refl v1).alloc _)) (fun _=>?_)
    clear hK
    try simp only [Act.put,sA,s0,sS]
    generalize hq:World.alloc v1 _=v7
    have hx0:Ext v1 v7:=by rw [← hq];exact (Ext.refl v1).alloc _
    have hb6:Blk v7 v1.heap.size 50 #[.int .i64 0,.int .i64 0]:=by rw [← hq];exact Blk.new' rfl
    have hv':=hv.trans hx0
    have hg6:w3.heap.size≤v1.heap.size:=hv.size_le
    clear hv hq hx0
    have hv:=hv'
    clear hv'
    refine wpAnyH_one (i:=4) (by kernel_rfl) rfl (by kernel_rfl) ?_
    go_simp
    refine ⟨hv.trans ((Ext.refl v7).alloc _),?_⟩
    try simp only [Act.put,sA,s0,sS]
    generalize hq:World.alloc v7 _=v8
    have hx0:Ext v7 v8:=by rw [← hq];exact (Ext.refl v7).alloc _
    have hbB:Blk v8 v7.heap.size 42 (flat [(axMove.pv none 0 none 0),((axAdd ⟨#[121]⟩).pv none 0 none 0)]).toArray:=by rw [← hq];exact Blk.new' rfl
    have hv':=hv.trans hx0
    replace hb6:=hb6.ext hx0
    clear hv hq hx0
    have hv:=hv'
    clear hv'
    refine wpAnyH_one (i:=5) (by kernel_rfl) rfl (by kernel_rfl) ?_
    go_simp
    refine (HM1.out _ _ hv hbB).mono ?_
    rintro e v9 ⟨rfl,hx0⟩
    have hv':=hv.trans hx0
    replace hbB:=hbB.ext hx0
    replace hb6:=hb6.ext hx0
    clear hv hx0
    have hv:=hv'
    clear hv'
    refine ⟨hv,?_⟩
    try simp only [Act.put,sA,s0,sS]
    refine tf (i:=6) (v:=.tuple #[.slice none 0 0,.slice none 0 0,.agg #[.int .i64 1,.int .i64 1],.bool false]) rfl rfl (fun _=>rfl) hv ?_
    try simp only [Act.put,sA,s0,sS]
    refine tf (i:=7) (v:=.slice none 0 0) rfl rfl (fun _=>rfl) hv ?_
    try simp only [Act.put,sA,s0,sS]
    refine tf (i:=8) (v:=.slice none 0 0) rfl rfl (fun _=>rfl) hv ?_
    try simp only [Act.put,sA,s0,sS]
    refine tf (i:=9) (v:=.agg #[.int .i64 1,.int .i64 1]) rfl rfl (fun _=>rfl) hv ?_
    try simp only [Act.put,sA,s0,sS]
    refine tf (i:=10) (v:=.bool false) rfl rfl (fun _=>rfl) hv ?_
    try simp only [Act.put,sA,s0,sS]
    refine tf (i:=12) (v:=.slice none 0 0) rfl rfl (fun _=>rfl) hv ?_
    try simp only [Act.put,sA,s0,sS]
    refine tf (i:=13) (v:=.slice none 0 0) rfl rfl (fun _=>rfl) hv ?_
    try simp only [Act.put,sA,s0,sS]
    refine wpAnyH_one (i:=14) (by kernel_rfl) rfl (by kernel_rfl) ?_
    refine wp_store_blk 50 _ _ rfl hb6 rfl (.agg #[.int .i64 1,.int .i64 1]) rfl rfl (by kernel_rfl) (by simp [Value.cells,Value.oneCell']) ?_
    have hv6:=Ext.setAll hg6 [.int .i64 1,.int .i64 1] 0 _ hv
    refine ⟨hv6,?_⟩
    try simp only [Act.put,sA,s0,sS]
    refine tf (i:=15) (v:=.bool false) rfl rfl (fun _=>rfl) hv6 ?_
    try simp only [Act.put,sA,s0,sS]
    refine wpAnyH_done (by kernel_rfl) (NoPanic.normal ?_) _
    go_wp2_with fail
    go_meet
    exact ⟨_,rfl,rfl,Blk.whole (vs:=(#[.int .i64 1,.int .i64 1]:Array Value)) hb6 rfl,hv6⟩
  ·go_simp
   refine hK.out _ _ (hv.trans ((Ext.refl v0).alloc _)) (fun _=>?_)
   clear hK
   try simp only [Act.put,sA,s0,sS]
   generalize hq:World.alloc v0 _=v10
   have hx0:Ext v0 v10:=by rw [← hq];exact (Ext.refl v0).alloc _
   have hb6:Blk v10 v0.heap.size 50 #[.int .i64 0,.int .i64 0]:=by rw [← hq];exact Blk.new' rfl
   have hv':=hv.trans hx0
   have hg6:w3.heap.size≤v0.heap.size:=hv.size_le
   clear hv hq hx0
   have hv:=hv'
   clear hv'
   refine wpAnyH_one (i:=3) (by kernel_rfl) rfl (by kernel_rfl) ?_
   go_simp
   refine (axAdd_any _ _).mono ?_
   rintro e v11 ⟨rfl,hx0⟩
   have hv':=hv.trans hx0
   replace hb6:=hb6.ext hx0
   clear hv hx0
   have hv:=hv'
   clear hv'
   refine ⟨hv,?_⟩
   try simp only [Act.put,sA,s0,sS]
   refine wpAnyH_one (i:=4) (by kernel_rfl) rfl (by kernel_rfl) ?_
   go_simp
   refine ⟨hv.trans ((Ext.refl v11).alloc _),?_⟩
   try simp only [Act.put,sA,s0,sS]
   generalize hq:World.alloc v11 _=v12
   have hx0:Ext v11 v12:=by rw [← hq];exact (Ext.refl v11).alloc _
   have hbB:Blk v12 v11.heap.size 42 (flat [(axMove.pv none 0 none 0),((axAdd ⟨#[121]⟩).pv none 0 none 0)]).toArray:=by rw [← hq];exact Blk.new' rfl
   have hv':=hv.trans hx0
   replace hb6:=hb6.ext hx0
   clear hv hq hx0
   have hv:=hv'
   clear hv'
   refine wpAnyH_one (i:=5) (by kernel_rfl) rfl (by kernel_rfl) ?_
   go_simp
   refine (HM1.out _ _ hv hbB).mono ?_
   rintro e v13 ⟨rfl,hx0⟩
   have hv':=hv.trans hx0
   replace hbB:=hbB.ext hx0
   replace hb6:=hb6.ext hx0
   clear hv hx0
   have hv:=hv'
   clear hv'
   refine ⟨hv,?_⟩
   try simp only [Act.put,sA,s0,sS]
   refine tf (i:=6) (v:=.tuple #[.slice none 0 0,.slice none 0 0,.agg #[.int .i64 1,.int .i64 1],.bool false]) rfl rfl (fun _=>rfl) hv ?_
   try simp only [Act.put,sA,s0,sS]
   refine tf (i:=7) (v:=.slice none 0 0) rfl rfl (fun _=>rfl) hv ?_
   try simp only [Act.put,sA,s0,sS]
   refine tf (i:=8) (v:=.slice none 0 0) rfl rfl (fun _=>rfl) hv ?_
   try simp only [Act.put,sA,s0,sS]
   refine tf (i:=9) (v:=.agg #[.int .i64 1,.int .i64 1]) rfl rfl (fun _=>rfl) hv ?_
   try simp only [Act.put,sA,s0,sS]
   refine tf (i:=10) (v:=.bool false) rfl rfl (fun _=>rfl) hv ?_
   try simp only [Act.put,sA,s0,sS]
   refine tf (i:=12) (v:=.slice none 0 0) rfl rfl (fun _=>rfl) hv ?_
   try simp only [Act.put,sA,s0,sS]
   refine tf (i:=13) (v:=.slice none 0 0) rfl rfl (fun _=>rfl) hv ?_
   try simp only [Act.put,sA,s0,sS]
   refine wpAnyH_one (i:=14) (by kernel_rfl) rfl (by kernel_rfl) ?_
   refine wp_store_blk 50 _ _ rfl hb6 rfl (.agg #[.int .i64 1,.int .i64 1]) rfl rfl (by kernel_rfl) (by simp [Value.cells,Value.oneCell']) ?_
   have hv6:=Ext.setAll hg6 [.int .i64 1,.int .i64 1] 0 _ hv
   refine ⟨hv6,?_⟩
   try simp only [Act.put,sA,s0,sS]
   refine tf (i:=15) (v:=.bool false) rfl rfl (fun _=>rfl) hv6 ?_
   try simp only [Act.put,sA,s0,sS]
   refine wpAnyH_done (by kernel_rfl) (NoPanic.normal ?_) _
   go_wp2_with fail
   go_meet
   exact ⟨_,rfl,rfl,Blk.whole (vs:=(#[.int .i64 1,.int .i64 1]:Array Value)) hb6 rfl,hv6⟩
 case rest=>
  obtain ⟨g6,rfl,rfl,hb6,hx4⟩:=hcut
  have HW4:=Lib.hid (HB.out.ext hx4)
  have hc:=HW4.out.cell
  have hl:=HW4.out.lt
  have hm2:=fun W (hW:Ext wc W) (hB:Blk W wc.heap.size 42 (flat [axMove.pv none 0 none 0]).toArray)=>ax_merge2 gA wc.heap.size W (HG.out.ext (HX.out.trans (hx4.trans hW))) (HA.out.ext (hx4.trans hW)) hB
  have HM2:=Lib.hid hm2
  clear hb hA hm2 hx HM1
  go_wp2_with fail
  refine (HM2.out _ ((Ext.refl wc).alloc _) (Blk.new' rfl)).mono ?_
  rintro e w5 ⟨A1,c1,A2,c2,rfl,HQ,hx0⟩
  have hx5:=((Ext.refl wc).alloc _).trans hx0
  clear HM2 hx0 hc hl
  replace hb6:=hb6.ext hx5
  have hb5:=HW4.out.ext hx5
  have hc6:=hb6.cell
  have hl6:=hb6.lt
  have hc5:=hb5.cell
  have hl5:=hb5.lt
  have HS1:=Lib.hid (fun W g (hW:Ext w5 W) (hB:Blk W g 42 (flat [axMove.pv none 0 none 0]).toArray)=>rsame_true A1 (some ⟨g,0,none⟩) 1 c1 1 [axMove] W (HQ.out.1.ext hW) (Qs.plain (fun _=>True) hB (by simp [axMove,Qp.zero])) rfl (by omega) (by simp [ax_fits.2.2]))
  have HS2:=Lib.hid (fun W (hW:Ext w5 W)=>rsame_true A2 (some ⟨gA,0,none⟩) 2 c2 2 [axAdd ⟨#[120]⟩,axAdd ⟨#[121]⟩] W (HQ.out.2.ext hW) (Qs.plain (fun _=>True) (HA.out.ext (hx4.trans (hx5.trans hW))) (by simp [axAdd,Qp.zero])) rfl (by omega) (by simp [ax_fits.1,ax_fits.2.1]))
  have qe:∀ w,(Op.equalIn 10000 50 (.agg #[.int .i64 1,.int .i64 1]) (.agg #[.int .i64 1,.int .i64 1])).run Tryz.prog w=.ok true w:=fun w=>eql_pair 1 1 1 1 w
  dsimp only
  go_wp2_with fail
  clear hc6 hl6 hc5 hl5
  refine (HS1.out _ _ ((Ext.refl w5).alloc _ |>.alloc _) (Blk.new' (by simp))).mono ?_
  rintro e w6 ⟨rfl,hx0⟩
  have hx6:=((Ext.refl w5).alloc _ |>.alloc _).trans hx0
  go_wp2_with fail
  refine (HS2.out _ hx6).mono ?_
  rintro e w7 ⟨rfl,hx7⟩
  have hx:=HX.out.trans (hx4.trans (hx5.trans (hx6.trans hx7)))
  clear hx0 hx4 hx5 hx6 hx7
  go_wp2_with fail
  (go_ret;refine Ret.mk ?_ ?_;(focus (rfl;done));(focus (exact EX;done)))
end Go.Proofs.YtlbhaimfjfdppaaGreatDoor
