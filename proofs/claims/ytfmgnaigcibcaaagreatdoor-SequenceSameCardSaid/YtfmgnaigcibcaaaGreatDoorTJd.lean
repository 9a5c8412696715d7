import Derived.Test.YtfmgnaigcibcaaaGreatDoorTJa
import Derived.Test.YtfmgnaigcibcaaaGreatDoorTQ0
import Derived.Test.YtfmgnaigcibcaaaGreatDoorTQ4
import Derived.Test.YtfmgnaigcibcaaaGreatDoorTTf
import Derived.Test.YtfmgnaigcibcaaaGreatDoorTJb
import Derived.Test.YtfmgnaigcibcaaaGreatDoorTJc
import Derived.Test.YtfmgnaigcibcaaaGreatDoorTJe
set_option linter.unusedSimpArgs false
set_option linter.unusedVariables false
namespace Go.Proofs.YtfmgnaigcibcaaaGreatDoor
open Go Go.RowKit Go.Shelf
attribute [local go_sem] Oper.semAt_some
structure Sweeping (w:World) (p:Pv) (z:Nat) (A:Option Addr) (n c:Nat) (l:List Pf) (k:Nat) (W:World):Prop where
 r0:Blk W w.heap.size 104 p.box
 r1:Blk W (w.heap.size+1) 23 #[.slice none 0 0]
 r2:Blk W (w.heap.size+2) 32 #[.int .i64 0]
 r4:Blk W z 23 #[.slice A n c]
 ext:Ext w W
 before:∀ (j:Nat) (g:Pf),j < k→l[j]?=some g→Qm.below g.path p.path=false
def Caught (w:World) (p:Pv) (l:List Pf) (W:World):Prop:=
 l.any (fun x=>Qm.below x.path p.path)=true∧Blk W (w.heap.size+1) 23 #[.slice none 0 0]∧Blk W (w.heap.size+2) 32 #[.int .i64 15]∧Ext w W
theorem Sweeping.into {w:World} {p:Pv} {z:Nat} {A:Option Addr} {n c:Nat} {l:List Pf} {k:Nat} {W W':World} (h:Sweeping w p z A n c l k W) (hx:Ext W W'):Sweeping w p z A n c l k W':=
 ⟨h.r0.ext hx,h.r1.ext hx,h.r2.ext hx,h.r4.ext hx,h.ext.trans hx,h.before⟩
theorem Sweeping.steady {w:World} {p:Pv} {z:Nat} {A:Option Addr} {n c:Nat} {l:List Pf} {B:Nat} (hB:w.heap.size≤B) (k:Nat):Steady B (Sweeping w p z A n c l k):=fun W W' row h hg hr=>by
 have ht:Turned W W':=⟨row,hg,fun r e=>(hr r e).2⟩
 exact ⟨h.r0.turned ht,h.r1.turned ht,h.r2.turned ht,h.r4.turned ht,Ext.steady w hB W W' row h.ext hg hr,h.before⟩
theorem Caught.steady {w:World} {p:Pv} {l:List Pf} {B:Nat} (hB:w.heap.size≤B):Steady B (Caught w p l):=fun W W' row h hg hr=>by
 have ht:Turned W W':=⟨row,hg,fun r e=>(hr r e).2⟩
 obtain ⟨h1,h2,h3,h4⟩:=h
 exact ⟨h1,h2.turned ht,h3.turned ht,Ext.steady w hB W W' row h4 hg hr⟩
theorem Sweeping.next {w:World} {p:Pv} {z:Nat} {A:Option Addr} {n c:Nat} {l:List Pf} {k:Nat} {W:World} {f:Pf} (h:Sweeping w p z A n c l k W) (hf:l[k]?=some f) (he:Qm.below f.path p.path=false):Sweeping w p z A n c l (k+1) W:=
 ⟨h.r0,h.r1,h.r2,h.r4,h.ext,fun j g hj hg=>by
  rcases Nat.lt_succ_iff_lt_or_eq.1 hj with h1 | rfl
  ·exact h.before j g h1 hg
  ·rw [hf] at hg
   obtain rfl:=Option.some.inj hg
   exact he⟩
theorem two_res {W:World} {g g':Nat} {t t':TypeId} {a b a' b':Value} (h:Blk W g t #[a]) (k:Blk W g' t' #[b]) (hne:g≠g'):
 Blk ((W.setCell ⟨g,0,none⟩ a').setCell ⟨g',0,none⟩ b') g t #[a']∧Blk ((W.setCell ⟨g,0,none⟩ a').setCell ⟨g',0,none⟩ b') g' t' #[b'] ∧
 KeepsOthers W ((W.setCell ⟨g,0,none⟩ a').setCell ⟨g',0,none⟩ b') ∧
 ∀ w0:World,Ext w0 W→w0.heap.size≤g→w0.heap.size≤g'→Ext w0 ((W.setCell ⟨g,0,none⟩ a').setCell ⟨g',0,none⟩ b'):=by
 refine ⟨?_,?_,?_,fun w0 hx h1 h2=>?_⟩
 ·exact Blk.far (p:=⟨g',0,none⟩) (Blk.conv' (h.set_ 0 a') (by simp)) hne _
 ·exact Blk.conv' ((Blk.far (p:=⟨g,0,none⟩) k hne.symm _).set_ 0 b') (by simp)
 ·exact (KeepsOthers.setCell _ _ _).trans (KeepsOthers.setCell _ _ _)
 ·exact Ext.setCell (p:=⟨g',0,none⟩) (Ext.setCell (p:=⟨g,0,none⟩) hx h1 _) h2 _
set_option maxHeartbeats 1000000 in
theorem predr_any (kc:Nat) (p:Pv) (x:Pf) (W:World) (hB:Blk W kc 104 p.box):Calls Tryz.prog 204 #[x.v,.pointer (some ⟨kc,0,none⟩)] W (Ret (.bool (Qm.eqB x.path p.path)) W):=by
 obtain ⟨hc0,hf0,hl0⟩:=hB.all
 have HQ:Hid ((x.path.toList == p.path.toList)=Qm.eqB x.path p.path):=Lib.hid rfl
 have hx:=Ext.refl W
 have hx2:=(Ext.refl W).alloc (.cells x.arr 61)
 go_enter Tryz.func204,Tryz.ntmps204
 go_wp2
 go_ret
 exact ⟨rfl,hx2⟩
set_option maxHeartbeats 16000000 in
set_option maxRecDepth 100000 in
theorem rapply_in (n0:Nat) (hn0:9≤n0) (p:Pv) (T:Int) (ad:Addr) (n c:Nat) (l:List Pf) (w:World) (h:Trs w (some ad) l) (hn:l.length=n) (hb:n≤200) (hp:p.path.size≤1000000) (h1:Tr.find l p.path=some ⟨p.path,T,p.om,p.so⟩) (hT:T=if p.kind=4 then 4 else p.ty):
 CallsIn Fence.wide n0 Tryz.prog 200 #[p.v,.slice (some ad) n c] w (GivesT (Tr.remove l p.gone) w):=by
 have hrm:Tr.remove l p.gone=if l.any (fun x=>Qm.below x.path p.path)=true then ([],15) else (l.filter (fun x=>!Qm.eqB x.path p.path),0):=by
  unfold Tr.remove
  have e1:p.gone.path=p.path:=rfl
  have e2:p.gone.ty=T:=hT.symm
  have e3:p.gone.mode=p.om:=rfl
  have e4:p.gone.data=p.so:=rfl
  rw [e1,h1]
  dsimp only
  rw [e2,e3,e4,if_neg (by simp),if_neg (by rw [Qm.eqB_iff.2 rfl];simp)]
 have HV1:Hid (l.any (fun x=>Qm.below x.path p.path)=true→Tr.remove l p.gone=([],15)):=Lib.hid (fun e=>by rw [hrm,if_pos e])
 have HV0:Hid (l.any (fun x=>Qm.below x.path p.path)=false→Tr.remove l p.gone=(l.filter (fun x=>!Qm.eqB x.path p.path),0)):=Lib.hid (fun e=>by rw [hrm,if_neg (by rw [e];simp)])
 have HF:=Lib.hid (fun W (hW:Ext w W)=>find_any (some ad) n c p.path l W (h.ext hW) hn (by omega))
 have H1:=Lib.hid (found_some h1)
 have HC:=Lib.hid (fun W' (hW:Ext w W')=>tcloneA_any ad n c l W' (h.ext hW) hn (by omega))
 have HQ:=Lib.hid h
 have HN:=Lib.hid hn
 have HGV:=Lib.hid (fun n1 (h1:3≤n1) z=>teach1_gives n1 h1 z (some ad) n c l hn (by omega) (Sweeping w p z (some ad) n c l) (Caught w p l) (fun k W h'=>⟨h'.r4,h.ext h'.ext⟩) (fun k W W' h' hx=>h'.into hx))
 clear h hn h1 hrm
 generalize hA:(some ad:Option Addr)=A at *
 by_cases hk:p.kind=4
 ·have hk':(p.kind == 4)=true:=by simpa using hk
  obtain rfl:T=4:=by rw [hT,if_pos hk]
  clear hT hk
  refine callsIn_of_wp_marks Tryz.func200 rfl trivial ?_ rfl
  simp only [Tryz.ntmps200,List.size_toArray,List.length_cons,List.length_nil,Nat.reduceAdd,Nat.reduceSub,Array.replicate_succ,Array.replicate_zero,List.push_toArray,List.append_toArray,List.nil_append,List.cons_append]
  have hx:=Ext.refl w
  gi_wp2_with (first
   | (refine ⟨trivial,fun _=>(by omega),?_⟩;gi_at_call 183;refine (callsIn_wide.2 (HF.out _ EX)).mono ?_;rintro e w1 ⟨rfl,hx0⟩;rw [H1.out];have hy:=Ext.trans (a:=w) EX hx0;clear hx;have hx:=hy;clear hy;have hn0:=BB hx0 (w.heap.size);have hn1:=BB hx0 (w.heap.size+1);have hn2:=BB hx0 (w.heap.size+1+1);(first | simp [↓heap_drew_at,↓heap_drewN_at,↓heap_alloc_at,↓heap_set_at,ne_two,ne_three,ne_two_left,ne_three_left,↓hb0.eq,hb0.lt,hb0.ne,↓hb1.eq,hb1.lt,hb1.ne,↓hb2.eq,hb2.lt,hb2.ne] at hn0 hn1 hn2 | simp [↓heap_drew_at,↓heap_drewN_at,↓heap_alloc_at,↓heap_set_at,ne_two,ne_three,ne_two_left,ne_three_left] at hn0 hn1 hn2);(try clear hb0 hc0 hf0 hl0);(try clear hb1 hc1 hf1 hl1);(try clear hb2 hc2 hf2 hl2);have hb0:=Blk.mk hn0;clear hn0;obtain ⟨hc0,hf0,hl0⟩:=hb0.all;have hb1:=Blk.mk hn1;clear hn1;obtain ⟨hc1,hf1,hl1⟩:=hb1.all;have hb2:=Blk.mk hn2;clear hn2;obtain ⟨hc2,hf2,hl2⟩:=hb2.all;(try clear hx0))
   | (refine ⟨trivial,fun _=>(by omega),?_⟩;gi_at_call 191;refine (callsIn_wide.2 (teach_same _ _ _ _)).mono ?_;rintro e w1 ⟨rfl,hww⟩;first | obtain rfl:=hww.symm | obtain rfl:=hww))
  have HZ1:Hid (w.heap.size+2 < w1.heap.size):=Lib.hid hl2
  have hz1:w.heap.size≤w1.heap.size:=by omega
  have HB0:Hid (Sweeping w p (w1.heap.size+1) A n c l 0 ((w1.alloc (.cells #[.string p.path,.int .i64 4,.int .i64 p.om,.string p.so] 61)).alloc (.cells #[.slice A n c] 23))):=Lib.hid
   ⟨(hb0.alloc _).alloc _,(hb1.alloc _).alloc _,(hb2.alloc _).alloc _,Blk.new' (by simp),EX,fun j g hj=>absurd hj (Nat.not_lt_zero j)⟩
  clear hx hb0 hc0 hf0 hl0 hb1 hc1 hf1 hl1 hb2 hc2 hf2 hl2 HF H1
  refine wpIn_range_leave (gf:=196) (lb:=#[.pointer (some ⟨w1.heap.size+1,0,none⟩)]) rfl (enters_of Tryz.func196 (by kernel_rfl) rfl) (encs:=fun x:Nat × Pf=>#[.int .i64 x.1,x.2.v]) (HGV.out (n0 - 1) (by omega) (w1.heap.size+1)) (fun _=>rfl)
   (fun k x a' W=>∃ g,Sweeping w p (w1.heap.size+1) A n c l k W∧l[k]?=some x.2∧x.1=k∧k < n∧Blk W g 61 x.2.arr∧a'={ tmps:=#[p.v,.slice A n c,.pointer (some ⟨w.heap.size,0,none⟩),undef,.pointer (some ⟨w.heap.size+1,0,none⟩),.pointer (some ⟨w.heap.size+1+1,0,none⟩),.pointer (some ⟨w1.heap.size,0,none⟩),.bool true,.int .i64 4,undef,.pointer (some ⟨g,0,none⟩),.tuple #[Pf.v ⟨p.path,4,p.om,p.so⟩,.bool true],.slice A n c,.pointer (some ⟨w.heap.size,0,none⟩),.pointer (some ⟨w.heap.size,0,none⟩),.pointer (some ⟨w.heap.size,1,none⟩),.string p.path,.tuple #[Pf.v ⟨p.path,4,p.om,p.so⟩,.bool true],Pf.v ⟨p.path,4,p.om,p.so⟩,.bool true,.pointer (some ⟨w.heap.size,0,none⟩),.pointer (some ⟨w.heap.size,0,none⟩),.pointer (some ⟨w.heap.size,3,none⟩),.int .i64 p.ty,.pointer (some ⟨w.heap.size,0,none⟩),.pointer (some ⟨w.heap.size,0,none⟩),.pointer (some ⟨w.heap.size,0,none⟩),.int .i64 p.kind,.bool true,.bool false,.bool true,.bool false,.bool false,.pointer (some ⟨w1.heap.size,1,none⟩),.int .i64 4,.int .i64 4,.bool false,.bool false,.pointer (some ⟨w1.heap.size,2,none⟩),.int .i64 p.om,.pointer (some ⟨w.heap.size,0,none⟩),.pointer (some ⟨w.heap.size,0,none⟩),.pointer (some ⟨w.heap.size,10,none⟩),.int .i64 p.om,.bool false,.bool false,.pointer (some ⟨w1.heap.size,3,none⟩),.string p.so,.pointer (some ⟨w.heap.size,0,none⟩),.pointer (some ⟨w.heap.size,0,none⟩),.pointer (some ⟨w.heap.size,8,none⟩),.string p.so,.bool false,.bool false,.slice A n c,.func (.func 196) #[] #[.pointer (some ⟨w1.heap.size+1,0,none⟩)],.int .i64 x.1,x.2.v,undef,undef,undef,undef,undef,undef,undef,undef,undef,undef,undef],defers:=[] })
   (fun k=>Sweeping.steady (by simp;omega) k) ?stA (fun k x=>Sweeping.steady (by simp;omega) (k+1)) (Caught.steady (by simp;omega)) HB0.out ?assign ?body ?done ?stop
  case stA=>
   rintro k x a' W W' row ⟨g,h1,h2,h3,h4,h5,h6⟩ hg hr
   exact ⟨g,Sweeping.steady (by simp;omega) k W W' row h1 hg hr,h2,h3,h4,h5.turned ⟨row,hg,fun r e=>(hr r e).2⟩,h6⟩
  case assign=>
   rintro l' k ⟨x1,f⟩ W K ⟨hA,hf,hx1⟩ hK
   have HA:=Lib.hid hA
   have HK:=Lib.hid hK
   have HF:=Lib.hid hf
   have hkn:k < n:=by rw [← HN.out];exact (List.getElem?_eq_some_iff.1 hf).1
   clear hA hK HGV HB0 hf
   dsimp only at hx1
   subst hx1
   gi_wp2
   exact HK.out _ _ ((Ext.refl W).alloc _).keeps ⟨_,HA.out.into ((Ext.refl W).alloc _),HF.out,by simp,hkn,Blk.new' rfl,rfl⟩
  case body=>
   rintro l' k ⟨x1,f⟩ a' W ⟨g,hL,hf,hx1,hkn,hbg,rfl⟩
   clear HGV HB0
   dsimp only at hx1 hf hbg
   subst hx1
   have HL:=Lib.hid hL
   have HF:=Lib.hid hf
   have hcg:=hbg.cell
   have hlg:=hbg.lt
   obtain ⟨hc0,hf0,hl0⟩:=hL.r0.all
   have HZ:Hid (∀ W',Ext W W'→Qm.below f.path p.path=true→KeepsOthers W ((W'.setCell ⟨w.heap.size+1,0,none⟩ (.slice none 0 0)).setCell ⟨w.heap.size+1+1,0,none⟩ (.int .i64 15))∧Caught w p l ((W'.setCell ⟨w.heap.size+1,0,none⟩ (.slice none 0 0)).setCell ⟨w.heap.size+1+1,0,none⟩ (.int .i64 15))):=Lib.hid fun W' hW hbe=>by
    have hL':=HL.out.into hW
    obtain ⟨z1,z2,z3,z4⟩:=two_res (a':=.slice none 0 0) (b':=.int .i64 15) hL'.r1 hL'.r2 (by omega)
    exact ⟨hW.keeps.trans z3,List.any_eq_true.2 ⟨f,List.mem_of_getElem? HF.out,hbe⟩,z1,z2,z4 w hL'.ext (by omega) (by omega)⟩
   have HRF:=Lib.hid (fun W' (hW:Ext W W')=>(⟨(hL.into hW).r1.all,(hL.into hW).r2.all⟩:_∧_))
   clear hL hf hbg
   have hx:=Ext.refl W
   cases he:Qm.below f.path p.path
   ·have HE:=Lib.hid he
    clear he HZ HRF
    gi_wp2_with (refine ⟨trivial,fun _=>(by omega),?_⟩;gi_at_call 203;refine (callsIn_wide.2 (pbelow_any f.path p.path _ (by omega))).mono ?_;rintro e w2 ⟨rfl,hx0⟩;rw [HE.out])
    exact ⟨hx0.keeps,(HL.out.next HF.out HE.out).into hx0⟩
   ·have HE:=Lib.hid he
    clear he
    gi_wp2_with (refine ⟨trivial,fun _=>(by omega),?_⟩;gi_at_call 203;refine (callsIn_wide.2 (pbelow_any f.path p.path _ (by omega))).mono ?_;rintro e w2 ⟨rfl,hx0⟩;rw [HE.out];obtain ⟨⟨hcA,hfA,hlA⟩,⟨hcB,hfB,hlB⟩⟩:=HRF.out _ hx0)
    exact HZ.out _ hx0 HE.out
  case done=>
   intro D W hD hI hK
   have hD2:w.heap.size≤D:=by simp at hD;omega
   have hDl:=(Array.getElem?_eq_some_iff.1 hK).1
   have HV:Hid (Tr.remove l p.gone=(l.filter (fun x=>!Qm.eqB x.path p.path),0)):=Lib.hid (HV0.out (by
    rw [Bool.eq_false_iff]
    intro hany
    obtain ⟨f,hf,hbf⟩:=List.any_eq_true.1 hany
    obtain ⟨j,hj,e⟩:=List.mem_iff_getElem.1 hf
    rw [hI.before j f (by rw [← HN.out];exact hj) (by rw [List.getElem?_eq_getElem hj,e])] at hbf
    cases hbf))
   have HI:=Lib.hid hI
   have HK:=Lib.hid hK
   clear hI hK HGV HB0 hD
   have hx:=HI.out.ext
   gi_wp2_with fail
   refine ⟨trivial,fun _=>(by omega),?_⟩
   refine (callsIn_wide.2 (HC.out _ hx)).mono ?_
   rintro e w2 ⟨g,c',rfl,hgw,hcm,hO,hx2⟩
   have hI2:=HI.out.into hx2
   have HI2:=Lib.hid hI2
   have hws:w.heap.size < W.heap.size:=HI.out.r0.lt
   have HDl:=tdelete_any 204 w.heap.size 104 p.box (fun x=>Qm.eqB x.path p.path) (enters_of Tryz.func204 (by kernel_rfl) rfl) g n c' l w2 hO HN.out (by omega) hI2.r0 (by omega) (fun W x hW=>predr_any w.heap.size p x W hW)
   have HDL:=Lib.hid HDl
   have HX2:=Lib.hid hx2
   have HGW:=Lib.hid hgw
   clear HDl hI2 hO hx2 hx hgw HC
   gi_wp2_with fail
   refine ⟨trivial,fun _=>(by omega),?_⟩
   refine (callsIn_wide.2 HDL.out).mono ?_
   rintro e w3 ⟨m,rfl,hm,hO3,hK3⟩
   have hx3:Ext W w3:=hK3.out.ext W HX2.out HGW.out
   have hI3:=HI.out.into hx3
   have hk3:w3.heap[D]?=some (.deferred (some [])):=by rw [Below.block hx3 D hDl];exact HK.out
   obtain ⟨z1,z2,z3,z4⟩:=two_res (a':=.slice (some ⟨g,0,none⟩) m c') (b':=.int .i64 0) hI3.r1 hI3.r2 (by omega)
   have hk6:=z3.same _ _ hk3 rfl
   have hx6:=(z4 w hI3.ext (by omega) (by omega)).putObj hD2 (.deferred none)
   have ht:=(⟨some D,grownBy_putObj' _ D (.deferred none),fun r e=>by cases e;exact ⟨_,hk6,rfl⟩⟩:Turned _ _)
   have t1:∀ i,World.cell? _ ⟨w.heap.size+1,i,none⟩=_:=(z1.turned ht).cell
   have t2:∀ i,World.cell? _ ⟨w.heap.size+1+1,i,none⟩=_:=(z2.turned ht).cell
   have hO6:OwnT ((w3.setCell ⟨w.heap.size+1,0,none⟩ (.slice (some ⟨g,0,none⟩) m c')).setCell ⟨w.heap.size+1+1,0,none⟩ (.int .i64 0)) g (l.filter fun x=>!Qm.eqB x.path p.path):=by
    have hgg:=HGW.out
    obtain ⟨post,hb⟩:=hO3.out.own
    exact ⟨post,Blk.far (p:=⟨w.heap.size+1+1,0,none⟩) (Blk.far (p:=⟨w.heap.size+1,0,none⟩) hb (by show g≠w.heap.size+1;have:=HI.out.r1.lt;omega) _) (by show g≠w.heap.size+1+1;have:=HI.out.r2.lt;omega) _⟩
   have hO7:OwnT (((w3.setCell ⟨w.heap.size+1,0,none⟩ (.slice (some ⟨g,0,none⟩) m c')).setCell ⟨w.heap.size+1+1,0,none⟩ (.int .i64 0)).putObj D (.deferred none)) g (l.filter fun x=>!Qm.eqB x.path p.path):=by
    obtain ⟨post,hb⟩:=hO6
    exact ⟨post,hb.turned ht⟩
   have HT1:=Lib.hid t1
   have HT2:=Lib.hid t2
   have HX6:=Lib.hid hx6
   have HK6:=Lib.hid hk6
   have HO7:=Lib.hid hO7
   have HM:=Lib.hid hm
   obtain ⟨hcA,hfA,hlA⟩:=hI3.r1.all
   obtain ⟨hcB,hfB,hlB⟩:=hI3.r2.all
   clear hx3 hI3 hk3 z1 z2 z3 z4 hk6 hx6 ht t1 t2 hO6 hO7 hO3 hK3 HDL HI2 hm
   gi_wp2_with fail
   clear hcA hfA hlA hcB hfB hlB
   refine ⟨by simp,.inl ⟨_,_,rfl,run_takeDeferred HK6.out,?_⟩⟩
   refine ⟨.tuple #[.slice (some ⟨g,0,none⟩) m c',.int .i64 0],?_,?_⟩
   ·have t1:=HT1.out
    have t2:=HT2.out
    clear HX6 HK6 HO7
    simp only [results,Tryz.results200]
    go_simp
    first | done | exact ⟨rfl,rfl⟩ | exact ⟨rfl,rfl,rfl⟩
   ·rw [HV.out]
    exact ⟨_,_,_,rfl,HM.out,Lib.hid ⟨HO7.out.trs,fun a ha=>by cases ha;have:=HGW.out;show w.heap.size≤g;omega⟩,HX6.out⟩
  case stop=>
   intro D W hD hX hK
   obtain ⟨hany,r1,r2,hx⟩:=hX
   have HK:=Lib.hid hK
   have ht:Turned W (W.putObj D (.deferred none)):=⟨some D,grownBy_putObj' W D _,fun r e=>by cases e;exact ⟨_,HK.out,rfl⟩⟩
   have t1:∀ i,(W.putObj D (.deferred none)).cell? ⟨w.heap.size+1,i,none⟩=_:=(r1.turned ht).cell
   have t2:∀ i,(W.putObj D (.deferred none)).cell? ⟨w.heap.size+1+1,i,none⟩=_:=(r2.turned ht).cell
   have HX:=Lib.hid (hx.putObj (D:=D) (by simp at hD;omega) (.deferred none))
   have HV:Hid (Tr.remove l p.gone=([],15)):=Lib.hid (HV1.out hany)
   clear ht r1 r2 hx hany hK HGV HB0
   gi_wp2_with fail
   refine ⟨by simp,.inl ⟨_,_,rfl,run_takeDeferred HK.out,?_⟩⟩
   refine ⟨.tuple #[.slice none 0 0,.int .i64 15],?_,?_⟩
   ·simp only [results,Tryz.results200]
    go_simp
   ·rw [HV.out]
    exact GivesT.none HX.out
 ·have hk':(p.kind == 4)=false:=by simpa using hk
  obtain rfl:T=p.ty:=by rw [hT,if_neg hk]
  clear hT hk
  refine callsIn_of_wp_marks Tryz.func200 rfl trivial ?_ rfl
  simp only [Tryz.ntmps200,List.size_toArray,List.length_cons,List.length_nil,Nat.reduceAdd,Nat.reduceSub,Array.replicate_succ,Array.replicate_zero,List.push_toArray,List.append_toArray,List.nil_append,List.cons_append]
  have hx:=Ext.refl w
  gi_wp2_with (first
   | (refine ⟨trivial,fun _=>(by omega),?_⟩;gi_at_call 183;refine (callsIn_wide.2 (HF.out _ EX)).mono ?_;rintro e w1 ⟨rfl,hx0⟩;rw [H1.out];have hy:=Ext.trans (a:=w) EX hx0;clear hx;have hx:=hy;clear hy;have hn0:=BB hx0 (w.heap.size);have hn1:=BB hx0 (w.heap.size+1);have hn2:=BB hx0 (w.heap.size+1+1);(first | simp [↓heap_drew_at,↓heap_drewN_at,↓heap_alloc_at,↓heap_set_at,ne_two,ne_three,ne_two_left,ne_three_left,↓hb0.eq,hb0.lt,hb0.ne,↓hb1.eq,hb1.lt,hb1.ne,↓hb2.eq,hb2.lt,hb2.ne] at hn0 hn1 hn2 | simp [↓heap_drew_at,↓heap_drewN_at,↓heap_alloc_at,↓heap_set_at,ne_two,ne_three,ne_two_left,ne_three_left] at hn0 hn1 hn2);(try clear hb0 hc0 hf0 hl0);(try clear hb1 hc1 hf1 hl1);(try clear hb2 hc2 hf2 hl2);have hb0:=Blk.mk hn0;clear hn0;obtain ⟨hc0,hf0,hl0⟩:=hb0.all;have hb1:=Blk.mk hn1;clear hn1;obtain ⟨hc1,hf1,hl1⟩:=hb1.all;have hb2:=Blk.mk hn2;clear hn2;obtain ⟨hc2,hf2,hl2⟩:=hb2.all;(try clear hx0))
   | (refine ⟨trivial,fun _=>(by omega),?_⟩;gi_at_call 191;refine (callsIn_wide.2 (teach_same _ _ _ _)).mono ?_;rintro e w1 ⟨rfl,hww⟩;first | obtain rfl:=hww.symm | obtain rfl:=hww))
  have HZ1:Hid (w.heap.size+2 < w1.heap.size):=Lib.hid hl2
  have hz1:w.heap.size≤w1.heap.size:=by omega
  have HB0:Hid (Sweeping w p (w1.heap.size+1) A n c l 0 ((w1.alloc (.cells #[.string p.path,.int .i64 p.ty,.int .i64 p.om,.string p.so] 61)).alloc (.cells #[.slice A n c] 23))):=Lib.hid
   ⟨(hb0.alloc _).alloc _,(hb1.alloc _).alloc _,(hb2.alloc _).alloc _,Blk.new' (by simp),EX,fun j g hj=>absurd hj (Nat.not_lt_zero j)⟩
  clear hx hb0 hc0 hf0 hl0 hb1 hc1 hf1 hl1 hb2 hc2 hf2 hl2 HF H1
  refine wpIn_range_leave (gf:=196) (lb:=#[.pointer (some ⟨w1.heap.size+1,0,none⟩)]) rfl (enters_of Tryz.func196 (by kernel_rfl) rfl) (encs:=fun x:Nat × Pf=>#[.int .i64 x.1,x.2.v]) (HGV.out (n0 - 1) (by omega) (w1.heap.size+1)) (fun _=>rfl)
   (fun k x a' W=>∃ g,Sweeping w p (w1.heap.size+1) A n c l k W∧l[k]?=some x.2∧x.1=k∧k < n∧Blk W g 61 x.2.arr∧a'={ tmps:=#[p.v,.slice A n c,.pointer (some ⟨w.heap.size,0,none⟩),undef,.pointer (some ⟨w.heap.size+1,0,none⟩),.pointer (some ⟨w.heap.size+1+1,0,none⟩),.pointer (some ⟨w1.heap.size,0,none⟩),.bool true,.int .i64 p.ty,undef,.pointer (some ⟨g,0,none⟩),.tuple #[Pf.v ⟨p.path,p.ty,p.om,p.so⟩,.bool true],.slice A n c,.pointer (some ⟨w.heap.size,0,none⟩),.pointer (some ⟨w.heap.size,0,none⟩),.pointer (some ⟨w.heap.size,1,none⟩),.string p.path,.tuple #[Pf.v ⟨p.path,p.ty,p.om,p.so⟩,.bool true],Pf.v ⟨p.path,p.ty,p.om,p.so⟩,.bool true,.pointer (some ⟨w.heap.size,0,none⟩),.pointer (some ⟨w.heap.size,0,none⟩),.pointer (some ⟨w.heap.size,3,none⟩),.int .i64 p.ty,.pointer (some ⟨w.heap.size,0,none⟩),.pointer (some ⟨w.heap.size,0,none⟩),.pointer (some ⟨w.heap.size,0,none⟩),.int .i64 p.kind,.bool false,.bool false,.bool true,.bool false,.bool false,.pointer (some ⟨w1.heap.size,1,none⟩),.int .i64 p.ty,.int .i64 p.ty,.bool false,.bool false,.pointer (some ⟨w1.heap.size,2,none⟩),.int .i64 p.om,.pointer (some ⟨w.heap.size,0,none⟩),.pointer (some ⟨w.heap.size,0,none⟩),.pointer (some ⟨w.heap.size,10,none⟩),.int .i64 p.om,.bool false,.bool false,.pointer (some ⟨w1.heap.size,3,none⟩),.string p.so,.pointer (some ⟨w.heap.size,0,none⟩),.pointer (some ⟨w.heap.size,0,none⟩),.pointer (some ⟨w.heap.size,8,none⟩),.string p.so,.bool false,.bool false,.slice A n c,.func (.func 196) #[] #[.pointer (some ⟨w1.heap.size+1,0,none⟩)],.int .i64 x.1,x.2.v,undef,undef,undef,undef,undef,undef,undef,undef,undef,undef,undef],defers:=[] })
   (fun k=>Sweeping.steady (by simp;omega) k) ?stA (fun k x=>Sweeping.steady (by simp;omega) (k+1)) (Caught.steady (by simp;omega)) HB0.out ?assign ?body ?done ?stop
  case stA=>
   rintro k x a' W W' row ⟨g,h1,h2,h3,h4,h5,h6⟩ hg hr
   exact ⟨g,Sweeping.steady (by simp;omega) k W W' row h1 hg hr,h2,h3,h4,h5.turned ⟨row,hg,fun r e=>(hr r e).2⟩,h6⟩
  case assign=>
   rintro l' k ⟨x1,f⟩ W K ⟨hA,hf,hx1⟩ hK
   have HA:=Lib.hid hA
   have HK:=Lib.hid hK
   have HF:=Lib.hid hf
   have hkn:k < n:=by rw [← HN.out];exact (List.getElem?_eq_some_iff.1 hf).1
   clear hA hK HGV HB0 hf
   dsimp only at hx1
   subst hx1
   gi_wp2
   exact HK.out _ _ ((Ext.refl W).alloc _).keeps ⟨_,HA.out.into ((Ext.refl W).alloc _),HF.out,by simp,hkn,Blk.new' rfl,rfl⟩
  case body=>
   rintro l' k ⟨x1,f⟩ a' W ⟨g,hL,hf,hx1,hkn,hbg,rfl⟩
   clear HGV HB0
   dsimp only at hx1 hf hbg
   subst hx1
   have HL:=Lib.hid hL
   have HF:=Lib.hid hf
   have hcg:=hbg.cell
   have hlg:=hbg.lt
   obtain ⟨hc0,hf0,hl0⟩:=hL.r0.all
   have HZ:Hid (∀ W',Ext W W'→Qm.below f.path p.path=true→KeepsOthers W ((W'.setCell ⟨w.heap.size+1,0,none⟩ (.slice none 0 0)).setCell ⟨w.heap.size+1+1,0,none⟩ (.int .i64 15))∧Caught w p l ((W'.setCell ⟨w.heap.size+1,0,none⟩ (.slice none 0 0)).setCell ⟨w.heap.size+1+1,0,none⟩ (.int .i64 15))):=Lib.hid fun W' hW hbe=>by
    have hL':=HL.out.into hW
    obtain ⟨z1,z2,z3,z4⟩:=two_res (a':=.slice none 0 0) (b':=.int .i64 15) hL'.r1 hL'.r2 (by omega)
    exact ⟨hW.keeps.trans z3,List.any_eq_true.2 ⟨f,List.mem_of_getElem? HF.out,hbe⟩,z1,z2,z4 w hL'.ext (by omega) (by omega)⟩
   have HRF:=Lib.hid (fun W' (hW:Ext W W')=>(⟨(hL.into hW).r1.all,(hL.into hW).r2.all⟩:_∧_))
   clear hL hf hbg
   have hx:=Ext.refl W
   cases he:Qm.below f.path p.path
   ·have HE:=Lib.hid he
    clear he HZ HRF
    gi_wp2_with (refine ⟨trivial,fun _=>(by omega),?_⟩;gi_at_call 203;refine (callsIn_wide.2 (pbelow_any f.path p.path _ (by omega))).mono ?_;rintro e w2 ⟨rfl,hx0⟩;rw [HE.out])
    exact ⟨hx0.keeps,(HL.out.next HF.out HE.out).into hx0⟩
   ·have HE:=Lib.hid he
    clear he
    gi_wp2_with (refine ⟨trivial,fun _=>(by omega),?_⟩;gi_at_call 203;refine (callsIn_wide.2 (pbelow_any f.path p.path _ (by omega))).mono ?_;rintro e w2 ⟨rfl,hx0⟩;rw [HE.out];obtain ⟨⟨hcA,hfA,hlA⟩,⟨hcB,hfB,hlB⟩⟩:=HRF.out _ hx0)
    exact HZ.out _ hx0 HE.out
  case done=>
   intro D W hD hI hK
   have hD2:w.heap.size≤D:=by simp at hD;omega
   have hDl:=(Array.getElem?_eq_some_iff.1 hK).1
   have HV:Hid (Tr.remove l p.gone=(l.filter (fun x=>!Qm.eqB x.path p.path),0)):=Lib.hid (HV0.out (by
    rw [Bool.eq_false_iff]
    intro hany
    obtain ⟨f,hf,hbf⟩:=List.any_eq_true.1 hany
    obtain ⟨j,hj,e⟩:=List.mem_iff_getElem.1 hf
    rw [hI.before j f (by rw [← HN.out];exact hj) (by rw [List.getElem?_eq_getElem hj,e])] at hbf
    cases hbf))
   have HI:=Lib.hid hI
   have HK:=Lib.hid hK
   clear hI hK HGV HB0 hD
   have hx:=HI.out.ext
   gi_wp2_with fail
   refine ⟨trivial,fun _=>(by omega),?_⟩
   refine (callsIn_wide.2 (HC.out _ hx)).mono ?_
   rintro e w2 ⟨g,c',rfl,hgw,hcm,hO,hx2⟩
   have hI2:=HI.out.into hx2
   have HI2:=Lib.hid hI2
   have hws:w.heap.size < W.heap.size:=HI.out.r0.lt
   have HDl:=tdelete_any 204 w.heap.size 104 p.box (fun x=>Qm.eqB x.path p.path) (enters_of Tryz.func204 (by kernel_rfl) rfl) g n c' l w2 hO HN.out (by omega) hI2.r0 (by omega) (fun W x hW=>predr_any w.heap.size p x W hW)
   have HDL:=Lib.hid HDl
   have HX2:=Lib.hid hx2
   have HGW:=Lib.hid hgw
   clear HDl hI2 hO hx2 hx hgw HC
   gi_wp2_with fail
   refine ⟨trivial,fun _=>(by omega),?_⟩
   refine (callsIn_wide.2 HDL.out).mono ?_
   rintro e w3 ⟨m,rfl,hm,hO3,hK3⟩
   have hx3:Ext W w3:=hK3.out.ext W HX2.out HGW.out
   have hI3:=HI.out.into hx3
   have hk3:w3.heap[D]?=some (.deferred (some [])):=by rw [Below.block hx3 D hDl];exact HK.out
   obtain ⟨z1,z2,z3,z4⟩:=two_res (a':=.slice (some ⟨g,0,none⟩) m c') (b':=.int .i64 0) hI3.r1 hI3.r2 (by omega)
   have hk6:=z3.same _ _ hk3 rfl
   have hx6:=(z4 w hI3.ext (by omega) (by omega)).putObj hD2 (.deferred none)
   have ht:=(⟨some D,grownBy_putObj' _ D (.deferred none),fun r e=>by cases e;exact ⟨_,hk6,rfl⟩⟩:Turned _ _)
   have t1:∀ i,World.cell? _ ⟨w.heap.size+1,i,none⟩=_:=(z1.turned ht).cell
   have t2:∀ i,World.cell? _ ⟨w.heap.size+1+1,i,none⟩=_:=(z2.turned ht).cell
   have hO6:OwnT ((w3.setCell ⟨w.heap.size+1,0,none⟩ (.slice (some ⟨g,0,none⟩) m c')).setCell ⟨w.heap.size+1+1,0,none⟩ (.int .i64 0)) g (l.filter fun x=>!Qm.eqB x.path p.path):=by
    have hgg:=HGW.out
    obtain ⟨post,hb⟩:=hO3.out.own
    exact ⟨post,Blk.far (p:=⟨w.heap.size+1+1,0,none⟩) (Blk.far (p:=⟨w.heap.size+1,0,none⟩) hb (by show g≠w.heap.size+1;have:=HI.out.r1.lt;omega) _) (by show g≠w.heap.size+1+1;have:=HI.out.r2.lt;omega) _⟩
   have hO7:OwnT (((w3.setCell ⟨w.heap.size+1,0,none⟩ (.slice (some ⟨g,0,none⟩) m c')).setCell ⟨w.heap.size+1+1,0,none⟩ (.int .i64 0)).putObj D (.deferred none)) g (l.filter fun x=>!Qm.eqB x.path p.path):=by
    obtain ⟨post,hb⟩:=hO6
    exact ⟨post,hb.turned ht⟩
   have HT1:=Lib.hid t1
   have HT2:=Lib.hid t2
   have HX6:=Lib.hid hx6
   have HK6:=Lib.hid hk6
   have HO7:=Lib.hid hO7
   have HM:=Lib.hid hm
   obtain ⟨hcA,hfA,hlA⟩:=hI3.r1.all
   obtain ⟨hcB,hfB,hlB⟩:=hI3.r2.all
   clear hx3 hI3 hk3 z1 z2 z3 z4 hk6 hx6 ht t1 t2 hO6 hO7 hO3 hK3 HDL HI2 hm
   gi_wp2_with fail
   clear hcA hfA hlA hcB hfB hlB
   refine ⟨by simp,.inl ⟨_,_,rfl,run_takeDeferred HK6.out,?_⟩⟩
   refine ⟨.tuple #[.slice (some ⟨g,0,none⟩) m c',.int .i64 0],?_,?_⟩
   ·have t1:=HT1.out
    have t2:=HT2.out
    clear HX6 HK6 HO7
    simp only [results,Tryz.results200]
    go_simp
    first | done | exact ⟨rfl,rfl⟩ | exact ⟨rfl,rfl,rfl⟩
   ·rw [HV.out]
    exact ⟨_,_,_,rfl,HM.out,Lib.hid ⟨HO7.out.trs,fun a ha=>by cases ha;have:=HGW.out;show w.heap.size≤g;omega⟩,HX6.out⟩
  case stop=>
   intro D W hD hX hK
   obtain ⟨hany,r1,r2,hx⟩:=hX
   have HK:=Lib.hid hK
   have ht:Turned W (W.putObj D (.deferred none)):=⟨some D,grownBy_putObj' W D _,fun r e=>by cases e;exact ⟨_,HK.out,rfl⟩⟩
   have t1:∀ i,(W.putObj D (.deferred none)).cell? ⟨w.heap.size+1,i,none⟩=_:=(r1.turned ht).cell
   have t2:∀ i,(W.putObj D (.deferred none)).cell? ⟨w.heap.size+1+1,i,none⟩=_:=(r2.turned ht).cell
   have HX:=Lib.hid (hx.putObj (D:=D) (by simp at hD;omega) (.deferred none))
   have HV:Hid (Tr.remove l p.gone=([],15)):=Lib.hid (HV1.out hany)
   clear ht r1 r2 hx hany hK HGV HB0
   gi_wp2_with fail
   refine ⟨by simp,.inl ⟨_,_,rfl,run_takeDeferred HK.out,?_⟩⟩
   refine ⟨.tuple #[.slice none 0 0,.int .i64 15],?_,?_⟩
   ·simp only [results,Tryz.results200]
    go_simp
   ·rw [HV.out]
    exact GivesT.none HX.out
theorem rapply_some (p:Pv) (A:Option Addr) (n c:Nat) (l:List Pf) (w:World) (h:Trs w A l) (hn:l.length=n) (hb:n≤200) (hp:p.path.size≤1000000) (h1:Tr.find l p.path=some p.gone):
 Calls Tryz.prog 200 #[p.v,.slice A n c] w (GivesT (Tr.remove l p.gone) w):=by
 obtain ⟨b,o,rfl,_⟩:=h (List.length_pos_of_mem (List.mem_of_find?_eq_some h1))
 exact (callsIn_wide (n:=9)).1 (rapply_in 9 (Nat.le_refl _) p _ ⟨b,o,none⟩ n c l w h hn hb hp h1 rfl)
set_option maxHeartbeats 16000000 in
set_option maxRecDepth 100000 in
theorem rapply_none (p:Pv) (A:Option Addr) (n c:Nat) (l:List Pf) (w:World) (h:Trs w A l) (hn:l.length=n) (hb:n≤200) (h1:Tr.find l p.path=none):
 Calls Tryz.prog 200 #[p.v,.slice A n c] w (GivesT ([],7) w):=by
 have HF:=Lib.hid (fun W (hW:Ext w W)=>find_any A n c p.path l W (h.ext hW) hn (by omega))
 have H1:=Lib.hid (found_none h1)
 clear h1
 clear h hn
 by_cases hk:p.kind=4
 ·have hk':(p.kind == 4)=true:=by simpa using hk
  clear hk
  go_enter Tryz.func200,Tryz.ntmps200
  have hx:=Ext.refl w
  go_wp2_with (go_at_call 183;refine (HF.out _ EX).mono ?_;rintro e w1 ⟨rfl,hx0⟩;rw [H1.out];have hy:=Ext.trans (a:=w) EX hx0;clear hx;have hx:=hy;clear hy;have hn0:=BB hx0 (w.heap.size);have hn1:=BB hx0 (w.heap.size+1);have hn2:=BB hx0 (w.heap.size+1+1);(first | simp [↓heap_drew_at,↓heap_drewN_at,↓heap_alloc_at,↓heap_set_at,ne_two,ne_three,ne_two_left,ne_three_left,↓hb0.eq,hb0.lt,hb0.ne,↓hb1.eq,hb1.lt,hb1.ne,↓hb2.eq,hb2.lt,hb2.ne] at hn0 hn1 hn2 | simp [↓heap_drew_at,↓heap_drewN_at,↓heap_alloc_at,↓heap_set_at,ne_two,ne_three,ne_two_left,ne_three_left] at hn0 hn1 hn2);(try clear hb0 hc0 hf0 hl0);(try clear hb1 hc1 hf1 hl1);(try clear hb2 hc2 hf2 hl2);have hb0:=Blk.mk hn0;clear hn0;obtain ⟨hc0,hf0,hl0⟩:=hb0.all;have hb1:=Blk.mk hn1;clear hn1;obtain ⟨hc1,hf1,hl1⟩:=hb1.all;have hb2:=Blk.mk hn2;clear hn2;obtain ⟨hc2,hf2,hl2⟩:=hb2.all;(try clear hx0))
  all_goals (refine bodyPost_ret (v:=.tuple #[.slice none 0 0,.int .i64 7]) (by simp only [results,Tryz.results200];go_simp) rfl ?_;exact GivesT.none EX)
 ·have hk':(p.kind == 4)=false:=by simpa using hk
  clear hk
  go_enter Tryz.func200,Tryz.ntmps200
  have hx:=Ext.refl w
  go_wp2_with (go_at_call 183;refine (HF.out _ EX).mono ?_;rintro e w1 ⟨rfl,hx0⟩;rw [H1.out];have hy:=Ext.trans (a:=w) EX hx0;clear hx;have hx:=hy;clear hy;have hn0:=BB hx0 (w.heap.size);have hn1:=BB hx0 (w.heap.size+1);have hn2:=BB hx0 (w.heap.size+1+1);(first | simp [↓heap_drew_at,↓heap_drewN_at,↓heap_alloc_at,↓heap_set_at,ne_two,ne_three,ne_two_left,ne_three_left,↓hb0.eq,hb0.lt,hb0.ne,↓hb1.eq,hb1.lt,hb1.ne,↓hb2.eq,hb2.lt,hb2.ne] at hn0 hn1 hn2 | simp [↓heap_drew_at,↓heap_drewN_at,↓heap_alloc_at,↓heap_set_at,ne_two,ne_three,ne_two_left,ne_three_left] at hn0 hn1 hn2);(try clear hb0 hc0 hf0 hl0);(try clear hb1 hc1 hf1 hl1);(try clear hb2 hc2 hf2 hl2);have hb0:=Blk.mk hn0;clear hn0;obtain ⟨hc0,hf0,hl0⟩:=hb0.all;have hb1:=Blk.mk hn1;clear hn1;obtain ⟨hc1,hf1,hl1⟩:=hb1.all;have hb2:=Blk.mk hn2;clear hn2;obtain ⟨hc2,hf2,hl2⟩:=hb2.all;(try clear hx0))
  all_goals (refine bodyPost_ret (v:=.tuple #[.slice none 0 0,.int .i64 7]) (by simp only [results,Tryz.results200];go_simp) rfl ?_;exact GivesT.none EX)
set_option maxHeartbeats 16000000 in
set_option maxRecDepth 100000 in
theorem rapply_kind (p:Pv) (A:Option Addr) (n c:Nat) (l:List Pf) (w:World) (h:Trs w A l) (hn:l.length=n) (hb:n≤200) (f:Pf) (h1:Tr.find l p.path=some f) (h2:f.ty≠p.gone.ty):
 Calls Tryz.prog 200 #[p.v,.slice A n c] w (GivesT ([],8) w):=by
 have HF:=Lib.hid (fun W (hW:Ext w W)=>find_any A n c p.path l W (h.ext hW) hn (by omega))
 have H1:=Lib.hid (found_some h1)
 clear h1
 clear h hn
 by_cases hk:p.kind=4
 ·have hk':(p.kind == 4)=true:=by simpa using hk
  have ht:(f.ty != 4)=true:=by have :=h2;unfold Pv.gone at this;rw [if_pos hk] at this;simpa using this
  clear hk h2
  go_enter Tryz.func200,Tryz.ntmps200
  have hx:=Ext.refl w
  go_wp2_with (go_at_call 183;refine (HF.out _ EX).mono ?_;rintro e w1 ⟨rfl,hx0⟩;rw [H1.out];have hy:=Ext.trans (a:=w) EX hx0;clear hx;have hx:=hy;clear hy;have hn0:=BB hx0 (w.heap.size);have hn1:=BB hx0 (w.heap.size+1);have hn2:=BB hx0 (w.heap.size+1+1);(first | simp [↓heap_drew_at,↓heap_drewN_at,↓heap_alloc_at,↓heap_set_at,ne_two,ne_three,ne_two_left,ne_three_left,↓hb0.eq,hb0.lt,hb0.ne,↓hb1.eq,hb1.lt,hb1.ne,↓hb2.eq,hb2.lt,hb2.ne] at hn0 hn1 hn2 | simp [↓heap_drew_at,↓heap_drewN_at,↓heap_alloc_at,↓heap_set_at,ne_two,ne_three,ne_two_left,ne_three_left] at hn0 hn1 hn2);(try clear hb0 hc0 hf0 hl0);(try clear hb1 hc1 hf1 hl1);(try clear hb2 hc2 hf2 hl2);have hb0:=Blk.mk hn0;clear hn0;obtain ⟨hc0,hf0,hl0⟩:=hb0.all;have hb1:=Blk.mk hn1;clear hn1;obtain ⟨hc1,hf1,hl1⟩:=hb1.all;have hb2:=Blk.mk hn2;clear hn2;obtain ⟨hc2,hf2,hl2⟩:=hb2.all;(try clear hx0))
  all_goals (refine bodyPost_ret (v:=.tuple #[.slice none 0 0,.int .i64 8]) (by simp only [results,Tryz.results200];go_simp) rfl ?_;exact GivesT.none EX)
 ·have hk':(p.kind == 4)=false:=by simpa using hk
  have ht:(f.ty != p.ty)=true:=by have :=h2;unfold Pv.gone at this;rw [if_neg hk] at this;simpa using this
  clear hk h2
  go_enter Tryz.func200,Tryz.ntmps200
  have hx:=Ext.refl w
  go_wp2_with (go_at_call 183;refine (HF.out _ EX).mono ?_;rintro e w1 ⟨rfl,hx0⟩;rw [H1.out];have hy:=Ext.trans (a:=w) EX hx0;clear hx;have hx:=hy;clear hy;have hn0:=BB hx0 (w.heap.size);have hn1:=BB hx0 (w.heap.size+1);have hn2:=BB hx0 (w.heap.size+1+1);(first | simp [↓heap_drew_at,↓heap_drewN_at,↓heap_alloc_at,↓heap_set_at,ne_two,ne_three,ne_two_left,ne_three_left,↓hb0.eq,hb0.lt,hb0.ne,↓hb1.eq,hb1.lt,hb1.ne,↓hb2.eq,hb2.lt,hb2.ne] at hn0 hn1 hn2 | simp [↓heap_drew_at,↓heap_drewN_at,↓heap_alloc_at,↓heap_set_at,ne_two,ne_three,ne_two_left,ne_three_left] at hn0 hn1 hn2);(try clear hb0 hc0 hf0 hl0);(try clear hb1 hc1 hf1 hl1);(try clear hb2 hc2 hf2 hl2);have hb0:=Blk.mk hn0;clear hn0;obtain ⟨hc0,hf0,hl0⟩:=hb0.all;have hb1:=Blk.mk hn1;clear hn1;obtain ⟨hc1,hf1,hl1⟩:=hb1.all;have hb2:=Blk.mk hn2;clear hn2;obtain ⟨hc2,hf2,hl2⟩:=hb2.all;(try clear hx0))
  all_goals (refine bodyPost_ret (v:=.tuple #[.slice none 0 0,.int .i64 8]) (by simp only [results,Tryz.results200];go_simp) rfl ?_;exact GivesT.none EX)
set_option maxHeartbeats 16000000 in
set_option maxRecDepth 100000 in
theorem rapply_mode (p:Pv) (A:Option Addr) (n c:Nat) (l:List Pf) (w:World) (h:Trs w A l) (hn:l.length=n) (hb:n≤200) (f:Pf) (h1:Tr.find l p.path=some f) (h2:f.ty=p.gone.ty) (h3:(f.mode != p.om)=true):
 Calls Tryz.prog 200 #[p.v,.slice A n c] w (GivesT ([],15) w):=by
 have HF:=Lib.hid (fun W (hW:Ext w W)=>find_any A n c p.path l W (h.ext hW) hn (by omega))
 have H1:=Lib.hid (found_some h1)
 clear h1
 clear h hn
 by_cases hk:p.kind=4
 ·have hk':(p.kind == 4)=true:=by simpa using hk
  have ht:(f.ty != 4)=false:=by have :=h2;unfold Pv.gone at this;rw [if_pos hk] at this;simpa using this
  clear hk h2
  go_enter Tryz.func200,Tryz.ntmps200
  have hx:=Ext.refl w
  go_wp2_with (go_at_call 183;refine (HF.out _ EX).mono ?_;rintro e w1 ⟨rfl,hx0⟩;rw [H1.out];have hy:=Ext.trans (a:=w) EX hx0;clear hx;have hx:=hy;clear hy;have hn0:=BB hx0 (w.heap.size);have hn1:=BB hx0 (w.heap.size+1);have hn2:=BB hx0 (w.heap.size+1+1);(first | simp [↓heap_drew_at,↓heap_drewN_at,↓heap_alloc_at,↓heap_set_at,ne_two,ne_three,ne_two_left,ne_three_left,↓hb0.eq,hb0.lt,hb0.ne,↓hb1.eq,hb1.lt,hb1.ne,↓hb2.eq,hb2.lt,hb2.ne] at hn0 hn1 hn2 | simp [↓heap_drew_at,↓heap_drewN_at,↓heap_alloc_at,↓heap_set_at,ne_two,ne_three,ne_two_left,ne_three_left] at hn0 hn1 hn2);(try clear hb0 hc0 hf0 hl0);(try clear hb1 hc1 hf1 hl1);(try clear hb2 hc2 hf2 hl2);have hb0:=Blk.mk hn0;clear hn0;obtain ⟨hc0,hf0,hl0⟩:=hb0.all;have hb1:=Blk.mk hn1;clear hn1;obtain ⟨hc1,hf1,hl1⟩:=hb1.all;have hb2:=Blk.mk hn2;clear hn2;obtain ⟨hc2,hf2,hl2⟩:=hb2.all;(try clear hx0))
  all_goals (refine bodyPost_ret (v:=.tuple #[.slice none 0 0,.int .i64 15]) (by simp only [results,Tryz.results200];go_simp) rfl ?_;exact GivesT.none EX)
 ·have hk':(p.kind == 4)=false:=by simpa using hk
  have ht:(f.ty != p.ty)=false:=by have :=h2;unfold Pv.gone at this;rw [if_neg hk] at this;simpa using this
  clear hk h2
  go_enter Tryz.func200,Tryz.ntmps200
  have hx:=Ext.refl w
  go_wp2_with (go_at_call 183;refine (HF.out _ EX).mono ?_;rintro e w1 ⟨rfl,hx0⟩;rw [H1.out];have hy:=Ext.trans (a:=w) EX hx0;clear hx;have hx:=hy;clear hy;have hn0:=BB hx0 (w.heap.size);have hn1:=BB hx0 (w.heap.size+1);have hn2:=BB hx0 (w.heap.size+1+1);(first | simp [↓heap_drew_at,↓heap_drewN_at,↓heap_alloc_at,↓heap_set_at,ne_two,ne_three,ne_two_left,ne_three_left,↓hb0.eq,hb0.lt,hb0.ne,↓hb1.eq,hb1.lt,hb1.ne,↓hb2.eq,hb2.lt,hb2.ne] at hn0 hn1 hn2 | simp [↓heap_drew_at,↓heap_drewN_at,↓heap_alloc_at,↓heap_set_at,ne_two,ne_three,ne_two_left,ne_three_left] at hn0 hn1 hn2);(try clear hb0 hc0 hf0 hl0);(try clear hb1 hc1 hf1 hl1);(try clear hb2 hc2 hf2 hl2);have hb0:=Blk.mk hn0;clear hn0;obtain ⟨hc0,hf0,hl0⟩:=hb0.all;have hb1:=Blk.mk hn1;clear hn1;obtain ⟨hc1,hf1,hl1⟩:=hb1.all;have hb2:=Blk.mk hn2;clear hn2;obtain ⟨hc2,hf2,hl2⟩:=hb2.all;(try clear hx0))
  all_goals (refine bodyPost_ret (v:=.tuple #[.slice none 0 0,.int .i64 15]) (by simp only [results,Tryz.results200];go_simp) rfl ?_;exact GivesT.none EX)
set_option maxHeartbeats 16000000 in
set_option maxRecDepth 100000 in
theorem rapply_data (p:Pv) (A:Option Addr) (n c:Nat) (l:List Pf) (w:World) (h:Trs w A l) (hn:l.length=n) (hb:n≤200) (f:Pf) (h1:Tr.find l p.path=some f) (h2:f.ty=p.gone.ty) (h3:(f.mode != p.om)=false) (h4:(f.data.toList == p.so.toList)=false):
 Calls Tryz.prog 200 #[p.v,.slice A n c] w (GivesT ([],15) w):=by
 have HF:=Lib.hid (fun W (hW:Ext w W)=>find_any A n c p.path l W (h.ext hW) hn (by omega))
 have H1:=Lib.hid (found_some h1)
 clear h1
 clear h hn
 by_cases hk:p.kind=4
 ·have hk':(p.kind == 4)=true:=by simpa using hk
  have ht:(f.ty != 4)=false:=by have :=h2;unfold Pv.gone at this;rw [if_pos hk] at this;simpa using this
  clear hk h2
  go_enter Tryz.func200,Tryz.ntmps200
  have hx:=Ext.refl w
  go_wp2_with (go_at_call 183;refine (HF.out _ EX).mono ?_;rintro e w1 ⟨rfl,hx0⟩;rw [H1.out];have hy:=Ext.trans (a:=w) EX hx0;clear hx;have hx:=hy;clear hy;have hn0:=BB hx0 (w.heap.size);have hn1:=BB hx0 (w.heap.size+1);have hn2:=BB hx0 (w.heap.size+1+1);(first | simp [↓heap_drew_at,↓heap_drewN_at,↓heap_alloc_at,↓heap_set_at,ne_two,ne_three,ne_two_left,ne_three_left,↓hb0.eq,hb0.lt,hb0.ne,↓hb1.eq,hb1.lt,hb1.ne,↓hb2.eq,hb2.lt,hb2.ne] at hn0 hn1 hn2 | simp [↓heap_drew_at,↓heap_drewN_at,↓heap_alloc_at,↓heap_set_at,ne_two,ne_three,ne_two_left,ne_three_left] at hn0 hn1 hn2);(try clear hb0 hc0 hf0 hl0);(try clear hb1 hc1 hf1 hl1);(try clear hb2 hc2 hf2 hl2);have hb0:=Blk.mk hn0;clear hn0;obtain ⟨hc0,hf0,hl0⟩:=hb0.all;have hb1:=Blk.mk hn1;clear hn1;obtain ⟨hc1,hf1,hl1⟩:=hb1.all;have hb2:=Blk.mk hn2;clear hn2;obtain ⟨hc2,hf2,hl2⟩:=hb2.all;(try clear hx0))
  all_goals (refine bodyPost_ret (v:=.tuple #[.slice none 0 0,.int .i64 15]) (by simp only [results,Tryz.results200];go_simp) rfl ?_;exact GivesT.none EX)
 ·have hk':(p.kind == 4)=false:=by simpa using hk
  have ht:(f.ty != p.ty)=false:=by have :=h2;unfold Pv.gone at this;rw [if_neg hk] at this;simpa using this
  clear hk h2
  go_enter Tryz.func200,Tryz.ntmps200
  have hx:=Ext.refl w
  go_wp2_with (go_at_call 183;refine (HF.out _ EX).mono ?_;rintro e w1 ⟨rfl,hx0⟩;rw [H1.out];have hy:=Ext.trans (a:=w) EX hx0;clear hx;have hx:=hy;clear hy;have hn0:=BB hx0 (w.heap.size);have hn1:=BB hx0 (w.heap.size+1);have hn2:=BB hx0 (w.heap.size+1+1);(first | simp [↓heap_drew_at,↓heap_drewN_at,↓heap_alloc_at,↓heap_set_at,ne_two,ne_three,ne_two_left,ne_three_left,↓hb0.eq,hb0.lt,hb0.ne,↓hb1.eq,hb1.lt,hb1.ne,↓hb2.eq,hb2.lt,hb2.ne] at hn0 hn1 hn2 | simp [↓heap_drew_at,↓heap_drewN_at,↓heap_alloc_at,↓heap_set_at,ne_two,ne_three,ne_two_left,ne_three_left] at hn0 hn1 hn2);(try clear hb0 hc0 hf0 hl0);(try clear hb1 hc1 hf1 hl1);(try clear hb2 hc2 hf2 hl2);have hb0:=Blk.mk hn0;clear hn0;obtain ⟨hc0,hf0,hl0⟩:=hb0.all;have hb1:=Blk.mk hn1;clear hn1;obtain ⟨hc1,hf1,hl1⟩:=hb1.all;have hb2:=Blk.mk hn2;clear hn2;obtain ⟨hc2,hf2,hl2⟩:=hb2.all;(try clear hx0))
  all_goals (refine bodyPost_ret (v:=.tuple #[.slice none 0 0,.int .i64 15]) (by simp only [results,Tryz.results200];go_simp) rfl ?_;exact GivesT.none EX)
theorem rapply_any (p:Pv) (A:Option Addr) (n c:Nat) (l:List Pf) (w:World) (h:Trs w A l) (hn:l.length=n) (hb:n≤200) (hp:p.path.size≤1000000):
 Calls Tryz.prog 200 #[p.v,.slice A n c] w (GivesT (Tr.remove l p.gone) w):=by
 have e0:Tr.find l p.gone.path=Tr.find l p.path:=rfl
 cases h1:Tr.find l p.path with
 | none=>
   have hv:Tr.remove l p.gone=([],7):=by unfold Tr.remove;rw [e0,h1]
   rw [hv]
   exact rapply_none p A n c l w h hn hb h1
 | some f=>
   by_cases h2:f.ty=p.gone.ty
   rotate_left
   ·have hv:Tr.remove l p.gone=([],8):=by unfold Tr.remove;rw [e0,h1];dsimp only;rw [if_pos h2]
    rw [hv]
    exact rapply_kind p A n c l w h hn hb f h1 h2
   by_cases h3:f.mode=p.om
   rotate_left
   ·have hv:Tr.remove l p.gone=([],15):=by unfold Tr.remove;rw [e0,h1];dsimp only;rw [if_neg (by simpa using h2),if_pos (.inl h3)]
    rw [hv]
    exact rapply_mode p A n c l w h hn hb f h1 h2 (by simpa using h3)
   cases h4:Qm.eqB f.data p.so
   ·have hv:Tr.remove l p.gone=([],15):=by unfold Tr.remove;rw [e0,h1];dsimp only;rw [if_neg (by simpa using h2),if_pos (.inr h4)]
    rw [hv]
    exact rapply_data p A n c l w h hn hb f h1 h2 (by simpa using h3) h4
   ·have hg:f=p.gone:=by
     have e1:f.path=p.path:=Qm.eqB_iff.1 (by simpa using List.find?_some h1)
     have e4:=Qm.eqB_iff.1 h4
     cases f
     simp only at e1 h2 h3 e4
     subst e1 h2 h3 e4
     rfl
    rw [hg] at h1
    exact rapply_some p A n c l w h hn hb hp h1
end Go.Proofs.YtfmgnaigcibcaaaGreatDoor
namespace Go.Proofs.YtfmgnaigcibcaaaGreatDoor
open Go Go.RowKit
theorem path_small {s:ByteArray} (hs:Qm.isPath s=true):s.size≤200:=by
 rw [isPath_pieces,Bool.and_eq_true] at hs
 exact of_decide_eq_true hs.1
theorem eapply_any (p:Pv) (q:Qp) (A:Option Addr) (n c:Nat) (l:List Pf) (w:World) (h:Trs w A l) (hn:l.length=n) (hg:Tr.Good l) {F:Nat→Prop} (hq:Is w F p q) (hc:q.check=0) (hK:q.kind=6∨q.kind=7∨q.kind=8):
 Calls Tryz.prog 228 #[p.v,.slice A n c] w (GivesT (Tr.edit l q.path q.edits) w):=by
 have hb:n≤200:=by rw [← hn];exact hg.len
 have he:=check_edit hc
 obtain ⟨A1,c1,A2,c2,rfl,⟨s1,s2⟩,_⟩:=hq
 rcases hK with k | k | k
 ·obtain ⟨g1,g2,_,_,g5,g6⟩:=he.six k
  have hh:(q.pv A1 c1 A2 c2).hunk.check=0:=by
   have hs:=check_edit hc
   show (if q.at_ < 0∨1099511627776 < q.at_ then (2:Int) else if q.old.length+q.new.length=0 then 1 else 0)=0
   rw [if_neg (by omega),if_neg]
   intro e0
   have z1:=List.length_eq_zero_iff.1 (show q.old.length=0 by omega)
   have z2:=List.length_eq_zero_iff.1 (show q.new.length=0 by omega)
   exact (hs.six k).2.2.1 (z1.trans z2.symm)
  have e:q.edits=fun f=>({ f with data:=((q.pv A1 c1 A2 c2).relines q.old q.new f).1 },((q.pv A1 c1 A2 c2).relines q.old q.new f).2):=by
   funext f
   unfold Qp.edits
   rw [if_pos k]
   rfl
  rw [e]
  exact elines_apply (q.pv A1 c1 A2 c2) A n c l w h hn hg.srt hb k (fun f=>(q.pv A1 c1 A2 c2).relines q.old q.new f) (fun f hf W hW=>elines_any (q.pv A1 c1 A2 c2) q.old q.new f W q.at_.toNat (Int.toNat_of_nonneg g1).symm (by omega) (s1.ext hW).1 (s2.ext hW).1 g5 g6 hh)
 ·obtain ⟨g1,g2,_,g4,g5⟩:=he.seven k
  have e:q.edits=fun f=>({ f with data:=((q.pv A1 c1 A2 c2).splice f).1 },((q.pv A1 c1 A2 c2).splice f).2):=by
   funext f
   unfold Qp.edits
   rw [if_neg (by omega),if_pos k]
   rfl
  rw [e]
  exact ebytes_apply (q.pv A1 c1 A2 c2) A n c l w h hn hg.srt hb k (fun f=>(q.pv A1 c1 A2 c2).splice f) (fun f hf W hW=>ebytes_any (q.pv A1 c1 A2 c2) f W q.off.toNat (Int.toNat_of_nonneg g1).symm (by omega) (by have :=(content_zero.1 (Tr.element_zero.1 (hg.el f hf)).2.2.2.2).1;omega) (by show q.so.size≤1000000;omega) (by show q.sn.size≤1000000;omega))
 ·have e:q.edits=(q.pv A1 c1 A2 c2).chmod:=by
   funext f
   unfold Qp.edits
   rw [if_neg (by omega),if_neg (by omega)]
   rfl
  rw [e]
  exact emode_any (q.pv A1 c1 A2 c2) A n c l w h hn hg.srt hb (by show q.kind≠6;omega) (by show q.kind≠7;omega)
set_option maxHeartbeats 4000000 in
set_option maxRecDepth 100000 in
theorem apply_adds (p:Pv) (q:Qp) (A:Option Addr) (n c:Nat) (l:List Pf) (w:World) (h:Trs w A l) (hn:l.length=n) (hg:Glob w) {F:Nat→Prop} (hq:Is w F p q)
 (b1:q.old.length≤1152921504606846976) (b2:q.new.length≤1152921504606846976) (hc:Tr.checkTree l=0) (hc2:q.check=0) (hK:q.kind=1∨q.kind=3):
 Calls Tryz.prog 14 #[.slice A n c,p.v] w (GivesT (Tr.add l (q.pv none 0 none 0).file) w):=by
 have hgood:=Tr.good_iff.1 hc
 have hb:n≤200:=by rw [← hn];exact hgood.len
 obtain ⟨p1,p2⟩:=path_ok (check_parts hc2).2.2.1
 have z1:=path_small p1
 have hl:=check_lean hc2
 have z2:q.to_.size≤200:=by rw [hl.to_ (by omega)];exact Nat.zero_le _
 have HC:Hid (∀ W,Ext w W→Calls Tryz.prog 39 #[.slice A n c] W (Ret (.int .i64 0) W)):=Lib.hid (fun W hW=>by
  have:=checktree_any A n c l W (h.ext hW) hn (by omega) (hg.ext hW)
  rwa [hc] at this)
 have HK:Hid (∀ W,Ext w W→Calls Tryz.prog 38 #[p.v] W (Ret (.int .i64 0) W)):=Lib.hid (fun W hW=>by
  have:=check_q p q W (hg.ext hW) (hq.ext hW) b1 b2 (by omega) (by omega)
  rwa [hc2] at this)
 have hq':=hq
 obtain ⟨A1,c1,A2,c2,rfl,_⟩:=hq
 have HM:Hid (∀ W,Ext w W→Calls Tryz.prog 177 #[(q.pv A1 c1 A2 c2).v,.slice A n c] W (GivesT (Tr.add l (q.pv none 0 none 0).file) W)):=Lib.hid (fun W hW=>aapply_any (q.pv A1 c1 A2 c2) A n c l W (h.ext hW) hn hgood.srt hb (by show q.path.size≤1000000;omega))
 have ha:(q.pv A1 c1 A2 c2).act=.iface 103 (q.pv A1 c1 A2 c2).v:=by rw [Pv.act,if_pos (by exact hK)]
 have Ha:=Lib.hid ha
 clear h hn hg hc hc2 ha hK p1 p2 z1 z2 hgood b1 b2 hq' hl
 generalize q.pv A1 c1 A2 c2=p at *
 generalize Tr.add l (q.pv none 0 none 0).file=r at *
 go_enter Tryz.func14,Tryz.ntmps14
 have hx:=Ext.refl w
 go_wp2_with (first
  | (go_at_call 39;refine (HC.out _ EX).mono ?_;rintro e w1 ⟨rfl,hx0⟩;have hy:=Ext.trans (a:=w) EX hx0;clear hx;have hx:=hy;clear hy;have hn0:=BB hx0 (w.heap.size);(first | simp [↓heap_drew_at,↓heap_drewN_at,↓heap_alloc_at,↓heap_set_at,ne_two,ne_three,ne_two_left,ne_three_left,↓hb0.eq,hb0.lt,hb0.ne] at hn0 | simp [↓heap_drew_at,↓heap_drewN_at,↓heap_alloc_at,↓heap_set_at,ne_two,ne_three,ne_two_left,ne_three_left] at hn0);(try clear hb0 hc0 hf0 hl0);have hb0:=Blk.mk hn0;clear hn0;obtain ⟨hc0,hf0,hl0⟩:=hb0.all;(try clear hx0))
  | (go_at_call 38;refine (HK.out _ EX).mono ?_;rintro e w2 ⟨rfl,hx0⟩;have hy:=Ext.trans (a:=w) EX hx0;clear hx;have hx:=hy;clear hy;have hn0:=BB hx0 (w.heap.size);(first | simp [↓heap_drew_at,↓heap_drewN_at,↓heap_alloc_at,↓heap_set_at,ne_two,ne_three,ne_two_left,ne_three_left,↓hb0.eq,hb0.lt,hb0.ne] at hn0 | simp [↓heap_drew_at,↓heap_drewN_at,↓heap_alloc_at,↓heap_set_at,ne_two,ne_three,ne_two_left,ne_three_left] at hn0);(try clear hb0 hc0 hf0 hl0);have hb0:=Blk.mk hn0;clear hn0;obtain ⟨hc0,hf0,hl0⟩:=hb0.all;(try clear hx0))
  | (go_at_call 40;refine (action_any p _).mono ?_;rintro e w3 ⟨rfl,hx0⟩;rw [Ha.out];have hy:=Ext.trans (a:=w) EX hx0;clear hx;have hx:=hy;clear hy;have hn0:=BB hx0 (w.heap.size);(first | simp [↓heap_drew_at,↓heap_drewN_at,↓heap_alloc_at,↓heap_set_at,ne_two,ne_three,ne_two_left,ne_three_left,↓hb0.eq,hb0.lt,hb0.ne] at hn0 | simp [↓heap_drew_at,↓heap_drewN_at,↓heap_alloc_at,↓heap_set_at,ne_two,ne_three,ne_two_left,ne_three_left] at hn0);(try clear hb0 hc0 hf0 hl0);have hb0:=Blk.mk hn0;clear hn0;obtain ⟨hc0,hf0,hl0⟩:=hb0.all;(try clear hx0)))
 refine upon_method1 (f:=177) (by kernel_rfl) (by kernel_rfl) ?_
 rw [Oper.upon_enter]
 have HX3:=Lib.hid hx
 refine (HM.out _ EX).mono ?_
 rintro e w4 ⟨B,m,d,rfl,hm,hT,hx4⟩
 have HX:=Lib.hid (Ext.trans (a:=w) EX hx4)
 have Hm:=Lib.hid hm
 clear hx hx4 hm hb0 hc0 hf0 hl0
 go_wp2_with fail
 go_ret2
 exact ⟨_,_,_,rfl,Hm.out,Lib.hid ⟨hT.out.1,fun a ha=>Nat.le_trans HX3.out.size_le (hT.out.2 a ha)⟩,HX.out⟩
set_option maxHeartbeats 4000000 in
set_option maxRecDepth 100000 in
theorem apply_rems (p:Pv) (q:Qp) (A:Option Addr) (n c:Nat) (l:List Pf) (w:World) (h:Trs w A l) (hn:l.length=n) (hg:Glob w) {F:Nat→Prop} (hq:Is w F p q)
 (b1:q.old.length≤1152921504606846976) (b2:q.new.length≤1152921504606846976) (hc:Tr.checkTree l=0) (hc2:q.check=0) (hK:q.kind=2∨q.kind=4):
 Calls Tryz.prog 14 #[.slice A n c,p.v] w (GivesT (Tr.remove l (q.pv none 0 none 0).gone) w):=by
 have hgood:=Tr.good_iff.1 hc
 have hb:n≤200:=by rw [← hn];exact hgood.len
 obtain ⟨p1,p2⟩:=path_ok (check_parts hc2).2.2.1
 have z1:=path_small p1
 have hl:=check_lean hc2
 have z2:q.to_.size≤200:=by rw [hl.to_ (by omega)];exact Nat.zero_le _
 have HC:Hid (∀ W,Ext w W→Calls Tryz.prog 39 #[.slice A n c] W (Ret (.int .i64 0) W)):=Lib.hid (fun W hW=>by
  have:=checktree_any A n c l W (h.ext hW) hn (by omega) (hg.ext hW)
  rwa [hc] at this)
 have HK:Hid (∀ W,Ext w W→Calls Tryz.prog 38 #[p.v] W (Ret (.int .i64 0) W)):=Lib.hid (fun W hW=>by
  have:=check_q p q W (hg.ext hW) (hq.ext hW) b1 b2 (by omega) (by omega)
  rwa [hc2] at this)
 have hq':=hq
 obtain ⟨A1,c1,A2,c2,rfl,_⟩:=hq
 have HM:Hid (∀ W,Ext w W→Calls Tryz.prog 200 #[(q.pv A1 c1 A2 c2).v,.slice A n c] W (GivesT (Tr.remove l (q.pv none 0 none 0).gone) W)):=Lib.hid (fun W hW=>rapply_any (q.pv A1 c1 A2 c2) A n c l W (h.ext hW) hn hb (by show q.path.size≤1000000;omega))
 have ha:(q.pv A1 c1 A2 c2).act=.iface 104 (q.pv A1 c1 A2 c2).v:=by rw [Pv.act,if_neg (by dsimp only;omega),if_pos (by exact hK)]
 have Ha:=Lib.hid ha
 clear h hn hg hc hc2 ha hK p1 p2 z1 z2 hgood b1 b2 hq' hl
 generalize q.pv A1 c1 A2 c2=p at *
 generalize Tr.remove l (q.pv none 0 none 0).gone=r at *
 go_enter Tryz.func14,Tryz.ntmps14
 have hx:=Ext.refl w
 go_wp2_with (first
  | (go_at_call 39;refine (HC.out _ EX).mono ?_;rintro e w1 ⟨rfl,hx0⟩;have hy:=Ext.trans (a:=w) EX hx0;clear hx;have hx:=hy;clear hy;have hn0:=BB hx0 (w.heap.size);(first | simp [↓heap_drew_at,↓heap_drewN_at,↓heap_alloc_at,↓heap_set_at,ne_two,ne_three,ne_two_left,ne_three_left,↓hb0.eq,hb0.lt,hb0.ne] at hn0 | simp [↓heap_drew_at,↓heap_drewN_at,↓heap_alloc_at,↓heap_set_at,ne_two,ne_three,ne_two_left,ne_three_left] at hn0);(try clear hb0 hc0 hf0 hl0);have hb0:=Blk.mk hn0;clear hn0;obtain ⟨hc0,hf0,hl0⟩:=hb0.all;(try clear hx0))
  | (go_at_call 38;refine (HK.out _ EX).mono ?_;rintro e w2 ⟨rfl,hx0⟩;have hy:=Ext.trans (a:=w) EX hx0;clear hx;have hx:=hy;clear hy;have hn0:=BB hx0 (w.heap.size);(first | simp [↓heap_drew_at,↓heap_drewN_at,↓heap_alloc_at,↓heap_set_at,ne_two,ne_three,ne_two_left,ne_three_left,↓hb0.eq,hb0.lt,hb0.ne] at hn0 | simp [↓heap_drew_at,↓heap_drewN_at,↓heap_alloc_at,↓heap_set_at,ne_two,ne_three,ne_two_left,ne_three_left] at hn0);(try clear hb0 hc0 hf0 hl0);have hb0:=Blk.mk hn0;clear hn0;obtain ⟨hc0,hf0,hl0⟩:=hb0.all;(try clear hx0))
  | (go_at_call 40;refine (action_any p _).mono ?_;rintro e w3 ⟨rfl,hx0⟩;rw [Ha.out];have hy:=Ext.trans (a:=w) EX hx0;clear hx;have hx:=hy;clear hy;have hn0:=BB hx0 (w.heap.size);(first | simp [↓heap_drew_at,↓heap_drewN_at,↓heap_alloc_at,↓heap_set_at,ne_two,ne_three,ne_two_left,ne_three_left,↓hb0.eq,hb0.lt,hb0.ne] at hn0 | simp [↓heap_drew_at,↓heap_drewN_at,↓heap_alloc_at,↓heap_set_at,ne_two,ne_three,ne_two_left,ne_three_left] at hn0);(try clear hb0 hc0 hf0 hl0);have hb0:=Blk.mk hn0;clear hn0;obtain ⟨hc0,hf0,hl0⟩:=hb0.all;(try clear hx0)))
 refine upon_method1 (f:=200) (by kernel_rfl) (by kernel_rfl) ?_
 rw [Oper.upon_enter]
 have HX3:=Lib.hid hx
 refine (HM.out _ EX).mono ?_
 rintro e w4 ⟨B,m,d,rfl,hm,hT,hx4⟩
 have HX:=Lib.hid (Ext.trans (a:=w) EX hx4)
 have Hm:=Lib.hid hm
 clear hx hx4 hm hb0 hc0 hf0 hl0
 go_wp2_with fail
 go_ret2
 exact ⟨_,_,_,rfl,Hm.out,Lib.hid ⟨hT.out.1,fun a ha=>Nat.le_trans HX3.out.size_le (hT.out.2 a ha)⟩,HX.out⟩
set_option maxHeartbeats 4000000 in
set_option maxRecDepth 100000 in
theorem apply_eds (p:Pv) (q:Qp) (A:Option Addr) (n c:Nat) (l:List Pf) (w:World) (h:Trs w A l) (hn:l.length=n) (hg:Glob w) {F:Nat→Prop} (hq:Is w F p q)
 (b1:q.old.length≤1152921504606846976) (b2:q.new.length≤1152921504606846976) (hc:Tr.checkTree l=0) (hc2:q.check=0) (hK:q.kind=6∨q.kind=7∨q.kind=8):
 Calls Tryz.prog 14 #[.slice A n c,p.v] w (GivesT (Tr.edit l q.path q.edits) w):=by
 have hgood:=Tr.good_iff.1 hc
 have hb:n≤200:=by rw [← hn];exact hgood.len
 obtain ⟨p1,p2⟩:=path_ok (check_parts hc2).2.2.1
 have z1:=path_small p1
 have hl:=check_lean hc2
 have z2:q.to_.size≤200:=by rw [hl.to_ (by omega)];exact Nat.zero_le _
 have HC:Hid (∀ W,Ext w W→Calls Tryz.prog 39 #[.slice A n c] W (Ret (.int .i64 0) W)):=Lib.hid (fun W hW=>by
  have:=checktree_any A n c l W (h.ext hW) hn (by omega) (hg.ext hW)
  rwa [hc] at this)
 have HK:Hid (∀ W,Ext w W→Calls Tryz.prog 38 #[p.v] W (Ret (.int .i64 0) W)):=Lib.hid (fun W hW=>by
  have:=check_q p q W (hg.ext hW) (hq.ext hW) b1 b2 (by omega) (by omega)
  rwa [hc2] at this)
 have hq':=hq
 obtain ⟨A1,c1,A2,c2,rfl,_⟩:=hq
 have HM:Hid (∀ W,Ext w W→Calls Tryz.prog 228 #[(q.pv A1 c1 A2 c2).v,.slice A n c] W (GivesT (Tr.edit l q.path q.edits) W)):=Lib.hid (fun W hW=>eapply_any (q.pv A1 c1 A2 c2) q A n c l W (h.ext hW) hn hgood (hq'.ext hW) hc2 hK)
 have ha:(q.pv A1 c1 A2 c2).act=.iface 106 (q.pv A1 c1 A2 c2).v:=by rw [Pv.act,if_neg (by dsimp only;omega),if_neg (by dsimp only;omega),if_neg (by dsimp only;omega),if_pos (by exact hK)]
 have Ha:=Lib.hid ha
 clear h hn hg hc hc2 ha hK p1 p2 z1 z2 hgood b1 b2 hq' hl
 generalize q.pv A1 c1 A2 c2=p at *
 generalize Tr.edit l q.path q.edits=r at *
 go_enter Tryz.func14,Tryz.ntmps14
 have hx:=Ext.refl w
 go_wp2_with (first
  | (go_at_call 39;refine (HC.out _ EX).mono ?_;rintro e w1 ⟨rfl,hx0⟩;have hy:=Ext.trans (a:=w) EX hx0;clear hx;have hx:=hy;clear hy;have hn0:=BB hx0 (w.heap.size);(first | simp [↓heap_drew_at,↓heap_drewN_at,↓heap_alloc_at,↓heap_set_at,ne_two,ne_three,ne_two_left,ne_three_left,↓hb0.eq,hb0.lt,hb0.ne] at hn0 | simp [↓heap_drew_at,↓heap_drewN_at,↓heap_alloc_at,↓heap_set_at,ne_two,ne_three,ne_two_left,ne_three_left] at hn0);(try clear hb0 hc0 hf0 hl0);have hb0:=Blk.mk hn0;clear hn0;obtain ⟨hc0,hf0,hl0⟩:=hb0.all;(try clear hx0))
  | (go_at_call 38;refine (HK.out _ EX).mono ?_;rintro e w2 ⟨rfl,hx0⟩;have hy:=Ext.trans (a:=w) EX hx0;clear hx;have hx:=hy;clear hy;have hn0:=BB hx0 (w.heap.size);(first | simp [↓heap_drew_at,↓heap_drewN_at,↓heap_alloc_at,↓heap_set_at,ne_two,ne_three,ne_two_left,ne_three_left,↓hb0.eq,hb0.lt,hb0.ne] at hn0 | simp [↓heap_drew_at,↓heap_drewN_at,↓heap_alloc_at,↓heap_set_at,ne_two,ne_three,ne_two_left,ne_three_left] at hn0);(try clear hb0 hc0 hf0 hl0);have hb0:=Blk.mk hn0;clear hn0;obtain ⟨hc0,hf0,hl0⟩:=hb0.all;(try clear hx0))
  | (go_at_call 40;refine (action_any p _).mono ?_;rintro e w3 ⟨rfl,hx0⟩;rw [Ha.out];have hy:=Ext.trans (a:=w) EX hx0;clear hx;have hx:=hy;clear hy;have hn0:=BB hx0 (w.heap.size);(first | simp [↓heap_drew_at,↓heap_drewN_at,↓heap_alloc_at,↓heap_set_at,ne_two,ne_three,ne_two_left,ne_three_left,↓hb0.eq,hb0.lt,hb0.ne] at hn0 | simp [↓heap_drew_at,↓heap_drewN_at,↓heap_alloc_at,↓heap_set_at,ne_two,ne_three,ne_two_left,ne_three_left] at hn0);(try clear hb0 hc0 hf0 hl0);have hb0:=Blk.mk hn0;clear hn0;obtain ⟨hc0,hf0,hl0⟩:=hb0.all;(try clear hx0)))
 refine upon_method1 (f:=228) (by kernel_rfl) (by kernel_rfl) ?_
 rw [Oper.upon_enter]
 have HX3:=Lib.hid hx
 refine (HM.out _ EX).mono ?_
 rintro e w4 ⟨B,m,d,rfl,hm,hT,hx4⟩
 have HX:=Lib.hid (Ext.trans (a:=w) EX hx4)
 have Hm:=Lib.hid hm
 clear hx hx4 hm hb0 hc0 hf0 hl0
 go_wp2_with fail
 go_ret2
 exact ⟨_,_,_,rfl,Hm.out,Lib.hid ⟨hT.out.1,fun a ha=>Nat.le_trans HX3.out.size_le (hT.out.2 a ha)⟩,HX.out⟩
theorem apply_any (p:Pv) (q:Qp) (A:Option Addr) (n c:Nat) (l:List Pf) (w:World) (h:Trs w A l) (hn:l.length=n) (hb:n≤10000000000000) (hg:Glob w) {F:Nat→Prop} (hq:Is w F p q)
 (b1:q.old.length≤1152921504606846976) (b2:q.new.length≤1152921504606846976) (b3:q.path.size≤1152921504606846976) (b4:q.to_.size≤1152921504606846976):
 Calls Tryz.prog 14 #[.slice A n c,p.v] w (GivesT (Tr.apply l q) w):=by
 by_cases h1:Tr.checkTree l=0
 rotate_left
 ·have e:Tr.apply l q=([],Tr.checkTree l):=by unfold Tr.apply;rw [if_pos h1]
  rw [e]
  exact apply_badtree p A n c l w h hn hb hg h1
 by_cases h2:q.check=0
 rotate_left
 ·have e:Tr.apply l q=([],q.check):=by unfold Tr.apply;rw [if_neg (by simpa using h1),if_pos h2]
  rw [e]
  exact apply_badpatch p q A n c l w h hn hb hg hq b1 b2 b3 b4 h1 h2
 have e:Tr.apply l q=if q.kind=1∨q.kind=3 then Tr.add l (q.pv none 0 none 0).file
  else if q.kind=2∨q.kind=4 then Tr.remove l (q.pv none 0 none 0).gone
  else if q.kind=5 then Tr.move l q.path q.to_ else Tr.edit l q.path q.edits:=by unfold Tr.apply;rw [if_neg (by simpa using h1),if_neg (by simpa using h2)]
 have hk:=(check_parts h2).1
 by_cases k1:q.kind=1∨q.kind=3
 ·rw [e,if_pos k1]
  exact apply_adds p q A n c l w h hn hg hq b1 b2 h1 h2 k1
 by_cases k2:q.kind=2∨q.kind=4
 ·rw [e,if_neg k1,if_pos k2]
  exact apply_rems p q A n c l w h hn hg hq b1 b2 h1 h2 k2
 by_cases k5:q.kind=5
 ·rw [e,if_neg k1,if_neg k2,if_pos k5]
  exact apply_mov p q A n c l w h hn hg hq b1 b2 h1 h2 k5
 ·rw [e,if_neg k1,if_neg k2,if_neg k5]
  exact apply_eds p q A n c l w h hn hg hq b1 b2 h1 h2 (by omega)
end Go.Proofs.YtfmgnaigcibcaaaGreatDoor
