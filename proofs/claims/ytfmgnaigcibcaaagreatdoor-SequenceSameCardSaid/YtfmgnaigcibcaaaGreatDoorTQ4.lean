import Derived.Test.YtfmgnaigcibcaaaGreatDoorTBase
import Derived.Laws.AppendOwn
import Derived.Test.YtfmgnaigcibcaaaGreatDoorTQ3
import Derived.Test.YtfmgnaigcibcaaaGreatDoorTQ1
import Derived.RangeFuncNested
import Derived.RangeFuncBound
import Derived.RangeFuncLeaves
import Derived.Shelf.Abstract
import Derived.Shelf.RegionOpen
import Derived.OwnWalkIn
import Derived.TacticsInMore
import Derived.LoopNIn
import Derived.LoopIn
set_option linter.unusedSimpArgs false
set_option linter.unusedVariables false
namespace Go.Proofs.YtfmgnaigcibcaaaGreatDoor
open Go Go.RowKit
section
variable {w w':World}
def Turned (w w':World):Prop:=∃ row:Option Nat,w.grownBy w' row∧∀ r,row=some r→∃ o:Obj,w.heap[r]?=some o∧o.isCells=false
theorem Turned.size (h:Turned w w'):w.heap.size≤w'.heap.size:=by
 obtain ⟨row,hg,_⟩:=h
 exact hg.size
theorem Turned.cell {p:Addr} {v:Value} (h:Turned w w') (hc:w.cell? p=some v):w'.cell? p=some v:=by
 obtain ⟨row,hg,hr⟩:=h
 exact cell_kept hc hg hr
theorem Blk.turned {g:Nat} {t:TypeId} {cs:Array Value} (h:Blk w g t cs) (ht:Turned w w'):Blk w' g t cs:=by
 obtain ⟨row,hg,hr⟩:=ht
 refine (hg.block g h.lt fun e=>?_).trans h
 obtain ⟨o,ho,hc⟩:=hr g e.symm
 have h0:w.heap[g]?=some (.cells cs t (0,0)):=h
 rw [h0] at ho
 obtain rfl:=Option.some.inj ho
 cases hc
theorem Sl.turned {A:Option Addr} {n c:Nat} {l:List ByteArray} (h:Sl w A n c l) (ht:Turned w w'):Sl w' A n c l:=by
 refine ⟨⟨h.1.1,fun hn=>?_⟩,h.2⟩
 obtain ⟨b,o,hA,hlt,hc⟩:=h.1.2 hn
 exact ⟨b,o,hA,Nat.lt_of_lt_of_le hlt ht.size,fun j hj=>ht.cell (hc j hj)⟩
theorem steady_of {B:Nat} {I:World→Prop} (h:∀ W W',I W→Turned W W'→I W'):Steady B I:=fun W W' row hi hg hr=>h W W' hi ⟨row,hg,fun r e=>(hr r e).2⟩
theorem Ext.steady (w:World) {B:Nat} (hB:w.heap.size≤B):Steady B (Ext w):=fun W W' row hi hg hr=>Below.grown hi hg hi.size_le (fun k e=>Nat.le_trans hB (hr k e).1)
theorem Steady.and {B:Nat} {I J:World→Prop} (h:Steady B I) (k:Steady B J):Steady B (fun W=>I W∧J W):=fun W W' row hi hg hr=>⟨h W W' row hi.1 hg hr,k W W' row hi.2 hg hr⟩
theorem Ext.keeps (h:Ext w w'):KeepsOthers w w':=⟨h.size_le,fun k o hk _=>(Below.block h k (Array.getElem?_eq_some_iff.1 hk).1).trans hk⟩
end
end Go.Proofs.YtfmgnaigcibcaaaGreatDoor
namespace Go.Proofs.YtfmgnaigcibcaaaGreatDoor
open Go Go.RowKit Go.Shelf
attribute [local go_sem] Oper.semAt_some
set_option maxHeartbeats 400000 in
theorem teach_same (A:Option Addr) (n c:Nat) (w:World):
 Calls Tryz.prog 191 #[.slice A n c] w fun e w'=>e=.returned (.func (.func 196) #[] #[.pointer (some ⟨w.heap.size,0,none⟩)])∧w.alloc (.cells #[.slice A n c] 23)=w':=by
 go_enter Tryz.func191,Tryz.ntmps191
 go_wp2
 go_ret
 exact ⟨rfl,rfl⟩
set_option maxHeartbeats 8000000 in
set_option maxRecDepth 100000 in
theorem teach1_gives (n0:Nat) (hn0:3≤n0) (z:Nat) (A:Option Addr) (n c:Nat) (l:List Pf) (hn:l.length=n) (hb:n≤10000000000000) (I:Nat→World→Prop) (X:World→Prop)
 (hbox:∀ k W,I k W→Blk W z 23 #[.slice A n c]∧Trs W A l) (hext:∀ k W W',I k W→Ext W W'→I k W'):
 Rounds Tryz.prog n0 196 #[.pointer (some ⟨z,0,none⟩)] (fun x:Nat × Pf=>#[.int .i64 x.1,x.2.v]) I (fun k x W=>I k W∧l[k]?=some x.2∧x.1=k) (fun k x W=>I (k+1) W) X n:=by
 intro l' T Tx W hT hTx hY h0 hT0
 have HY:=Lib.hid hY
 have HB:=Lib.hid hbox
 have HE:=Lib.hid hext
 have H0:=Lib.hid h0
 have HT0:=Lib.hid hT0
 have HTK:=Lib.hid hT
 have HN:=Lib.hid hn
 have hb0:=(hbox 0 W h0).1
 have hc0:=hb0.cell
 have hl0:=hb0.lt
 clear hY hT hTx h0 hT0 hbox hext hn hb0
 refine callsIn_of_wp Tryz.func196 rfl trivial ?_ rfl
 simp only [Tryz.ntmps196,List.size_toArray,List.length_cons,List.length_nil,Nat.reduceAdd,Nat.reduceSub,Array.replicate_succ,Array.replicate_zero,List.push_toArray,List.append_toArray,List.nil_append,List.cons_append]
 gi_wp2
 clear hc0 hl0
 gi_loopw [7] (fun u7 wr=>∃ k:Nat,k≤n∧u7=.int .i64 k∧Hid (I k wr)∧Hid (T wr)) (fun u7 wr=>n - (intOf u7).toNat)
 case atStart=>exact ⟨0,Nat.zero_le _,rfl,H0,HT0⟩
 case round=>
  clear H0 HT0
  obtain ⟨k,hk,rfl,HI,HT⟩:=hrel
  by_cases hlt:k < n
  ·have hkl:k < l.length:=by rw [HN.out];exact hlt
   have e1:l[k]?=some (l[k]'hkl):=List.getElem?_eq_getElem hkl
   obtain ⟨b,o,rfl,hbl,c0,c1,c2,c3⟩:=(HB.out k wr HI.out).2.get e1
   generalize l[k]'hkl=f at e1 c0 c1 c2 c3
   obtain ⟨fn,tmps,assign,body,hy,hR⟩:=HY.out k (k,f) (wr.alloc (.cells f.arr 61)) ⟨HE.out k _ _ HI.out ((Ext.refl wr).alloc _),e1,rfl⟩ (HTK.out _ _ ((Ext.refl wr).alloc _).keeps HT.out)
   have HR:=Lib.hid hR
   clear hR e1 HI HT hkl
   gi_wp2
   refine ⟨fun _=>(by omega),HR.out.mono ?_⟩
   rintro e W4 (⟨rfl,hJ,hT4⟩ | ⟨rfl,hX4,hTx4⟩)
   ·have HJ:=Lib.hid hJ
    have HT4:=Lib.hid hT4
    clear hJ hT4 HR c0 c1 c2 c3 hbl
    gi_wp2
    go_roundw
    case rel=>exact ⟨k+1,by omega,rfl,HJ,HT4⟩
    case measure=>simp [intOf];omega
   ·have HE:=Lib.hid (⟨hX4,hTx4⟩:_∧_)
    clear hX4 hTx4 HR c0 c1 c2 c3 hbl
    gi_wp2
    refine bodyPost_ret (results_none rfl _ _ _) rfl ?_
    exact ⟨⟨_,rfl⟩,.inr HE.out⟩
  ·have hkn:k=n:=by omega
   subst hkn
   gi_wp2
   go_end0
   exact ⟨⟨_,rfl⟩,.inl ⟨HI.out,HT.out⟩⟩
def Tr.found (l:List Pf) (s:ByteArray):Value:=.tuple #[((Tr.find l s).getD Pf.zero).v,.bool (Tr.find l s).isSome]
theorem Blk.conv' {w:World} {g:Nat} {t:TypeId} {cs cs':Array Value} (h:Blk w g t cs) (e:cs=cs'):Blk w g t cs':=e ▸ h
theorem two_set {W:World} {g g':Nat} {t t':TypeId} {a b c d v a' b' c' d' v':Value} (h:Blk W g t #[a,b,c,d]) (k:Blk W g' t' #[v]) (hne:g≠g'):
 Blk (((((W.setCell ⟨g,0,none⟩ a').setCell ⟨g,1,none⟩ b').setCell ⟨g,2,none⟩ c').setCell ⟨g,3,none⟩ d').setCell ⟨g',0,none⟩ v') g t #[a',b',c',d'] ∧
 Blk (((((W.setCell ⟨g,0,none⟩ a').setCell ⟨g,1,none⟩ b').setCell ⟨g,2,none⟩ c').setCell ⟨g,3,none⟩ d').setCell ⟨g',0,none⟩ v') g' t' #[v'] ∧
 KeepsOthers W (((((W.setCell ⟨g,0,none⟩ a').setCell ⟨g,1,none⟩ b').setCell ⟨g,2,none⟩ c').setCell ⟨g,3,none⟩ d').setCell ⟨g',0,none⟩ v') ∧
 ∀ w0:World,Ext w0 W→w0.heap.size≤g→w0.heap.size≤g'→Ext w0 (((((W.setCell ⟨g,0,none⟩ a').setCell ⟨g,1,none⟩ b').setCell ⟨g,2,none⟩ c').setCell ⟨g,3,none⟩ d').setCell ⟨g',0,none⟩ v'):=by
 refine ⟨?_,?_,?_,fun w0 hx h1 h2=>?_⟩
 ·exact Blk.far (p:=⟨g',0,none⟩) (Blk.conv' ((((h.set_ 0 a').set_ 1 b').set_ 2 c').set_ 3 d') (by simp)) hne _
 ·exact Blk.conv' ((Blk.far (p:=⟨g,3,none⟩) (Blk.far (p:=⟨g,2,none⟩) (Blk.far (p:=⟨g,1,none⟩) (Blk.far (p:=⟨g,0,none⟩) k hne.symm _) hne.symm _) hne.symm _) hne.symm _).set_ 0 v') (by simp)
 ·exact ((((KeepsOthers.setCell _ _ _).trans (KeepsOthers.setCell _ _ _)).trans (KeepsOthers.setCell _ _ _)).trans (KeepsOthers.setCell _ _ _)).trans (KeepsOthers.setCell _ _ _)
 ·exact Ext.setCell (p:=⟨g',0,none⟩) (Ext.setCell (p:=⟨g,3,none⟩) (Ext.setCell (p:=⟨g,2,none⟩) (Ext.setCell (p:=⟨g,1,none⟩) (Ext.setCell (p:=⟨g,0,none⟩) hx h1 _) h1 _) h1 _) h1 _) h2 _
structure Looking (w:World) (A:Option Addr) (n c:Nat) (s:ByteArray) (l:List Pf) (k:Nat) (W:World):Prop where
 r0:Blk W w.heap.size 23 #[.slice A n c]
 r1:Blk W (w.heap.size+1) 9 #[.string s]
 r2:Blk W (w.heap.size+2) 61 Pf.zero.arr
 r3:Blk W (w.heap.size+3) 4 #[.bool false]
 r4:Blk W (w.heap.size+4) 23 #[.slice A n c]
 ext:Ext w W
 before:∀ (j:Nat) (g:Pf),j < k→l[j]?=some g→Qm.eqB g.path s=false
def Spotted (w:World) (s:ByteArray) (l:List Pf) (W:World):Prop:=
 ∃ f,Tr.find l s=some f∧Blk W (w.heap.size+2) 61 f.arr∧Blk W (w.heap.size+3) 4 #[.bool true]∧Ext w W
theorem Looking.into {w:World} {A:Option Addr} {n c:Nat} {s:ByteArray} {l:List Pf} {k:Nat} {W W':World} (h:Looking w A n c s l k W) (hx:Ext W W'):Looking w A n c s l k W':=
 ⟨h.r0.ext hx,h.r1.ext hx,h.r2.ext hx,h.r3.ext hx,h.r4.ext hx,h.ext.trans hx,h.before⟩
theorem Looking.steady {w:World} {A:Option Addr} {n c:Nat} {s:ByteArray} {l:List Pf} {B:Nat} (hB:w.heap.size≤B) (k:Nat):Steady B (Looking w A n c s l k):=fun W W' row h hg hr=>by
 have ht:Turned W W':=⟨row,hg,fun r e=>(hr r e).2⟩
 exact ⟨h.r0.turned ht,h.r1.turned ht,h.r2.turned ht,h.r3.turned ht,h.r4.turned ht,Ext.steady w hB W W' row h.ext hg hr,h.before⟩
theorem Spotted.steady {w:World} {s:ByteArray} {l:List Pf} {B:Nat} (hB:w.heap.size≤B):Steady B (Spotted w s l):=fun W W' row h hg hr=>by
 have ht:Turned W W':=⟨row,hg,fun r e=>(hr r e).2⟩
 obtain ⟨f,h1,h2,h3,h4⟩:=h
 exact ⟨f,h1,h2.turned ht,h3.turned ht,Ext.steady w hB W W' row h4 hg hr⟩
theorem Looking.next {w:World} {A:Option Addr} {n c:Nat} {s:ByteArray} {l:List Pf} {k:Nat} {W:World} {f:Pf} (h:Looking w A n c s l k W) (hf:l[k]?=some f) (he:Qm.eqB f.path s=false):Looking w A n c s l (k+1) W:=
 ⟨h.r0,h.r1,h.r2,h.r3,h.r4,h.ext,fun j g hj hg=>by
  rcases Nat.lt_succ_iff_lt_or_eq.1 hj with h1 | rfl
  ·exact h.before j g h1 hg
  ·rw [hf] at hg
   obtain rfl:=Option.some.inj hg
   exact he⟩
set_option maxHeartbeats 16000000 in
set_option maxRecDepth 100000 in
theorem find_in (n0:Nat) (hn0:9≤n0) (A:Option Addr) (n c:Nat) (s:ByteArray) (l:List Pf) (w:World) (h:Trs w A l) (hn:l.length=n) (hb:n≤10000000000000):
 CallsIn Fence.wide n0 Tryz.prog 183 #[.slice A n c,.string s] w (Ret (Tr.found l s) w):=by
 have HQ:=Lib.hid h
 have HN:=Lib.hid hn
 have HGV:=Lib.hid (fun n1 (h1:3≤n1)=>teach1_gives n1 h1 (w.heap.size+4) A n c l hn hb (Looking w A n c s l) (Spotted w s l) (fun k W h'=>⟨h'.r4,h.ext h'.ext⟩) (fun k W W' h' hx=>h'.into hx))
 clear h hn
 refine callsIn_of_wp_marks Tryz.func183 rfl trivial ?_ rfl
 simp only [Tryz.ntmps183,List.size_toArray,List.length_cons,List.length_nil,Nat.reduceAdd,Nat.reduceSub,Array.replicate_succ,Array.replicate_zero,List.push_toArray,List.append_toArray,List.nil_append,List.cons_append]
 gi_wp2_with (refine ⟨trivial,fun _=>(by omega),?_⟩;gi_at_call 191;refine (callsIn_wide.2 (teach_same _ _ _ _)).mono ?_;rintro e w1 ⟨rfl,hww⟩;first | obtain rfl:=hww.symm | obtain rfl:=hww)
 have HB0:Hid (Looking w A n c s l 0 (((((w.alloc (.cells #[.slice A n c] 23)).alloc (.cells #[.string s] 9)).alloc (.cells Pf.zero.arr 61)).alloc (.cells #[.bool false] 4)).alloc (.cells #[.slice A n c] 23))):=Lib.hid
  ⟨Blk.alloc (Blk.alloc (Blk.alloc (Blk.alloc (Blk.new' rfl) _) _) _) _,Blk.alloc (Blk.alloc (Blk.alloc (Blk.new' (by simp)) _) _) _,Blk.alloc (Blk.alloc (Blk.new' (by simp)) _) _,Blk.alloc (Blk.new' (by simp)) _,Blk.new' (by simp),(((((Ext.refl w).alloc _).alloc _).alloc _).alloc _).alloc _,fun j g hj=>absurd hj (Nat.not_lt_zero j)⟩
 refine wpIn_range_leave (gf:=196) (lb:=#[.pointer (some ⟨w.heap.size+1+1+1+1,0,none⟩)]) rfl (enters_of Tryz.func196 (by kernel_rfl) rfl) (encs:=fun x:Nat × Pf=>#[.int .i64 x.1,x.2.v]) (HGV.out (n0 - 1) (by omega)) (fun _=>rfl)
  (fun k x a' W=>∃ g,Looking w A n c s l k W∧l[k]?=some x.2∧x.1=k∧k < n∧Blk W g 61 x.2.arr∧a'={ tmps:=#[.slice A n c,.string s,.pointer (some ⟨w.heap.size,0,none⟩),.pointer (some ⟨w.heap.size+1,0,none⟩),.pointer (some ⟨w.heap.size+1+1,0,none⟩),.pointer (some ⟨w.heap.size+1+1+1,0,none⟩),.int .i64 x.1,.pointer (some ⟨g,0,none⟩),.slice A n c,.func (.func 196) #[] #[.pointer (some ⟨w.heap.size+1+1+1+1,0,none⟩)],.int .i64 x.1,x.2.v,undef,undef,undef,undef,undef,undef,undef,undef,undef],defers:=[] })
  (fun k=>Looking.steady (by simp;omega) k) ?stA (fun k x=>Looking.steady (by simp;omega) (k+1)) (Spotted.steady (by simp;omega)) HB0.out ?assign ?body ?done ?stop
 case stA=>
  rintro k x a' W W' row ⟨g,h1,h2,h3,h4,h5,h6⟩ hg hr
  exact ⟨g,Looking.steady (by simp;omega) k W W' row h1 hg hr,h2,h3,h4,h5.turned ⟨row,hg,fun r e=>(hr r e).2⟩,h6⟩
 case assign=>
  rintro l' k ⟨x1,f⟩ W K ⟨hA,hf,hx1⟩ hK
  have HA:=Lib.hid hA
  have HK:=Lib.hid hK
  have HF:=Lib.hid hf
  have hkn:k < n:=by rw [← HN.out];exact (List.getElem?_eq_some_iff.1 hf).1
  clear hA hK HGV HB0 hf
  dsimp only at hx1
  subst hx1
  gi_wp2
  exact HK.out _ _ ((Ext.refl W).alloc _).keeps ⟨_,HA.out.into ((Ext.refl W).alloc _),HF.out,by simp,hkn,Blk.new' rfl,rfl⟩
 case body=>
  rintro l' k ⟨x1,f⟩ a' W ⟨g,hL,hf,hx1,hkn,hbg,rfl⟩
  clear HGV HB0
  dsimp only at hx1 hf hbg
  subst hx1
  have HL:=Lib.hid hL
  have HF:=Lib.hid hf
  have hcg:=hbg.cell
  have hlg:=hbg.lt
  have hc0:=hL.r0.cell
  have hl0:=hL.r0.lt
  have hc1:=hL.r1.cell
  have hl1:=hL.r1.lt
  have hc2:∀ i,W.cell? ⟨w.heap.size+1+1,i,none⟩=_:=hL.r2.cell
  have hf2:∀ i,W.frozen? ⟨w.heap.size+1+1,i,none⟩=_:=hL.r2.frozen
  have hl2:w.heap.size+1+1 < W.heap.size:=hL.r2.lt
  have hc3:∀ i,W.cell? ⟨w.heap.size+1+1+1,i,none⟩=_:=hL.r3.cell
  have hf3:∀ i,W.frozen? ⟨w.heap.size+1+1+1,i,none⟩=_:=hL.r3.frozen
  have hl3:w.heap.size+1+1+1 < W.heap.size:=hL.r3.lt
  obtain ⟨b,o,rfl,hbl,c0,c1,c2,c3⟩:=(HQ.out.ext hL.ext).get hf
  have HZ0:Hid (Qm.eqB f.path s=false→Looking w (some ⟨b,o,none⟩) n c s l (x1+1) W):=Lib.hid (fun he=>hL.next hf he)
  have HZ1:Hid (Qm.eqB f.path s=true→_):=Lib.hid (fun he=>(⟨Tr.find_at hf hL.before he,two_set (a':=.string f.path) (b':=.int .i64 f.ty) (c':=.int .i64 f.mode) (d':=.string f.data) (v':=.bool true) hL.r2 hL.r3 (by omega),hL.ext⟩:_∧_∧_))
  clear hL hf hbg
  cases he:Qm.eqB f.path s
  ·have HZ:=Lib.hid (HZ0.out he)
   have he':(f.path.toList == s.toList)=false:=he
   clear HZ0 HZ1 he
   gi_wp2
   exact ⟨(Ext.refl W).keeps,HZ.out⟩
  ·have HZ:=Lib.hid (HZ1.out he)
   have he':(f.path.toList == s.toList)=true:=he
   clear HZ0 HZ1 he
   gi_wp2
   obtain ⟨z1,⟨z2,z3,z4,z5⟩,z6⟩:=HZ.out
   exact ⟨z4,f,z1,z2,z3,z5 w z6 (by omega) (by omega)⟩
 case done=>
  intro D W hD hI hK
  have hD2:w.heap.size≤D:=by simp at hD;omega
  obtain ⟨z2,z3,z4,z5⟩:=two_set (a':=.string ⟨#[]⟩) (b':=.int .i64 0) (c':=.int .i64 0) (d':=.string ⟨#[]⟩) (v':=.bool false) hI.r2 hI.r3 (by omega)
  have hk6:=z4.same _ _ hK rfl
  have hx6:=(z5 w hI.ext (by omega) (by omega)).putObj hD2 (.deferred none)
  have ht:=(⟨some D,grownBy_putObj' _ D (.deferred none),fun r e=>by cases e;exact ⟨_,hk6,rfl⟩⟩:Turned _ _)
  have t1:∀ i,World.cell? _ ⟨w.heap.size+1+1,i,none⟩=_:=(z2.turned ht).cell
  have t2:∀ i,World.cell? _ ⟨w.heap.size+1+1+1,i,none⟩=_:=(z3.turned ht).cell
  have HT1:=Lib.hid t1
  have HT2:=Lib.hid t2
  have HX6:=Lib.hid hx6
  have HK6:=Lib.hid hk6
  have HZ:Hid (Tr.find l s=none):=Lib.hid (Tr.find_none_iff.2 (fun f hf=>by
   obtain ⟨j,hj,e⟩:=List.mem_iff_getElem.1 hf
   exact hI.before j f (by rw [← HN.out];exact hj) (by rw [List.getElem?_eq_getElem hj,e])))
  have hc2:∀ i,W.cell? ⟨w.heap.size+1+1,i,none⟩=_:=hI.r2.cell
  have hf2:∀ i,W.frozen? ⟨w.heap.size+1+1,i,none⟩=_:=hI.r2.frozen
  have hl2:w.heap.size+1+1 < W.heap.size:=hI.r2.lt
  have hc3:∀ i,W.cell? ⟨w.heap.size+1+1+1,i,none⟩=_:=hI.r3.cell
  have hf3:∀ i,W.frozen? ⟨w.heap.size+1+1+1,i,none⟩=_:=hI.r3.frozen
  have hl3:w.heap.size+1+1+1 < W.heap.size:=hI.r3.lt
  clear hI hK hD hD2 HGV HB0 HQ HN z2 z3 z4 z5 hk6 hx6 ht t1 t2
  gi_wp2
  clear hc2 hf2 hl2 hc3 hf3 hl3
  refine ⟨by simp,.inl ⟨_,_,rfl,run_takeDeferred HK6.out,?_⟩⟩
  refine ⟨.tuple #[Pf.zero.v,.bool false],?_,?_⟩
  ·have t1:=HT1.out
   have t2:=HT2.out
   clear HX6 HK6
   simp only [results,Tryz.results183]
   go_simp
   exact ⟨rfl,rfl,rfl,rfl⟩
  ·exact ⟨by unfold Tr.found;rw [HZ.out];rfl,HX6.out⟩
 case stop=>
  intro D W hD hX hK
  obtain ⟨f,hm,r1,r2,hx⟩:=hX
  have HK:=Lib.hid hK
  have ht:Turned W (W.putObj D (.deferred none)):=⟨some D,grownBy_putObj' W D _,fun r e=>by cases e;exact ⟨_,HK.out,rfl⟩⟩
  have t1:∀ i,(W.putObj D (.deferred none)).cell? ⟨w.heap.size+1+1,i,none⟩=_:=(r1.turned ht).cell
  have t2:∀ i,(W.putObj D (.deferred none)).cell? ⟨w.heap.size+1+1+1,i,none⟩=_:=(r2.turned ht).cell
  have HX:=Lib.hid (hx.putObj (D:=D) (by simp at hD;omega) (.deferred none))
  have HM:=Lib.hid hm
  clear ht r1 r2 hx hm hK HGV HB0 HQ HN
  gi_wp2_with fail
  refine ⟨by simp,.inl ⟨_,_,rfl,run_takeDeferred HK.out,?_⟩⟩
  refine ⟨.tuple #[f.v,.bool true],?_,?_⟩
  ·simp only [results,Tryz.results183]
   go_simp
  ·exact ⟨by unfold Tr.found;rw [HM.out];rfl,HX.out⟩
theorem find_any (A:Option Addr) (n c:Nat) (s:ByteArray) (l:List Pf) (w:World) (h:Trs w A l) (hn:l.length=n) (hb:n≤10000000000000):
 Calls Tryz.prog 183 #[.slice A n c,.string s] w (Ret (Tr.found l s) w):=
 (callsIn_wide (n:=9)).1 (find_in 9 (Nat.le_refl _) A n c s l w h hn hb)
end Go.Proofs.YtfmgnaigcibcaaaGreatDoor
