import Derived.Test.YtfmgnaigcibcaaaGreatDoorTJr
import Derived.Test.YtfmgnaigcibcaaaGreatDoorTJn
import Derived.Test.YtfmgnaigcibcaaaGreatDoorTJo
import Derived.RangeFuncNested
import Derived.RangeFuncBound
import Derived.RangeFuncLeaves
import Derived.Shelf.Abstract
import Derived.Shelf.RegionOpen
import Derived.OwnWalkIn
import Derived.TacticsInMore
import Derived.LoopNIn
import Derived.LoopIn
import Derived.Test.YtfmgnaigcibcaaaGreatDoorTJp
set_option linter.unusedSimpArgs false
set_option linter.unusedVariables false
namespace Go.Proofs.YtfmgnaigcibcaaaGreatDoor
open Go Go.RowKit
attribute [local go_sem ↓] Go.wp_at_zero Go.wp_at_succ
def Car (x:Qp) (l:List Qp) (k:Nat) (xk:Qp) (outs:List Qp):Prop:=
 outs.length=k∧xk.Fits∧Sq.carried x l=match Sq.carried xk (l.drop k) with
  | .ok r=>.ok (r.1,outs ++ r.2)
  | .error j=>.error (j+k)
theorem Car.start (x:Qp) (l:List Qp) (hf:x.Fits):Car x l 0 x []:=by
 refine ⟨rfl,hf,?_⟩
 rw [List.drop_zero]
 cases Sq.carried x l <;> rfl
theorem Car.step {x:Qp} {l:List Qp} {k:Nat} {xk y:Qp} {outs:List Qp} (h:Car x l k xk outs) (hy:l[k]?=some y) (hm:(xk.merge y).2.2=true):Car x l (k+1) (xk.merge y).2.1 (outs ++ [(xk.merge y).1]):=by
 obtain ⟨h1,h2,h3⟩:=h
 refine ⟨by simp [h1],(merge_fits hm).2,?_⟩
 obtain ⟨hlt,e⟩:=List.getElem?_eq_some_iff.1 hy
 rw [h3,List.drop_eq_getElem_cons hlt,e,Sq.carried,if_pos hm]
 cases Sq.carried (xk.merge y).2.1 (l.drop (k+1)) with
 | ok r=>simp
 | error j=>simp;omega
theorem Car.dies {x:Qp} {l:List Qp} {k:Nat} {xk y:Qp} {outs:List Qp} (h:Car x l k xk outs) (hy:l[k]?=some y) (hm:¬ (xk.merge y).2.2=true):Sq.carried x l=.error k:=by
 obtain ⟨h1,h2,h3⟩:=h
 obtain ⟨hlt,e⟩:=List.getElem?_eq_some_iff.1 hy
 rw [h3,List.drop_eq_getElem_cons hlt,e,Sq.carried,if_neg hm]
 simp
theorem Car.ends {x:Qp} {l:List Qp} {k:Nat} {xk:Qp} {outs:List Qp} (h:Car x l k xk outs) (hk:l.length≤k):Sq.carried x l=.ok (xk,outs):=by
 obtain ⟨h1,h2,h3⟩:=h
 rw [h3,List.drop_of_length_le hk]
 simp [Sq.carried]
def rowCells (P:Pv) (B:Option Addr) (n c:Nat) (at_:Int) (ok:Bool):Array Value:=
 #[.int .i64 P.kind,.string P.path,.string P.to_,.int .i64 P.ty,.int .i64 P.at_,.slice P.A1 P.n1 P.c1,.slice P.A2 P.n2 P.c2,.int .i64 P.off,.string P.so,.string P.sn,.int .i64 P.om,.int .i64 P.nm,.slice B n c,.int .i64 at_,.bool ok]
def Fresh (F:Nat→Prop) (w:World) (b:Nat):Prop:=(F b∧b < w.heap.size)∨w.heap.size≤b
def Carried (F:Nat→Prop) (R:Except Nat (Qp × List Qp)) (w:World) (e:Ending) (w':World):Prop:=
 (match R with
   | .ok r=>∃ P B c,e=.returned (.agg (rowCells P B r.2.length c 0 true))∧Hid (Is w' (Fresh F w) P r.1)∧Hid (Qs w' (Fresh F w) B r.2)∧Hid ((B=none→c=0)∧∀ ad,B=some ad→w.heap.size≤ad.block∧ad.block < w'.heap.size)
   | .error k=>e=.returned (.agg (rowCells (Qp.zero.pv none 0 none 0) none 0 0 k false)))∧Ext w w'
theorem Qs.one {W:World} {g:Nat} {G:Nat→Prop} {P:Pv} {q:Qp} (hb:Blk W g 28 (parr P)) (hi:Is W G P q):Qs W G (Option.some ⟨g,0,Option.none⟩) [q]:=by
 refine ⟨[P],rfl,fun _=>⟨g,0,rfl,hb.lt,fun i p hp j v hv=>?_⟩,fun i p q' hp hq=>?_⟩
 ·have h0:i=0:=by have :=(List.getElem?_eq_some_iff.1 hp).1;simpa using this
  subst h0
  obtain rfl:P=p:=Option.some.inj hp
  rw [hb.cell]
  simpa using hv
 ·have h0:i=0:=by have :=(List.getElem?_eq_some_iff.1 hp).1;simpa using this
  subst h0
  obtain rfl:P=p:=Option.some.inj hp
  obtain rfl:q=q':=Option.some.inj hq
  exact hi
abbrev z15:Array Value:=#[.int .i64 0,.string ⟨#[]⟩,.string ⟨#[]⟩,.int .i64 0,.int .i64 0,.slice none 0 0,.slice none 0 0,.int .i64 0,.string ⟨#[]⟩,.string ⟨#[]⟩,.int .i64 0,.int .i64 0,.slice none 0 0,.int .i64 0,.bool false]
set_option maxHeartbeats 16000000 in
set_option maxRecDepth 100000 in
theorem carried_any (A:Option Addr) (n c:Nat) (l:List Qp) (p:Pv) (x:Qp) (w:World) (hg:Glob w) {F:Nat→Prop} (hq:Qs w F A l) (hn:l.length=n) (hx:Is w F p x) (fx:x.Fits) (hf:∀ q∈l,q.Fits) (hb:n≤100000000000):
 Calls Tryz.prog 100 #[p.v,.slice A n c] w (Carried F (Sq.carried x l) w):=by
 have HQ:=Lib.hid hq.in
 have HX:=Lib.hid hx.in
 have HG:=Lib.hid hg
 have HN:=Lib.hid hn
 have HF:=Lib.hid hf
 have HC0:=Lib.hid (Car.start x l fx)
 have HR:Hid (∀ k xk y outs,Car x l k xk outs→l[k]?=some y→¬ (xk.merge y).2.2=true→Sq.carried x l=.error k):=Lib.hid fun k xk y outs h=>h.dies
 have HE:Hid (∀ k xk outs,Car x l k xk outs→l.length≤k→Sq.carried x l=.ok (xk,outs)):=Lib.hid fun k xk outs h=>h.ends
 generalize Sq.carried x l=R at HR HE ⊢
 clear hq hx hg hn hf fx
 go_enter Tryz.func100,Tryz.ntmps100
 have hx:=Ext.refl w
 go_wp2_with fail
 have hbx:=Lib.hid (show Blk ((w.alloc (.cells (parr p) 28)).alloc (.cells z15 95)) w.heap.size 28 (parr p) from Blk.alloc (Blk.new' rfl) _)
 have hbr:=Lib.hid (show Blk ((w.alloc (.cells (parr p) 28)).alloc (.cells z15 95)) (w.heap.size+1) 95 z15 from Blk.new' (by simp))
 have hx0:Ext w ((w.alloc (.cells (parr p) 28)).alloc (.cells z15 95)):=((Ext.refl w).alloc _).alloc _
 generalize ((w.alloc (.cells (parr p) 28)).alloc (.cells z15 95))=w0 at hbx hbr hx0 ⊢
 have HP0:=Lib.hid ((HX.out.ext hx0).mono (G:=fun b=>((b≠w.heap.size∧b≠w.heap.size+1)∧Fresh F w b)∧some b≠Value.ownBlock (.slice none 0 0)) fun b hb=>⟨⟨⟨Nat.ne_of_lt hb.2,by have :=hb.2;omega⟩,.inl hb⟩,by simp [Value.ownBlock]⟩)
 clear hx HX
 go_loopw [6,14] (fun u6 u14 wr=>∃ (k:Nat) (xk:Qp) (P:Pv) (outs:List Qp),k≤n∧u14=.int .i64 k∧Hid (Car x l k xk outs)∧Hid (Grows wr (w.heap.size+2) (fun b=>(b≠w.heap.size∧b≠w.heap.size+1)∧Fresh F w b) u6 outs)∧Hid (Is wr (fun b=>((b≠w.heap.size∧b≠w.heap.size+1)∧Fresh F w b)∧some b≠u6.ownBlock) P xk)∧Hid (Blk wr w.heap.size 28 (parr P))∧Hid (Blk wr (w.heap.size+1) 95 z15)∧Ext w wr) (fun u6 u14 wr=>n - (intOf u14).toNat)
 case atStart=>exact ⟨0,x,p,[],Nat.zero_le _,rfl,HC0,Lib.hid (Grows.nil _ _ _),HP0,hbx,hbr,hx0⟩
 case round=>
  clear HC0 HP0 hbx hbr hx0
  obtain ⟨k,xk,P,outs,hk,rfl,HCar,HGr,HP,HB,HRow,hx⟩:=hrel
  by_cases hlt:k < n
  ·have hkl:k < l.length:=by rw [HN.out];exact hlt
   have e1:l[k]?=some (l[k]'hkl):=List.getElem?_eq_getElem hkl
   obtain ⟨b,o,p2,rfl,hbl,hc,hi⟩:=(HQ.out.ext hx).get e1
   have fy:=HF.out _ (List.mem_of_getElem? e1)
   generalize l[k]'hkl=y at e1 hi fy
   have E1:=Lib.hid e1
   have hown:=HGr.out.own
   have HTB:=Lib.hid (fun W (hW:Ext wr W)=>through_box w.heap.size P p2 xk y W (HG.out.ext (hx.trans hW)) (Blk.ext hW HB.out) (F:=fun b=>(b≠w.heap.size+1∧Fresh F w b)∧some b≠u6.ownBlock) ((HP.out.ext hW).mono fun b hb=>⟨hb.1.1.1,⟨hb.1.1.2,hb.1.2⟩,hb.2⟩) ((hi.ext hW).mono fun b hb=>⟨Nat.ne_of_lt hb.2,⟨by have :=hb.2;omega,.inl hb⟩,fun e=>by have :=(hown b e.symm).1;have:=hb.2;omega⟩) HCar.out.2.1 fy)
   have HD:Hid (¬ (xk.merge y).2.2=true→R=.error k):=Lib.hid (HR.out k xk y outs HCar.out e1)
   have HS:Hid ((xk.merge y).2.2=true→Car x l (k+1) (xk.merge y).2.1 (outs ++ [(xk.merge y).1])):=Lib.hid (HCar.out.step e1)
   have HOW:=Lib.hid hown
   unfold Stepped at HTB
   generalize xk.merge y=M at HTB HD HS
   obtain ⟨c1,d1,m⟩:=M
   dsimp only at HTB HD HS
   obtain ⟨q0,q1,q2,q3,q4,q5,q6,q7,q8,q9,q10,q11⟩:=cells12 hc
   clear hc hi fy e1 hown hkl
   have hrow:=HRow.out.lt
   go_wp2_with fail
   clear q0 q1 q2 q3 q4 q5 q6 q7 q8 q9 q10 q11
   refine (HTB.out _ (by exact (Ext.refl wr).alloc _)).mono ?_
   rintro e w1 ⟨P1,P2,rfl,i1,i2,hbg,hkept⟩
   have hx1:Ext w w1:=hkept.out.ext w (hx.alloc _) (Nat.le_refl _)
   have hr1:Blk w1 (w.heap.size+1) 95 z15:=hkept.out.blk _ _ _ (Blk.alloc HRow.out _) (by omega)
   have gr1:=(HGr.out.ext ((Ext.refl wr).alloc _)).kept hkept.out (by omega) (fun b hb=>hb.1.1)
   have hyv:Blk w1 wr.heap.size 28 (parr p2):=hkept.out.blk _ _ _ (Blk.new' rfl) (by have :=hx.size_le;omega)
   have I1:Hid (Is w1 (fun b=>((b≠w.heap.size∧b≠w.heap.size+1)∧Fresh F w b)∧some b≠u6.ownBlock) P1 c1):=Lib.hid (i1.out.mono fun b hb=>⟨⟨⟨hb.1,hb.2.elim (fun h=>h.1.1) fun h=>by simp at h;omega⟩,hb.2.elim (fun h=>h.1.2) fun h=>.inr (by simp at h;omega)⟩,hb.2.elim (fun h=>h.2) fun h e=>by have :=(HOW.out b e.symm).2;simp at h;omega⟩)
   have I2:Hid (Is w1 (fun b=>((b≠w.heap.size∧b≠w.heap.size+1)∧Fresh F w b)∧some b≠u6.ownBlock) P2 (if m=true then d1 else xk)):=Lib.hid (i2.out.mono fun b hb=>⟨⟨⟨hb.1,hb.2.elim (fun h=>h.1.1) fun h=>by simp at h;omega⟩,hb.2.elim (fun h=>h.1.2) fun h=>.inr (by simp at h;omega)⟩,hb.2.elim (fun h=>h.2) fun h e=>by have :=(HOW.out b e.symm).2;simp at h;omega⟩)
   have HGr1:=Lib.hid gr1
   have HL:=Lib.hid HCar.out.1
   have HB1:=Lib.hid hbg
   have HR1:=Lib.hid hr1
   have hgl:=hbg.lt
   have hyl:=hyv.lt
   clear i1 i2 gr1 HGr HB HRow HP hkept hx hyv hrow HTB HCar
   have hx:=hx1
   clear hx1 hbg
   obtain ⟨hcr,hfr,hlr⟩:=hr1.all
   clear hr1
   cases m
   ·go_wp2_with fail
    refine bodyPost_ret (v:=.agg (rowCells (Qp.zero.pv none 0 none 0) none 0 0 k false)) ?_ rfl ?_
    ·simp only [results,Tryz.results100]
     go_simp
     simp [rowCells,Qp.zero]
    ·rw [HD.out (by simp)]
     exact ⟨rfl,EX⟩
   ·have II:=Lib.hid I2.out
    go_wp2_with (at_builtin;refine wpList_grow _ rfl _ _ 37 rfl Tryz.underlying37 (by kernel_rfl) (w.heap.size+2) u6 outs [c1] rfl (HGr1.out.ext (by repeat (first | with_reducible exact Ext.refl _ | with_reducible refine Ext.alloc ?_ _ | with_reducible refine Ext.drew1 ?_))) ⟨_,0,none⟩ 1 rfl (Qs.one (Blk.new' (by simp)) (I1.out.in.ext (by repeat (first | with_reducible exact Ext.refl _ | with_reducible refine Ext.alloc ?_ _ | with_reducible refine Ext.drew1 ?_)))) (fun b hb=>⟨Nat.lt_of_lt_of_le hb.2 (Ext.size_le (by repeat (first | with_reducible exact Ext.refl _ | with_reducible refine Ext.alloc ?_ _ | with_reducible refine Ext.drew1 ?_))),hb.1.1,hb.1.2⟩) (by simp) (by have :=HL.out;simp;omega) (Nat.le_trans (show w.heap.size+2≤w1.heap.size from hlr) (Ext.size_le (by repeat (first | with_reducible exact Ext.refl _ | with_reducible refine Ext.alloc ?_ _ | with_reducible refine Ext.drew1 ?_)))) ?_;intro g2 cap w3 hgr hgrow hlie)
    have iP:Is w3 (fun b=>((b≠w.heap.size∧b≠w.heap.size+1)∧Fresh F w b)∧some b≠Value.ownBlock (.slice (some ⟨g2,0,none⟩) (outs.length+[c1].length) cap)) P2 d1:=
     (Is.grownBy (Is.ext (show Is w1 _ P2 d1 from I2.out.in) (by repeat (first | with_reducible exact Ext.refl _ | with_reducible refine Ext.alloc ?_ _ | with_reducible refine Ext.drew1 ?_))) hgrow (fun b hb=>hb.1.2)).mono fun b hb=>⟨hb.1.1,fun e=>by
       have e':b=g2:=by simpa [Value.ownBlock] using e
       rcases hlie with h | h
       ·exact hb.1.2 (by rw [h,e'])
       ·have h2:=hb.2
        simp at h
        omega⟩
    have nG:∀ j,j < w.heap.size+2→some j≠u6.ownBlock:=fun j hj e=>by have :=(HOW.out j e.symm).1;omega
    have bg3:Blk w3 w.heap.size 28 (parr P2):=(hgrow.block _ (Nat.lt_of_lt_of_le hgl (Ext.size_le (by repeat (first | with_reducible exact Ext.refl _ | with_reducible refine Ext.alloc ?_ _ | with_reducible refine Ext.drew1 ?_)))) (nG _ (by omega))).trans (Blk.ext (by repeat (first | with_reducible exact Ext.refl _ | with_reducible refine Ext.alloc ?_ _ | with_reducible refine Ext.drew1 ?_)) HB1.out)
    have br3:Blk w3 (w.heap.size+1) 95 z15:=(hgrow.block _ (Nat.lt_of_lt_of_le hlr (Ext.size_le (by repeat (first | with_reducible exact Ext.refl _ | with_reducible refine Ext.alloc ?_ _ | with_reducible refine Ext.drew1 ?_)))) (nG _ (by omega))).trans (Blk.ext (by repeat (first | with_reducible exact Ext.refl _ | with_reducible refine Ext.alloc ?_ _ | with_reducible refine Ext.drew1 ?_)) HR1.out)
    have hx3:Ext w w3:=Ext.grownBy (hx.trans (by repeat (first | with_reducible exact Ext.refl _ | with_reducible refine Ext.alloc ?_ _ | with_reducible refine Ext.drew1 ?_))) hgrow (fun j hj=>by have :=(HOW.out j hj).1;omega)
    go_roundw
    case rel=>
     first
      | exact ⟨k+1,d1,P2,outs ++ [c1],hlt,rfl,Lib.hid (by first | exact HS.out rfl | exact HS.out trivial),Lib.hid hgr,Lib.hid iP,Lib.hid bg3,Lib.hid br3,hx3⟩
      | ((repeat apply Exists.intro);exact ⟨⟨k+1,d1,P2,outs ++ [c1],hlt,rfl,Lib.hid (by first | exact HS.out rfl | exact HS.out trivial),Lib.hid hgr,Lib.hid iP,Lib.hid bg3,Lib.hid br3,hx3⟩,rfl⟩)
    case measure=>simp [intOf];omega
  ·have HZ:=Lib.hid (fun h=>HE.out k xk outs HCar.out h)
   have hOwn:=HGr.out.own
   obtain ⟨B,cB,rfl,hqs,hle,hBn⟩:=HGr.out.qs
   have HQS:=Lib.hid hqs
   have hkn:k=n:=by omega
   have HL:=Lib.hid HCar.out.1
   have hcg:=HB.out.cell
   have hlg:=HB.out.lt
   have hcr:=HRow.out.cell
   have hfr:=HRow.out.frozen
   have hlr:=HRow.out.lt
   clear hqs
   have KQ:∀ W',Kept (w.heap.size+1) wr W'→Qs W' (Fresh F w) B outs:=fun W' hk=>by
    obtain ⟨B',c',e',hq',_⟩:=(HGr.out.kept hk (by omega) (fun b hb=>hb.1.2)).qs
    cases e'
    exact hq'.mono fun _ hb=>hb.1.2
   have HKQ:=Lib.hid KQ
   clear KQ HGr
   have HBn:Hid ((B=none→cB=0)∧∀ ad,B=some ad→w.heap.size≤ad.block∧ad.block < wr.heap.size):=Lib.hid ⟨hBn,fun ad e=>by have :=hOwn ad.block (by rw [e];rfl);omega⟩
   clear hBn hle hOwn
   go_wp2_with fail
   refine bodyPost_ret (v:=.agg (rowCells P B outs.length cB 0 true)) ?_ rfl ?_
   ·simp only [results,Tryz.results100]
    go_simp
    simp [rowCells]
   ·rw [HZ.out (by rw [HN.out];omega)]
    refine ⟨⟨P,B,cB,rfl,Lib.hid ?_,Lib.hid ?_,Lib.hid ⟨HBn.out.1,fun ad e=>⟨(HBn.out.2 ad e).1,Nat.lt_of_lt_of_le (HBn.out.2 ad e).2 ?sz⟩⟩⟩,?_⟩
    ·refine (Kept.isG (g:=w.heap.size+1) (w:=wr) ?_ P xk _ HP.out.in (fun b hb=>⟨hb.1.1.1.2,hb.2⟩)).mono fun _ hb=>hb.1.1.2
     (repeat (first | with_reducible exact Kept.refl _ _ | with_reducible refine Kept.alloc ?_ _ | with_reducible refine Kept.drew ?_ | with_reducible refine Kept.cell (b:=w.heap.size+1) ?_ (.inl rfl) _ _))
    ·refine HKQ.out _ ?_
     (repeat (first | with_reducible exact Kept.refl _ _ | with_reducible refine Kept.alloc ?_ _ | with_reducible refine Kept.drew ?_ | with_reducible refine Kept.cell (b:=w.heap.size+1) ?_ (.inl rfl) _ _))
    case sz=>
     refine Kept.size (g:=w.heap.size+1) ?_
     (repeat (first | with_reducible exact Kept.refl _ _ | with_reducible refine Kept.alloc ?_ _ | with_reducible refine Kept.drew ?_ | with_reducible refine Kept.cell (b:=w.heap.size+1) ?_ (.inl rfl) _ _))
    ·refine Kept.ext (g:=w.heap.size+1) (w:=wr) ?_ w hx (by omega)
     (repeat (first | with_reducible exact Kept.refl _ _ | with_reducible refine Kept.alloc ?_ _ | with_reducible refine Kept.drew ?_ | with_reducible refine Kept.cell (b:=w.heap.size+1) ?_ (.inl rfl) _ _))
end Go.Proofs.YtfmgnaigcibcaaaGreatDoor
namespace Go.Proofs.YtfmgnaigcibcaaaGreatDoor
open Go Go.RowKit Go.Shelf
attribute [local go_sem] Oper.semAt_some
def NoBox (s z b:Nat):Prop:=(b < s∨s+4≤b)∧(b < z∨z+4≤b)
def Ours (F:Nat→Prop) (w:World) (z b:Nat):Prop:=NoBox w.heap.size z b∧Fresh F w b
def Aside (F:Nat→Prop) (w:World) (z:Nat) (v:Value) (W:World) (C:Option Addr) (l:List Qp):Prop:=
 Qs W (fun b=>Ours F w z b∧some b≠v.ownBlock) C l∧(0 < l.length→∀ ad,C=some ad→NoBox w.heap.size z ad.block∧some ad.block≠v.ownBlock∧ad.block < W.heap.size)
structure Boxes (F:Nat→Prop) (w:World) (z:Nat) (va u8 u9 vb:Value) (outs:List Qp) (W:World):Prop where
 r0:Blk W w.heap.size 37 #[.slice none 0 0]
 r1:Blk W (w.heap.size+1) 37 #[.slice none 0 0]
 r2:Blk W (w.heap.size+2) 57 #[.int .i64 0,.int .i64 0]
 r3:Blk W (w.heap.size+3) 4 #[.bool false]
 b8:Blk W z 37 #[u8]
 b9:Blk W (z+1) 37 #[u9]
 ba:Blk W (z+2) 37 #[va]
 bb:Blk W (z+3) 37 #[vb]
 gr:Grows W (z+4) (Ours F w z) u9 outs
 ext:Ext w W
 low:w.heap.size+4≤z
section
variable {F:Nat→Prop} {w W W':World} {z:Nat} {va u8 u9 vb:Value} {outs l:List Qp} {C:Option Addr}
theorem Aside.ext (h:Aside F w z u9 W C l) (hx:Ext W W'):Aside F w z u9 W' C l:=⟨h.1.ext hx,fun h0 ad e=>⟨(h.2 h0 ad e).1,(h.2 h0 ad e).2.1,Nat.lt_of_lt_of_le (h.2 h0 ad e).2.2 hx.size_le⟩⟩
theorem Aside.turned (h:Aside F w z u9 W C l) (hx:Turned W W'):Aside F w z u9 W' C l:=⟨h.1.turned hx,fun h0 ad e=>⟨(h.2 h0 ad e).1,(h.2 h0 ad e).2.1,Nat.lt_of_lt_of_le (h.2 h0 ad e).2.2 hx.size⟩⟩
theorem Boxes.into (h:Boxes F w z va u8 u9 vb outs W) (hx:Ext W W'):Boxes F w z va u8 u9 vb outs W':=
 ⟨h.r0.ext hx,h.r1.ext hx,h.r2.ext hx,h.r3.ext hx,h.b8.ext hx,h.b9.ext hx,h.ba.ext hx,h.bb.ext hx,h.gr.ext hx,h.ext.trans hx,h.low⟩
theorem Boxes.steady {B:Nat} (hB:w.heap.size≤B):Steady B (Boxes F w z va u8 u9 vb outs):=fun W W' row h hg hr=>by
 have ht:Turned W W':=⟨row,hg,fun r e=>(hr r e).2⟩
 exact ⟨h.r0.turned ht,h.r1.turned ht,h.r2.turned ht,h.r3.turned ht,h.b8.turned ht,h.b9.turned ht,h.ba.turned ht,h.bb.turned ht,h.gr.turned ht,Ext.steady w hB W W' row h.ext hg hr,h.low⟩
theorem Boxes.store (h:Boxes F w z va u8 u9 vb outs W) (v:Value):Boxes F w z va u8 u9 v outs (W.setCell ⟨z+3,0,none⟩ v):=by
 have hk:Off (fun b=>b=z+3) W (W.setCell ⟨z+3,0,none⟩ v):=(Off.refl (fun b=>b=z+3) W).cell ⟨z+3,0,none⟩ (.inl rfl) v
 have low:=h.low
 refine ⟨h.r0.offD hk (by omega),h.r1.offD hk (by omega),h.r2.offD hk (by omega),h.r3.offD hk (by omega),h.b8.offD hk (by omega),h.b9.offD hk (by omega),h.ba.offD hk (by omega),h.bb.set_ 0 v,h.gr.offD hk (fun k e=>by have :=h.gr.own k e;omega) (fun b hb=>by have :=hb.1.2;omega),hk.ext h.ext (fun k e=>by omega),low⟩
theorem Aside.store (h:Aside F w z u9 W C l) (v:Value):Aside F w z u9 (W.setCell ⟨z+3,0,none⟩ v) C l:=by
 have hk:Off (fun b=>b=z+3) W (W.setCell ⟨z+3,0,none⟩ v):=(Off.refl (fun b=>b=z+3) W).cell ⟨z+3,0,none⟩ (.inl rfl) v
 exact ⟨h.1.offD hk (fun h0 ad e=>by have :=(h.2 h0 ad e).1.2;omega) (fun b hb=>by have :=hb.1.1.2;omega),fun h0 ad e=>⟨(h.2 h0 ad e).1,(h.2 h0 ad e).2.1,by simpa using (h.2 h0 ad e).2.2⟩⟩
end
section
variable (F:Nat→Prop) (w:World) (z:Nat) (A:Option Addr) (n cA:Nat) (m:Nat) (a b:List Qp)
def Between (k:Nat) (W:World):Prop:=
 ∃ (bk outs:List Qp) (u9:Value) (B:Option Addr) (cB:Nat) (A8:Option Addr) (c8:Nat),Mer a b k bk outs∧Boxes F w z (.slice A n cA) (.slice A8 m c8) u9 (.slice B m cB) outs W ∧
  Aside F w z u9 W B bk∧Aside F w z u9 W A8 bk∧(B=none→cB=0)∧(A8=none→c8=0)
def Asked (k:Nat) (x:Value × Value × Nat) (W:World):Prop:=
 ∃ (bk outs:List Qp) (u8 u9:Value) (B:Option Addr) (cB:Nat) (xk:Qp) (P:Pv) (B':Option Addr) (m' c':Nat) (j:Int) (ok:Bool),Mer a b k bk outs∧Boxes F w z (.slice A n cA) u8 u9 (.slice B m cB) outs W ∧
  a[k]?=some xk∧xk.Fits∧x.1=.int .i64 k∧x.2.1=.agg (rowCells P B' m' c' j ok)∧Blk W x.2.2 95 (rowCells P B' m' c' j ok)∧NoBox w.heap.size z x.2.2∧some x.2.2≠u9.ownBlock ∧
  ((∃ r,Sq.carried xk bk=.ok r∧ok=true∧m'=m∧j=0∧Is W (fun b=>Ours F w z b∧some b≠u9.ownBlock) P r.1∧Aside F w z u9 W B' r.2∧(B'=none→c'=0))∨∃ i:Nat,Sq.carried xk bk=.error i∧ok=false∧j=i)
def Gone (k:Nat) (x:Value × Value × Nat) (W:World):Prop:=
 ∃ (bk outs:List Qp) (u9:Value) (B:Option Addr) (cB:Nat) (B':Option Addr) (c':Nat) (P:Pv),Mer a b (k+1) bk outs∧Boxes F w z (.slice A n cA) (.slice B' m c') u9 (.slice B m cB) outs W ∧
  Aside F w z u9 W B' bk∧(B'=none→c'=0)∧Blk W x.2.2 95 (rowCells P B' m c' 0 true)∧NoBox w.heap.size z x.2.2
def Broke (W:World):Prop:=
 ∃ i j:Nat,Sq.merge a b=.error (i,j)∧Blk W w.heap.size 37 #[.slice none 0 0]∧Blk W (w.heap.size+1) 37 #[.slice none 0 0]∧Blk W (w.heap.size+2) 57 #[.int .i64 i,.int .i64 j]∧Blk W (w.heap.size+3) 4 #[.bool false]∧Ext w W
end
section
variable {F:Nat→Prop} {w:World} {z:Nat} {A:Option Addr} {n cA:Nat} {m:Nat} {a b:List Qp}
theorem Between.steady {B:Nat} (hB:w.heap.size≤B) (k:Nat):Steady B (Between F w z A n cA m a b k):=fun W W' row h hg hr=>by
 have ht:Turned W W':=⟨row,hg,fun r e=>(hr r e).2⟩
 obtain ⟨bk,outs,u9,B,cB,A8,c8,h1,h2,h3,h4,h5⟩:=h
 exact ⟨bk,outs,u9,B,cB,A8,c8,h1,Boxes.steady hB W W' row h2 hg hr,h3.turned ht,h4.turned ht,h5⟩
theorem Asked.steady {B:Nat} (hB:w.heap.size≤B) (k:Nat) (x:Value × Value × Nat):Steady B (Asked F w z A n cA m a b k x):=fun W W' row h hg hr=>by
 have ht:Turned W W':=⟨row,hg,fun r e=>(hr r e).2⟩
 obtain ⟨bk,outs,u8,u9,B,cB,xk,P,B',m',c',j,ok,h1,h2,h3,h4,h5,h6,h7,h8,h9,h10⟩:=h
 refine ⟨bk,outs,u8,u9,B,cB,xk,P,B',m',c',j,ok,h1,Boxes.steady hB W W' row h2 hg hr,h3,h4,h5,h6,h7.turned ht,h8,h9,?_⟩
 rcases h10 with ⟨r,g1,g2,g3,g4,g5,g6,g7⟩ | h
 ·exact .inl ⟨r,g1,g2,g3,g4,g5.turned ht,g6.turned ht,g7⟩
 ·exact .inr h
theorem Asked.ext {k:Nat} {x:Value × Value × Nat} {W W':World} (h:Asked F w z A n cA m a b k x W) (hx:Ext W W'):Asked F w z A n cA m a b k x W':=by
 obtain ⟨bk,outs,u8,u9,B,cB,xk,P,B',m',c',j,ok,h1,h2,h3,h4,h5,h6,h7,h8,h9,h10⟩:=h
 refine ⟨bk,outs,u8,u9,B,cB,xk,P,B',m',c',j,ok,h1,h2.into hx,h3,h4,h5,h6,h7.ext hx,h8,h9,?_⟩
 rcases h10 with ⟨r,g1,g2,g3,g4,g5,g6,g7⟩ | h
 ·exact .inl ⟨r,g1,g2,g3,g4,g5.ext hx,g6.ext hx,g7⟩
 ·exact .inr h
theorem Gone.steady {B:Nat} (hB:w.heap.size≤B) (k:Nat) (x:Value × Value × Nat):Steady B (Gone F w z A n cA m a b k x):=fun W W' row h hg hr=>by
 have ht:Turned W W':=⟨row,hg,fun r e=>(hr r e).2⟩
 obtain ⟨bk,outs,u9,B,cB,B',c',P,h1,h2,h3,h4,h5,h6⟩:=h
 exact ⟨bk,outs,u9,B,cB,B',c',P,h1,Boxes.steady hB W W' row h2 hg hr,h3.turned ht,h4,h5.turned ht,h6⟩
theorem Broke.steady {B:Nat} (hB:w.heap.size≤B):Steady B (Broke w a b):=fun W W' row h hg hr=>by
 have ht:Turned W W':=⟨row,hg,fun r e=>(hr r e).2⟩
 obtain ⟨i,j,h1,h2,h3,h4,h5,h6⟩:=h
 exact ⟨i,j,h1,h2.turned ht,h3.turned ht,h4.turned ht,h5.turned ht,Ext.steady w hB W W' row h6 hg hr⟩
theorem Gone.next {k:Nat} {x:Value × Value × Nat} {W:World} (h:Gone F w z A n cA m a b k x W):∃ (B':Option Addr) (c':Nat) (P:Pv) (B:Option Addr) (cB:Nat),
 Blk W x.2.2 95 (rowCells P B' m c' 0 true)∧Blk W (z+3) 37 #[.slice B m cB]∧Hid (Between F w z A n cA m a b (k+1) (W.setCell ⟨z+3,0,none⟩ (.slice B' m c'))):=by
 obtain ⟨bk,outs,u9,B,cB,B',c',P,h1,h2,h3,h4,h5,h6⟩:=h
 exact ⟨B',c',P,B,cB,h5,h2.bb,Lib.hid ⟨bk,outs,u9,B',c',B',c',h1,h2.store _,h3.store _,h3.store _,h4,h4⟩⟩
theorem Between.ask {k:Nat} {W:World} (hI:Between F w z A n cA m a b k W) (hg:Glob w) (hq:Qs w F A a) (hm:b.length=m) (hb:m≤100000000000) (hf:∀ q∈a,q.Fits) (hk:k < a.length):
 ∃ (ba oa:Nat) (p:Pv) (B:Option Addr) (cB:Nat),A=some ⟨ba,oa,none⟩∧W.rangeAt ba (oa+k * 12) (parr p).toList∧Blk W (z+3) 37 #[.slice B m cB]∧Blk W (z+2) 37 #[.slice A n cA] ∧
  Hid (∀ W1,Ext W W1→Calls Tryz.prog 100 #[p.v,.slice B m cB] W1 (fun e W2=>∃ (P:Pv) (B':Option Addr) (m' c':Nat) (j:Int) (ok:Bool),e=.returned (.agg (rowCells P B' m' c' j ok))∧Ext W1 W2 ∧
   Hid (Asked F w z A n cA m a b k (.int .i64 k,.agg (rowCells P B' m' c' j ok),W2.heap.size) (W2.alloc (.cells (rowCells P B' m' c' j ok) 95))))):=by
 obtain ⟨bk,outs,u9,B,cB,A8,c8,h1,h2,h3,h4,h5,h6⟩:=hI
 have e1:a[k]?=some (a[k]'hk):=List.getElem?_eq_getElem hk
 obtain ⟨ba,oa,p,hA,hbl,hc,hi⟩:=(hq.in.ext h2.ext).get e1
 have fx:=hf _ (List.mem_of_getElem? e1)
 generalize a[k]'hk=x at e1 hi fx
 refine ⟨ba,oa,p,B,cB,hA,hc,h2.bb,h2.ba,Lib.hid fun W1 hW=>?_⟩
 have low:=h2.low
 have hown:=h2.gr.own
 have hx1:Is W1 (fun b=>Ours F w z b∧some b≠u9.ownBlock) p x:=(hi.ext hW).mono fun b hb=>⟨⟨⟨.inl hb.2,.inl (by have :=hb.2;omega)⟩,.inl hb⟩,fun e=>by have :=(hown b e.symm).1;have:=hb.2;omega⟩
 refine (carried_any B m cB bk p x W1 (hg.ext (h2.ext.trans hW)) (h3.1.ext hW) (h1.2.1.trans hm) hx1 fx h1.2.2.1 hb).mono ?_
 rintro e W2 ⟨hcar,hx2⟩
 have z4:z+4≤W.heap.size:=by have :=h2.bb.lt;omega
 have hz1:=hW.size_le
 have fresh:∀ b,Fresh (fun b=>Ours F w z b∧some b≠u9.ownBlock) W1 b→Ours F w z b∧some b≠u9.ownBlock:=fun b hb=>by
  rcases hb with hb | hb
  ·exact hb.1
  ·have:=h2.ext.size_le
   exact ⟨⟨⟨.inr (by omega),.inr (by omega)⟩,.inr (by omega)⟩,fun e=>by have :=(hown b e.symm).2;omega⟩
 have hz2:=hx2.size_le
 have ywhere:NoBox w.heap.size z W2.heap.size∧some W2.heap.size≠u9.ownBlock:=⟨⟨.inr (by omega),.inr (by omega)⟩,fun e=>by have :=(hown _ e.symm).2;omega⟩
 have ha:Ext W2 (W2.alloc (.cells (rowCells (Qp.zero.pv none 0 none 0) none 0 0 0 false) 95)):=(Ext.refl _).alloc _
 cases hR:Sq.carried x bk with
 | ok r=>
   rw [hR] at hcar
   obtain ⟨P,B',c',rfl,hP,hL,hB⟩:=hcar
   have hl:r.2.length=m:=(Sq.carried_length hR).trans (h1.2.1.trans hm)
   rw [hl]
   refine ⟨P,B',m,c',0,true,rfl,hx2,Lib.hid ⟨bk,outs,_,u9,B,cB,x,P,B',m,c',0,true,h1,h2.into ((hW.trans hx2).trans ((Ext.refl _).alloc _)),e1,fx,rfl,rfl,Blk.new' rfl,ywhere.1,ywhere.2,.inl ⟨r,hR,rfl,rfl,rfl,(hP.out.mono fresh).ext ((Ext.refl _).alloc _),⟨(hL.out.mono fresh).ext ((Ext.refl _).alloc _),fun _ ad e=>?_⟩,hB.out.1⟩⟩⟩
   have:=hB.out.2 ad e
   exact ⟨⟨.inr (by omega),.inr (by omega)⟩,fun e=>by have :=(hown _ e.symm).2;omega,by simp;omega⟩
 | error i=>
   rw [hR] at hcar
   obtain rfl:=hcar
   exact ⟨_,_,_,_,_,_,rfl,hx2,Lib.hid ⟨bk,outs,_,u9,B,cB,x,_,_,_,_,_,_,h1,h2.into ((hW.trans hx2).trans ((Ext.refl _).alloc _)),e1,fx,rfl,rfl,Blk.new' rfl,ywhere.1,ywhere.2,.inr ⟨i,hR,rfl,rfl⟩⟩⟩
end
set_option maxHeartbeats 400000 in
theorem rows_same (A B:Option Addr) (n c m d:Nat) (w:World):
 Calls Tryz.prog 68 #[.slice A n c,.slice B m d] w fun e w'=>e=.returned (.func (.func 99) #[] #[.pointer (some ⟨w.heap.size,0,none⟩),.pointer (some ⟨w.heap.size+1,0,none⟩)])∧(w.alloc (.cells #[.slice A n c] 37)).alloc (.cells #[.slice B m d] 37)=w':=by
 go_enter Tryz.func68,Tryz.ntmps68
 go_wp2
 go_ret
 simp
set_option maxHeartbeats 8000000 in
set_option maxRecDepth 100000 in
theorem rows1_gives (n0:Nat) (hn0:3≤n0) (F:Nat→Prop) (w:World) (z:Nat) (A:Option Addr) (n cA m:Nat) (a b:List Qp) (hg:Glob w) (hq:Qs w F A a) (hn:a.length=n) (hm:b.length=m) (hbn:n≤100000000000) (hb:m≤100000000000) (hf:∀ q∈a,q.Fits):
 Rounds Tryz.prog n0 99 #[.pointer (some ⟨z+2,0,none⟩),.pointer (some ⟨z+3,0,none⟩)] (fun x:Value × Value × Nat=>#[x.1,x.2.1]) (Between F w z A n cA m a b) (Asked F w z A n cA m a b) (Gone F w z A n cA m a b) (Broke w a b) n:=by
 intro l T Tx W hT hTx hY h0 hT0
 have HASK:Hid (∀ k wr,Between F w z A n cA m a b k wr→k < n→_):=Lib.hid fun k wr hI hk=>hI.ask hg hq hm hb hf (by rw [hn];exact hk)
 have HY:=Lib.hid hY
 have HT:=Lib.hid hT
 have H0:=Lib.hid h0
 have HT0:=Lib.hid hT0
 obtain ⟨_,_,_,_,_,_,_,_,hbx,_⟩:=h0
 have hca:=hbx.ba.cell
 clear hY hT hq hn hm hf hbx hT0
 refine callsIn_of_wp Tryz.func99 rfl trivial ?_ rfl
 simp only [Tryz.ntmps99,List.size_toArray,List.length_cons,List.length_nil,Nat.reduceAdd,Nat.reduceSub,Array.replicate_succ,Array.replicate_zero,List.push_toArray,List.append_toArray,List.nil_append,List.cons_append]
 gi_wp2
 clear hca
 gi_loopw [9] (fun u9 wr=>∃ k:Nat,k≤n∧u9=.int .i64 k∧Hid (Between F w z A n cA m a b k wr)∧Hid (T wr)) (fun u9 wr=>n - (intOf u9).toNat)
 case atStart=>exact ⟨0,Nat.zero_le _,rfl,H0,HT0⟩
 case round=>
  clear H0 HT0
  obtain ⟨k,hk,rfl,HI,HTr⟩:=hrel
  by_cases hlt:k < n
  ·obtain ⟨ba,oa,p,B,cB,rfl,hc,hbb,hba,HC⟩:=HASK.out k wr HI.out hlt
   obtain ⟨q0,q1,q2,q3,q4,q5,q6,q7,q8,q9,q10,q11⟩:=cells12 hc
   have hcb:=hbb.cell
   have hlb:=hbb.lt
   clear hc hbb hba HASK
   gi_wp2_with fail
   clear q0 q1 q2 q3 q4 q5 q6 q7 q8 q9 q10 q11 hcb hlb
   refine ⟨trivial,fun _=>(by omega),?_⟩
   refine (callsIn_wide.2 (HC.out _ ((Ext.refl wr).alloc _))).mono ?_
   rintro e w2 ⟨P,B',m',c',j,ok,rfl,hx2,HAS⟩
   have hT3:=Lib.hid (HT.out wr (w2.alloc (.cells (rowCells P B' m' c' j ok) 95)) (Ext.keeps ((((Ext.refl wr).alloc _).trans hx2).alloc _)) HTr.out)
   obtain ⟨fn,tmps,assign,body,hy,hR⟩:=HY.out k _ _ HAS.out hT3.out
   have HR:=Lib.hid hR
   clear hR HAS HC hx2
   dsimp only at hy
   simp only [rowCells] at hy ⊢
   gi_wp2
   refine ⟨fun _=>(by omega),HR.out.mono ?_⟩
   rintro e W4 (⟨rfl,hG,hT4⟩ | ⟨rfl,hX4,hTx4⟩)
   ·obtain ⟨B2,c2,P2,B3,c3,hby,hbb,HN⟩:=hG.next
    have hcy:=hby.cell
    have hly:=hby.lt
    obtain ⟨hcb,hfb,hlb⟩:=hbb.all
    have HT4:=Lib.hid (HT.out _ (W4.setCell ⟨z+3,0,none⟩ (.slice B2 m c2)) (KeepsOthers.setCell _ _ _) hT4)
    clear hG hT4 hby hbb HR hT3
    simp only [rowCells] at hcy
    gi_wp2
    go_roundw
    case rel=>exact ⟨k+1,hlt,rfl,HN,HT4⟩
    case measure=>simp [intOf];omega
   ·have HE:=Lib.hid (⟨hX4,hTx4⟩:_∧_)
    clear hX4 hTx4 HR hT3
    gi_wp2
    refine bodyPost_ret (results_none rfl _ _ _) rfl ?_
    exact ⟨⟨_,rfl⟩,.inr HE.out⟩
  ·have hkn:k=n:=by omega
   subst hkn
   gi_wp2
   go_end0
   exact ⟨⟨_,rfl⟩,.inl ⟨HI.out,HTr.out⟩⟩
end Go.Proofs.YtfmgnaigcibcaaaGreatDoor
namespace Go.Proofs.YtfmgnaigcibcaaaGreatDoor
open Go Go.RowKit Go.Shelf
attribute [local go_sem] Oper.semAt_some
section
variable {P:Program} {Q:Exit→Act→World→Prop}
theorem wp_store_blk {op:Oper} {a:Act} {w:World} {K:Act→World→Prop} (ty:TypeId) (x y:Operand) (ho:op.op=.store ty x y) {g:Nat} {t:TypeId} {cs:Array Value} (hb:Blk w g t cs) (hx:a.eval x=.pointer (some ⟨g,0,none⟩)) (v:Value) (hy:a.eval y=v)
 (hsz:v.cells.size=cs.size) (hi:(P.info? ty).map (·.size)=some cs.size) (h1:v.cells.all (·.oneCell')=true) (h:K (a.put op.dst undef) (w.setCells g 0 v.cells.toList)):op.wp P a w K Q:=by
 have ht:=hb.there
 have hr:=run_storeCells_cells (P:=P) g 0 v.cells.toList 0 w (fun j hj=>by have :=(ht j (by rw [← hsz];simpa using hj)).1;simpa using this) (fun j hj=>by have :=(ht j (by rw [← hsz];simpa using hj)).2;simpa using this)
  (fun u hu=>(Array.all_eq_true_iff_forall_mem.1 h1) u (by simpa using hu))
 have hs:(storeVar ty ⟨g,0,none⟩ v).run P w=.ok () (w.setCells g 0 v.cells.toList):=by
  cases hq:P.info? ty with
  | none=>simp [hq] at hi
  | some i=>
    have hs:v.cells.size=i.size:=by simp [hq] at hi;omega
    simp only [Nat.add_zero] at hr
    simp [storeVar,sizeOf,typeInfo,hq,hs,hr]
 unfold Oper.wp execOp
 simp only [ho,hx,hy,Instr.storeAt,Instr.sureAddr,Sem.run_bind,Sem.run_pure,Result.andThen_ok,hs]
 exact h
end
theorem Blk.tag {w:World} {g:Nat} {t t':TypeId} {cs cs':Array Value} (h:Blk w g t cs) (k:Blk w g t' cs'):t=t':=by
 have h0:w.heap[g]?=some (.cells cs t (0,0)):=h
 have k0:w.heap[g]?=some (.cells cs' t' (0,0)):=k
 rw [h0] at k0
 have:=Option.some.inj k0
 simp only [Obj.cells.injEq] at this
 exact this.2.1
section
variable {F:Nat→Prop} {w W:World} {z:Nat} {va u8 u9 vb:Value} {outs:List Qp}
theorem Boxes.row (h:Boxes F w z va u8 u9 vb outs W) {g:Nat} {cs:Array Value} (hg:Blk W g 95 cs):(g≠w.heap.size∧g≠w.heap.size+1∧g≠w.heap.size+2∧g≠w.heap.size+3)∧(g≠z∧g≠z+1∧g≠z+2∧g≠z+3)∧some g≠u9.ownBlock:=by
 refine ⟨⟨?_,?_,?_,?_⟩,⟨?_,?_,?_,?_⟩,fun e=>?_⟩
 ·rintro rfl;exact absurd (hg.tag h.r0) (by decide)
 ·rintro rfl;exact absurd (hg.tag h.r1) (by decide)
 ·rintro rfl;exact absurd (hg.tag h.r2) (by decide)
 ·rintro rfl;exact absurd (hg.tag h.r3) (by decide)
 ·rintro rfl;exact absurd (hg.tag h.b8) (by decide)
 ·rintro rfl;exact absurd (hg.tag h.b9) (by decide)
 ·rintro rfl;exact absurd (hg.tag h.ba) (by decide)
 ·rintro rfl;exact absurd (hg.tag h.bb) (by decide)
 ·obtain ⟨ps,h1,h2,h3⟩:=h.gr
  rcases h2.2 with ⟨h4,_⟩ | ⟨g',cap,cur,h4,_,hb,_⟩
  ·rw [h4] at e
   cases e
  ·rw [h4] at e
   obtain rfl:g=g':=Option.some.inj e
   exact absurd (hg.tag (show Blk W g _ cur from hb)) (by decide)
theorem Boxes.round {A:Option Addr} {n cA m cB c':Nat} {B B':Option Addr} {k:Nat} {a b bk:List Qp} {x:Value × Value × Nat} {P:Pv} {r:Qp × List Qp} {cur:Array Value}
 (h:Boxes F w z (.slice A n cA) u8 u9 (.slice B m cB) outs W) (hm:Mer a b (k+1) r.2 (outs ++ [r.1])) (hB:Aside F w z u9 W B' r.2) (hn:B'=none→c'=0) (hy:Blk W x.2.2 95 (rowCells P B' m c' 0 true))
 {w6:World} {g2 cap:Nat} (hgr:Grows w6 (z+4) (Ours F w z) (.slice (some ⟨g2,0,none⟩) (outs.length+1) cap) (outs ++ [r.1])) (hgrow:(W.drew.alloc (.cells cur 28)).grownBy w6 u9.ownBlock) (hlie:u9.ownBlock=some g2∨g2=(W.drew.alloc (.cells cur 28)).heap.size):
 KeepsOthers W ((w6.setCell ⟨z,0,none⟩ (.slice B' m c')).setCell ⟨z+1,0,none⟩ (.slice (some ⟨g2,0,none⟩) (outs.length+1) cap)) ∧
 Gone F w z A n cA m a b k x ((w6.setCell ⟨z,0,none⟩ (.slice B' m c')).setCell ⟨z+1,0,none⟩ (.slice (some ⟨g2,0,none⟩) (outs.length+1) cap)):=by
 have low:=h.low
 have own:=h.gr.own
 have z4:z+4≤W.heap.size:=by have :=h.bb.lt;omega
 have x5:Ext W (W.drew.alloc (.cells cur 28)):=(Ext.refl W).drew1.alloc _
 have s5:(W.drew.alloc (.cells cur 28)).heap.size=W.heap.size+1:=by simp
 have o6:Off (fun b=>b=z∨b=z+1∨some b=u9.ownBlock) W w6:=(Off.of_ext _ x5).trans (Off.grown hgrow fun k e=>.inr (.inr e.symm))
 have o8:=(o6.cell ⟨z,0,none⟩ (.inl (.inl rfl)) (.slice B' m c')).cell ⟨z+1,0,none⟩ (.inl (.inr (.inl rfl))) (.slice (some ⟨g2,0,none⟩) (outs.length+1) cap)
 have o2:Off (fun b=>b=z∨b=z+1) w6 ((w6.setCell ⟨z,0,none⟩ (.slice B' m c')).setCell ⟨z+1,0,none⟩ (.slice (some ⟨g2,0,none⟩) (outs.length+1) cap)):=((Off.refl _ w6).cell ⟨z,0,none⟩ (.inl (.inl rfl)) _).cell ⟨z+1,0,none⟩ (.inl (.inr rfl)) _
 have nD:∀ g,g < z∨z+2≤g→g < z+4→¬ (g=z∨g=z+1∨some g=u9.ownBlock):=fun g h1 h2 h3=>by
  rcases h3 with h3 | h3 | h3
  ·omega
  ·omega
  ·have:=own g h3.symm;omega
 have b8:Blk w6 z 37 #[u8]:=(h.b8.ext x5).offD (Off.grown (D:=fun b=>some b=u9.ownBlock) hgrow fun k e=>e.symm) (fun e=>by have :=own z e.symm;omega)
 have b9:Blk w6 (z+1) 37 #[u9]:=(h.b9.ext x5).offD (Off.grown (D:=fun b=>some b=u9.ownBlock) hgrow fun k e=>e.symm) (fun e=>by have :=own (z+1) e.symm;omega)
 have hk:KeepsOthers W w6:=(Ext.keeps x5).trans (KeepsOthers.of_grownBy hgrow fun j o ej hj=>by
  obtain ⟨ps,h1,h2,h3⟩:=h.gr
  rcases h2.2 with ⟨h4,_⟩ | ⟨g',cap,cur',h4,_,hb,_⟩
  ·rw [h4] at ej;cases ej
  ·rw [h4] at ej
   obtain rfl:g'=j:=Option.some.inj ej
   have:(W.drew.alloc (.cells cur 28)).heap[g']?=some (.cells cur' 28 (0,0)):=Blk.ext x5 (show Blk W g' _ cur' from hb)
   rw [this] at hj
   cases hj
   rfl)
 have yy:=(h.row hy)
 have far2:∀ b,b < W.heap.size→some b≠u9.ownBlock→some b≠Value.ownBlock (.slice (some ⟨g2,0,none⟩) (outs.length+1) cap):=fun b h1 h2 e=>by
  have e':b=g2:=Option.some.inj e
  rcases hlie with h3 | h3
  ·exact h2 (by rw [h3,e'])
  ·omega
 refine ⟨(hk.trans (KeepsOthers.setCell _ _ _)).trans (KeepsOthers.setCell _ _ _),r.2,outs ++ [r.1],.slice (some ⟨g2,0,none⟩) (outs.length+1) cap,B,cB,B',c',P,hm,?_,?_,hn,hy.offD o8 (fun e=>?_),?_⟩
 ·refine ⟨h.r0.offD o8 (nD _ (by omega) (by omega)),h.r1.offD o8 (nD _ (by omega) (by omega)),h.r2.offD o8 (nD _ (by omega) (by omega)),h.r3.offD o8 (nD _ (by omega) (by omega)),Blk.far (b8.set_ 0 _) (by dsimp only;omega) _,Blk.set_ (b9.far (by dsimp only;omega) _) 0 _,h.ba.offD o8 (nD _ (by omega) (by omega)),h.bb.offD o8 (nD _ (by omega) (by omega)),hgr.offD o2 (fun k e=>by have :=hgr.own k e;omega) (fun b hb=>by have :=hb.1.2;omega),o8.ext h.ext (fun k e=>?_),low⟩
  have:=h.ext.size_le
  rcases e with e | e | e
  ·omega
  ·omega
  ·have:=own k e.symm;omega
 ·refine ⟨(hB.1.in.offD o8 (fun h0 ad e=>?_) (fun b hb=>?_)).mono (fun b hb=>⟨hb.1.1,far2 b hb.2 hb.1.2⟩),fun h0 ad e=>⟨(hB.2 h0 ad e).1,far2 _ (hB.2 h0 ad e).2.2 (hB.2 h0 ad e).2.1,Nat.lt_of_lt_of_le (hB.2 h0 ad e).2.2 o8.size⟩⟩
  ·have:=(hB.2 h0 ad e).1.2
   intro h3
   rcases h3 with h3 | h3 | h3
   ·omega
   ·omega
   ·exact (hB.2 h0 ad e).2.1 h3
  ·have:=hb.1.1.1.2
   intro h3
   rcases h3 with h3 | h3 | h3
   ·omega
   ·omega
   ·exact hb.1.2 h3
 ·rcases e with e | e | e
  ·exact yy.2.1.1 e
  ·exact yy.2.1.2.1 e
  ·exact yy.2.2 e
 ·have:=yy.1
  have:=yy.2.1
  unfold NoBox
  omega
end
theorem Boxes.broken {F:Nat→Prop} {w W:World} {z:Nat} {va u8 u9 vb:Value} {outs a b:List Qp} {k i:Nat} (h:Boxes F w z va u8 u9 vb outs W) (hm:Sq.merge a b=.error (k,i)):
 KeepsOthers W (((((W.drew.setCell ⟨w.heap.size,0,none⟩ (.slice none 0 0)).setCell ⟨w.heap.size+1,0,none⟩ (.slice none 0 0)).setCell ⟨w.heap.size+2,0,none⟩ (.int .i64 k)).setCell ⟨w.heap.size+2,1,none⟩ (.int .i64 i)).setCell ⟨w.heap.size+3,0,none⟩ (.bool false)) ∧
 Broke w a b (((((W.drew.setCell ⟨w.heap.size,0,none⟩ (.slice none 0 0)).setCell ⟨w.heap.size+1,0,none⟩ (.slice none 0 0)).setCell ⟨w.heap.size+2,0,none⟩ (.int .i64 k)).setCell ⟨w.heap.size+2,1,none⟩ (.int .i64 i)).setCell ⟨w.heap.size+3,0,none⟩ (.bool false)):=by
 refine ⟨(((((KeepsOthers.drew W).trans (KeepsOthers.setCell _ _ _)).trans (KeepsOthers.setCell _ _ _)).trans (KeepsOthers.setCell _ _ _)).trans (KeepsOthers.setCell _ _ _)).trans (KeepsOthers.setCell _ _ _),k,i,hm,?_,?_,?_,?_,?_⟩
 ·exact ((((h.r0.drew.set_ 0 _).far (by dsimp only;omega) _).far (by dsimp only;omega) _).far (by dsimp only;omega) _).far (by dsimp only;omega) _
 ·exact ((((h.r1.drew.far (by dsimp only;omega) _).set_ 0 _).far (by dsimp only;omega) _).far (by dsimp only;omega) _).far (by dsimp only;omega) _
 ·exact ((((h.r2.drew.far (by dsimp only;omega) _).far (by dsimp only;omega) _).set_ 0 _).set_ 1 _).far (by dsimp only;omega) _
 ·exact ((((h.r3.drew.far (by dsimp only;omega) _).far (by dsimp only;omega) _).far (by dsimp only;omega) _).far (by dsimp only;omega) _).set_ 0 _
 ·exact ((((h.ext.drew1.setCell (by dsimp only;omega) _).setCell (by dsimp only;omega) _).setCell (by dsimp only;omega) _).setCell (by dsimp only;omega) _).setCell (by dsimp only;omega) _
theorem Boxes.done {F:Nat→Prop} {w W:World} {z D:Nat} {va vb:Value} {outs bk:List Qp} {A9 A2:Option Addr} {m c9 c2:Nat} (h:Boxes F w z va (.slice A9 m c9) (.slice A2 outs.length c2) vb outs W) (h8:Aside F w z (.slice A2 outs.length c2) W A9 bk)
 (hD:w.heap.size≤D) (hK:W.heap[D]?=some (.deferred (some []))):
 (((((W.drew.setCells w.heap.size 0 [.slice A9 m c9]).setCells (w.heap.size+1) 0 [.slice A2 outs.length c2]).setCells (w.heap.size+2) 0 [.int .i64 0,.int .i64 0]).setCells (w.heap.size+3) 0 [.bool true])).heap[D]?=some (.deferred (some [])) ∧
 (∀ i,((((((W.drew.setCells w.heap.size 0 [.slice A9 m c9]).setCells (w.heap.size+1) 0 [.slice A2 outs.length c2]).setCells (w.heap.size+2) 0 [.int .i64 0,.int .i64 0]).setCells (w.heap.size+3) 0 [.bool true])).putObj D (.deferred none)).cell? ⟨w.heap.size,i,none⟩=(#[.slice A9 m c9]:Array Value)[i]?) ∧
 (∀ i,((((((W.drew.setCells w.heap.size 0 [.slice A9 m c9]).setCells (w.heap.size+1) 0 [.slice A2 outs.length c2]).setCells (w.heap.size+2) 0 [.int .i64 0,.int .i64 0]).setCells (w.heap.size+3) 0 [.bool true])).putObj D (.deferred none)).cell? ⟨w.heap.size+1,i,none⟩=(#[.slice A2 outs.length c2]:Array Value)[i]?) ∧
 (∀ i,((((((W.drew.setCells w.heap.size 0 [.slice A9 m c9]).setCells (w.heap.size+1) 0 [.slice A2 outs.length c2]).setCells (w.heap.size+2) 0 [.int .i64 0,.int .i64 0]).setCells (w.heap.size+3) 0 [.bool true])).putObj D (.deferred none)).cell? ⟨w.heap.size+1+1,i,none⟩=(#[.int .i64 0,.int .i64 0]:Array Value)[i]?) ∧
 (∀ i,((((((W.drew.setCells w.heap.size 0 [.slice A9 m c9]).setCells (w.heap.size+1) 0 [.slice A2 outs.length c2]).setCells (w.heap.size+2) 0 [.int .i64 0,.int .i64 0]).setCells (w.heap.size+3) 0 [.bool true])).putObj D (.deferred none)).cell? ⟨w.heap.size+1+1+1,i,none⟩=(#[.bool true]:Array Value)[i]?) ∧
 Qs ((((((W.drew.setCells w.heap.size 0 [.slice A9 m c9]).setCells (w.heap.size+1) 0 [.slice A2 outs.length c2]).setCells (w.heap.size+2) 0 [.int .i64 0,.int .i64 0]).setCells (w.heap.size+3) 0 [.bool true])).putObj D (.deferred none)) (Fresh F w) A9 bk∧Qs ((((((W.drew.setCells w.heap.size 0 [.slice A9 m c9]).setCells (w.heap.size+1) 0 [.slice A2 outs.length c2]).setCells (w.heap.size+2) 0 [.int .i64 0,.int .i64 0]).setCells (w.heap.size+3) 0 [.bool true])).putObj D (.deferred none)) (Fresh F w) A2 outs∧Ext w ((((((W.drew.setCells w.heap.size 0 [.slice A9 m c9]).setCells (w.heap.size+1) 0 [.slice A2 outs.length c2]).setCells (w.heap.size+2) 0 [.int .i64 0,.int .i64 0]).setCells (w.heap.size+3) 0 [.bool true])).putObj D (.deferred none)):=by
 have o9:Off (fun b=>w.heap.size≤b∧b < w.heap.size+4) W (((((W.drew.setCells w.heap.size 0 [.slice A9 m c9]).setCells (w.heap.size+1) 0 [.slice A2 outs.length c2]).setCells (w.heap.size+2) 0 [.int .i64 0,.int .i64 0]).setCells (w.heap.size+3) 0 [.bool true])):=(((((Off.refl _ W).drew.cell ⟨w.heap.size,0,none⟩ (.inl (by dsimp only;omega)) _).cell ⟨w.heap.size+1,0,none⟩ (.inl (by dsimp only;omega)) _).cell ⟨w.heap.size+2,0,none⟩ (.inl (by dsimp only;omega)) _).cell ⟨w.heap.size+2,1,none⟩ (.inl (by dsimp only;omega)) _).cell ⟨w.heap.size+3,0,none⟩ (.inl (by dsimp only;omega)) _
 have k9:KeepsOthers W (((((W.drew.setCells w.heap.size 0 [.slice A9 m c9]).setCells (w.heap.size+1) 0 [.slice A2 outs.length c2]).setCells (w.heap.size+2) 0 [.int .i64 0,.int .i64 0]).setCells (w.heap.size+3) 0 [.bool true])):=(((((KeepsOthers.drew W).trans (KeepsOthers.setCell _ ⟨w.heap.size,0,none⟩ (.slice A9 m c9))).trans (KeepsOthers.setCell _ ⟨w.heap.size+1,0,none⟩ (.slice A2 outs.length c2))).trans (KeepsOthers.setCell _ ⟨w.heap.size+2,0,none⟩ (.int .i64 0))).trans (KeepsOthers.setCell _ ⟨w.heap.size+2,1,none⟩ (.int .i64 0))).trans (KeepsOthers.setCell _ ⟨w.heap.size+3,0,none⟩ (.bool true))
 have hK9:=k9.same _ _ hK rfl
 have ht:Turned (((((W.drew.setCells w.heap.size 0 [.slice A9 m c9]).setCells (w.heap.size+1) 0 [.slice A2 outs.length c2]).setCells (w.heap.size+2) 0 [.int .i64 0,.int .i64 0]).setCells (w.heap.size+3) 0 [.bool true])) ((((((W.drew.setCells w.heap.size 0 [.slice A9 m c9]).setCells (w.heap.size+1) 0 [.slice A2 outs.length c2]).setCells (w.heap.size+2) 0 [.int .i64 0,.int .i64 0]).setCells (w.heap.size+3) 0 [.bool true])).putObj D (.deferred none)):=⟨some D,grownBy_putObj' _ D _,fun r e=>by cases e;exact ⟨_,hK9,rfl⟩⟩
 have x9:Ext w (((((W.drew.setCells w.heap.size 0 [.slice A9 m c9]).setCells (w.heap.size+1) 0 [.slice A2 outs.length c2]).setCells (w.heap.size+2) 0 [.int .i64 0,.int .i64 0]).setCells (w.heap.size+3) 0 [.bool true])):=o9.ext h.ext (fun k e=>e.1)
 obtain ⟨A2',c2',e,hq2,_,_⟩:=h.gr.qs
 have hA:A2=A2':=by simp at e;exact e.1
 subst hA
 have own:=h.gr.own
 have low:=h.low
 refine ⟨hK9,Blk.cell (t:=37) (Blk.turned ?_ ht),Blk.cell (t:=37) (Blk.turned ?_ ht),Blk.cell (t:=57) (Blk.turned ?_ ht),Blk.cell (t:=4) (Blk.turned ?_ ht),?_,?_,x9.putObj hD _⟩
 ·exact Blk.farAll (w:=W) (by omega) _ _ _ (Blk.farAll (w:=W) (by omega) _ _ _ (Blk.farAll (w:=W) (by omega) _ _ _ (Blk.whole (vs:=(#[.slice A9 m c9]:Array Value)) (h.r0.drew) rfl)))
 ·exact Blk.farAll (w:=W) (by omega) _ _ _ (Blk.farAll (w:=W) (by omega) _ _ _ (Blk.whole (vs:=(#[.slice A2 outs.length c2]:Array Value)) (Blk.farAll (w:=W) (by omega) _ _ _ (h.r1.drew)) rfl))
 ·exact Blk.farAll (w:=W) (by omega) _ _ _ (Blk.whole (vs:=(#[.int .i64 0,.int .i64 0]:Array Value)) (Blk.farAll (w:=W) (by omega) _ _ _ (Blk.farAll (w:=W) (by omega) _ _ _ (h.r2.drew))) rfl)
 ·exact Blk.whole (vs:=(#[.bool true]:Array Value)) (Blk.farAll (w:=W) (by omega) _ _ _ (Blk.farAll (w:=W) (by omega) _ _ _ (Blk.farAll (w:=W) (by omega) _ _ _ (h.r3.drew)))) rfl
 ·exact ((h8.1.offD o9 (fun h0 ad e=>by have :=(h8.2 h0 ad e).1.1;omega) (fun b hb=>by have :=hb.1.1.1;omega)).turned ht).mono fun b hb=>hb.1.2
 ·exact ((hq2.offD o9 (fun h0 ad e=>by have :=own ad.block (by rw [e];rfl);omega) (fun b hb=>by have :=hb.1.1.1;omega)).turned ht).mono fun b hb=>hb.1.2
theorem row_front (P:Pv) (B:Option Addr) (n c:Nat) (i:Int) (ok:Bool):∀ j,j < (parr P).toList.length→(rowCells P B n c i ok)[0+j]?=(parr P).toList[j]?:=fun j hj=>by
 have h:j < 12:=hj
 match j,h with
 | 0,_ | 1,_ | 2,_ | 3,_ | 4,_ | 5,_ | 6,_ | 7,_ | 8,_ | 9,_ | 10,_ | 11,_=>rfl
def Merged (F:Nat→Prop) (R:Except (Nat × Nat) (List Qp × List Qp)) (w:World) (e:Ending) (w':World):Prop:=
 (match R with
   | .ok t=>∃ A1 c1 A2 c2,e=.returned (.tuple #[.slice A1 t.1.length c1,.slice A2 t.2.length c2,.agg #[.int .i64 0,.int .i64 0],.bool true])∧Hid (Qs w' (Fresh F w) A1 t.1∧Qs w' (Fresh F w) A2 t.2∧(A1=none→c1=0)∧(A2=none→c2=0))
   | .error p=>e=.returned (.tuple #[.slice none 0 0,.slice none 0 0,.agg #[.int .i64 p.1,.int .i64 p.2],.bool false]))∧Ext w w'
set_option maxHeartbeats 16000000 in
set_option maxRecDepth 100000 in
theorem seqmerge_in (n0:Nat) (hn0:9≤n0) (A B:Option Addr) (n cA m cB:Nat) (a b:List Qp) (w:World) (hg:Glob w) {F:Nat→Prop} (ha:Qs w F A a) (hb:Qs w F B b) (hn:a.length=n) (hm:b.length=m) (hB:B=none→m=0∧cB=0)
 (b1:n≤100000000000) (b2:m≤100000000000) (fa:∀ q∈a,q.Fits) (fb:∀ q∈b,q.Fits):
 CallsIn Fence.wide n0 Tryz.prog 35 #[.slice A n cA,.slice B m cB] w (Merged F (Sq.merge a b) w):=by
 have HCL:=Lib.hid (fun W (hW:Ext w W)=>pclone_any B m cB b W (hb.in.ext hW) hm hB b2)
 have HGV:=Lib.hid (fun n1 (h1:3≤n1) z=>rows1_gives n1 h1 F w z A n cA m a b hg ha hn hm b1 b2 fa)
 have HM:=Lib.hid (Mer.start a fb)
 have HN:=Lib.hid hn
 have HQB:=Lib.hid hb.in
 have HLB:Hid (0 < b.length→∀ ad,B=some ad→ad.block < w.heap.size):=Lib.hid fun h0 ad e=>by
  obtain ⟨ps,h1,h2,h3⟩:=hb
  obtain ⟨g,o,e',hl,_⟩:=h2 (by omega)
  rw [e] at e'
  obtain rfl:=Option.some.inj e'
  exact hl
 have HBn:Hid (B=none→cB=0):=Lib.hid fun e=>(hB e).2
 have HMB:=Lib.hid hm
 clear ha hb hn hm hB fa fb
 refine callsIn_of_wp_marks Tryz.func35 rfl trivial ?_ rfl
 simp only [Tryz.ntmps35,List.size_toArray,List.length_cons,List.length_nil,Nat.reduceAdd,Nat.reduceSub,Array.replicate_succ,Array.replicate_zero,List.push_toArray,List.append_toArray,List.nil_append,List.cons_append]
 gi_wp2_with fail
 refine ⟨trivial,fun _=>(by omega),?_⟩
 refine (callsIn_wide.2 (HCL.out _ (by repeat (first | with_reducible exact Ext.refl _ | with_reducible refine Ext.alloc ?_ _)))).mono ?_
 rintro e w1 ⟨A8,c8,rfl,hqs,hnone,hloc,hx0⟩
 have hs1:w.heap.size+4≤w1.heap.size:=by have :=hx0.size_le;simp at this;omega
 have r0:Blk w1 w.heap.size 37 #[.slice none 0 0]:=Blk.ext hx0 (Blk.alloc (Blk.alloc (Blk.alloc (Blk.new' rfl) _) _) _)
 have r1:Blk w1 (w.heap.size+1) 37 #[.slice none 0 0]:=Blk.ext hx0 (Blk.alloc (Blk.alloc (Blk.new' (by simp)) _) _)
 have r2:Blk w1 (w.heap.size+2) 57 #[.int .i64 0,.int .i64 0]:=Blk.ext hx0 (Blk.alloc (Blk.new' (by simp)) _)
 have r3:Blk w1 (w.heap.size+3) 4 #[.bool false]:=Blk.ext hx0 (Blk.new' (by simp))
 have hx1:=Ext.trans (a:=w) (by repeat (first | with_reducible exact Ext.refl _ | with_reducible refine Ext.alloc ?_ _)) hx0
 have HQ8:Hid (Qs w1 (fun b=>F b∧b < w.heap.size) A8 b):=Lib.hid (hqs.out.mono fun b hb=>hb.1)
 have HL8:Hid (∀ ad,A8=some ad→w.heap.size+4≤ad.block∧ad.block < w1.heap.size):=Lib.hid fun ad e=>by have :=hloc ad e;simp at this;omega
 have HX1:=Lib.hid hx1
 have HN8:=Lib.hid hnone
 have HR:=Lib.hid (⟨r0,r1,r2,r3⟩:_∧_∧_∧_)
 clear hqs hloc hx0 hx1 hnone r0 r1 r2 r3 HCL
 gi_wp2_with (refine ⟨trivial,fun _=>(by omega),?_⟩;gi_at_call 68;refine (callsIn_wide.2 (rows_same _ _ _ _ _ _ _)).mono ?_;rintro e w1 ⟨rfl,hww⟩;first | obtain rfl:=hww.symm | obtain rfl:=hww)
 have HB0:Hid (Between F w w1.heap.size A n cA m a b 0 ((((w1.alloc (.cells #[.slice A8 m c8] 37)).alloc (.cells #[.slice none 0 0] 37)).alloc (.cells #[.slice A n cA] 37)).alloc (.cells #[.slice B m cB] 37))):=Lib.hid (by
  have x4:Ext w1 ((((w1.alloc (.cells #[.slice A8 m c8] 37)).alloc (.cells #[.slice none 0 0] 37)).alloc (.cells #[.slice A n cA] 37)).alloc (.cells #[.slice B m cB] 37)):=((((Ext.refl w1).alloc _).alloc _).alloc _).alloc _
  have nown:∀ b,some b≠Value.ownBlock (.slice none 0 0):=fun b e=>nomatch e
  have hF:∀ b,F b∧b < w.heap.size→Ours F w w1.heap.size b∧some b≠Value.ownBlock (.slice none 0 0):=fun b hb=>⟨⟨⟨.inl hb.2,.inl (by have :=hb.2;omega)⟩,.inl hb⟩,nown b⟩
  refine ⟨b,[],.slice none 0 0,B,cB,A8,c8,HM.out,⟨HR.out.1.ext x4,HR.out.2.1.ext x4,HR.out.2.2.1.ext x4,HR.out.2.2.2.ext x4,Blk.alloc (Blk.alloc (Blk.alloc (Blk.new' rfl) _) _) _,Blk.alloc (Blk.alloc (Blk.new' (by simp)) _) _,Blk.alloc (Blk.new' (by simp)) _,Blk.new' (by simp),Grows.nil _ _ _,HX1.out.trans x4,hs1⟩,⟨(HQB.out.ext (HX1.out.trans x4)).mono hF,fun h0 ad e=>?_⟩,⟨(HQ8.out.ext x4).mono hF,fun h0 ad e=>?_⟩,HBn.out,HN8.out⟩
  ·have:=HLB.out h0 ad e
   exact ⟨⟨.inl this,.inl (by omega)⟩,nown _,by simp;omega⟩
  ·have:=HL8.out ad e
   exact ⟨⟨.inr (by omega),.inl (by omega)⟩,nown _,by simp;omega⟩)
 refine wpIn_range_leave (gf:=99) (lb:=#[.pointer (some ⟨w1.heap.size+1+1,0,none⟩),.pointer (some ⟨w1.heap.size+1+1+1,0,none⟩)]) rfl (enters_of Tryz.func99 (by kernel_rfl) rfl) (encs:=fun x:Value × Value × Nat=>#[x.1,x.2.1]) (HGV.out (n0 - 1) (by omega) w1.heap.size) (fun _=>rfl)
  (fun k x a' W=>∃ g cs,x.1=.int .i64 k∧x.2.1=.agg cs∧Blk W g 95 cs∧Asked F w w1.heap.size A n cA m a b k x W∧a'={ tmps:=#[Value.slice A n cA,Value.slice B m cB,undef,undef,.pointer (some ⟨w.heap.size,0,none⟩),.pointer (some ⟨w.heap.size+1,0,none⟩),.pointer (some ⟨w.heap.size+1+1,0,none⟩),.pointer (some ⟨w.heap.size+1+1+1,0,none⟩),.pointer (some ⟨w1.heap.size,0,none⟩),.pointer (some ⟨w1.heap.size+1,0,none⟩),.int .i64 k,.pointer (some ⟨g,0,none⟩),.slice B m cB,.slice A8 m c8,.slice A n cA,.slice B m cB,.func (.func 99) #[] #[.pointer (some ⟨w1.heap.size+1+1,0,none⟩),.pointer (some ⟨w1.heap.size+1+1+1,0,none⟩)],x.1,x.2.1,undef,undef,undef,undef,undef,undef,undef,undef,undef,undef,undef,undef,undef,undef,undef,undef,undef],defers:=[] })
  (fun k=>Between.steady (by simp;omega) k) ?stA (fun k x=>Gone.steady (by simp;omega) k x) (Broke.steady (by simp;omega)) HB0.out ?assign ?body ?done ?stop
 case stA=>
  intro k x a' W W' row h hg hr
  obtain ⟨g,cs,h1,h2,h3,h4,h5⟩:=h
  exact ⟨g,cs,h1,h2,h3.turned ⟨row,hg,fun r e=>(hr r e).2⟩,Asked.steady (by simp;omega) k x W W' row h4 hg hr,h5⟩
 case assign=>
  intro l k x W K hA hK
  obtain ⟨x1,x2,y⟩:=x
  have HA:=Lib.hid hA
  obtain ⟨bk,outs,u8,u9,B1,c1,xk,P,B',m',c',j,ok,h1,h2,h3,h4,h5,h6,h7⟩:=hA
  dsimp only at h5 h6
  subst h5
  subst h6
  have HK:=Lib.hid hK
  clear h1 h2 h3 h4 h7 hK
  simp only [rowCells] at HK HA ⊢
  gi_wp2
  exact HK.out _ _ ((Ext.refl W).alloc _).keeps ⟨W.heap.size,_,(by first | exact True.intro | rfl),rfl,Blk.new' rfl,HA.out.ext ((Ext.refl W).alloc _),rfl⟩
 case body=>
  rintro l k ⟨x1,x2,y⟩ a' W ⟨g,cs,h1,h2,hgb,hA,rfl⟩
  dsimp only at h1 h2
  subst h1
  subst h2
  obtain ⟨bk,outs,u8,u9,B1,c1,xk,P,B',m',c',j,ok,hm,hbx,hk,fx,_,hcs,hyb,hny,hoy,hor⟩:=hA
  dsimp only at hcs hyb hny hoy
  injection hcs with hcs
  subst hcs
  clear HGV HM HR HQ8 HL8 HB0 HQB HLB
  have hcg:=hgb.cell
  rcases hor with ⟨r,hc,rfl,rfl,rfl,hP,hB,hn'⟩ | ⟨i,hc,rfl,rfl⟩
  ·have HROUND:=Lib.hid (fun cur w6 g2 cap hgr hgrow hlie=>hbx.round (bk:=bk) (x:=(.int .i64 k,.agg (rowCells P B' m' c' 0 true),y)) (cur:=cur) (w6:=w6) (g2:=g2) (cap:=cap) (hm.step hk fx hc) hB hn' hyb hgr hgrow hlie)
   have HBX:=Lib.hid hbx
   have HGB:=Lib.hid hgb
   have HP:=Lib.hid hP
   have hrow:=hbx.row hgb
   have HNE:Hid (g≠w1.heap.size∧g≠w1.heap.size+1):=Lib.hid ⟨hrow.2.1.1,hrow.2.1.2.1⟩
   have HLEN:Hid (outs.length+1≤800000000000):=Lib.hid (by have :=(List.getElem?_eq_some_iff.1 hk).1;have:=HN.out;have:=hm.1;omega)
   have HZ4:Hid (w1.heap.size+4≤W.heap.size):=Lib.hid (by have :=hbx.bb.lt;omega)
   have H8:Hid (∀ w6,(W.drew.alloc (.cells (parr P) 28)).grownBy w6 u9.ownBlock→Blk w6 w1.heap.size 37 #[u8]∧Blk w6 (w1.heap.size+1) 37 #[u9]∧Blk w6 g 95 (rowCells P B' m' c' 0 true)):=Lib.hid fun w6 hgrow=>by
    have x5:Ext W (W.drew.alloc (.cells (parr P) 28)):=(Ext.refl W).drew1.alloc _
    have o6:=Off.grown (D:=fun b=>some b=u9.ownBlock) hgrow fun k e=>e.symm
    exact ⟨(hbx.b8.ext x5).offD o6 (fun e=>by have :=hbx.gr.own _ e.symm;omega),(hbx.b9.ext x5).offD o6 (fun e=>by have :=hbx.gr.own _ e.symm;omega),(hgb.ext x5).offD o6 hrow.2.2⟩
   clear hm hbx hk fx hyb hny hoy hc hP hB hn' hgb hrow
   simp only [rowCells] at hcg
   gi_wp2_with fail
   clear hcg
   refine wpIn_region_held (S:=fun W'=>Blk W' g 95 (rowCells P B' m' c' 0 true)) (by kernel_rfl) (noDefer_spec (by kernel_rfl)) (fun h=>by obtain ⟨_,_,h⟩:=h;exact h) HGB.out (fun hS=>?_)
   have hc9:=HBX.out.b9.cell
   have hl9:=HBX.out.b9.lt
   have hS0:=HGB.out
   refine tf (i:=0) (v:=.pointer (some ⟨g,12,none⟩)) rfl rfl (fun _=>rfl) hS ?_
   try simp only [Act.put,sA,s0,sS]
   refine take_any (i:=1) (v:=.slice B' m' c') rfl rfl (by kernel_rfl) (by kernel_rfl) (by kernel_rfl) (.inl ⟨(by kernel_rfl),fun W' hW'=>?ld⟩) hS ?_
   case ld=>
    have hcx:=hW'.cell
    simp only [rowCells] at hcx
    go_simp
   try simp only [Act.put,sA,s0,sS]
   refine tf (i:=3) (v:=.pointer (some ⟨g,0,none⟩)) rfl rfl (fun _=>rfl) hS ?_
   try simp only [Act.put,sA,s0,sS]
   refine tl (i:=4) (parr P).toList rfl rfl rfl rfl rfl Tryz.underlying28 rfl (fun _ h=>h.range 0 _ (row_front P B' m' c' 0 true)) hS ?_
   try simp only [Act.put,sA,s0,sS]
   refine wpAnyH_ready (rs:=[2,5]) (by kernel_rfl) (by simp) ?_
   refine (AllReadyH.cons rfl (fun K hK=>?_) (AllReadyH.cons rfl (fun K hK=>?_) AllReadyH.nil))
   ·go_simp
    refine hK.out _ _ hS (fun _=>?_)
    clear hK
    try simp only [Act.put,sA,s0,sS]
    refine wpAnyH_one (i:=5) (by kernel_rfl) rfl (by kernel_rfl) ?_
    go_simp
    refine ⟨Blk.alloc hS _,?_⟩
    try simp only [Act.put,sA,s0,sS]
    refine wpAnyH_one (i:=6) (by kernel_rfl) rfl (by kernel_rfl) ?_
    refine wp_grow (W.drew.alloc (.cells (parr P) 28)) _ _ 37 rfl Tryz.underlying37 (by kernel_rfl) (w1.heap.size+4) u9 outs [r.1] rfl (HBX.out.gr.ext ((Ext.refl W).drew1.alloc _)) ⟨W.heap.size,0,none⟩ 1 1 rfl rfl (Qs.one (Blk.new' (by simp)) (HP.out.in.ext ((Ext.refl W).drew1.alloc _))) (fun b hb=>⟨by have :=hb.2;simp;omega,hb.1.1,hb.1.2⟩) (by omega) HLEN.out (Nat.le_trans HZ4.out (by simp)) (fun g2 cap w6 hgr hgrow hlie=>?_)
    have hr:=Lib.hid (HROUND.out _ w6 g2 cap hgr hgrow hlie)
    have h68:=(H8.out w6 hgrow).1
    have h69:=(H8.out w6 hgrow).2.1
    have hS6:=(H8.out w6 hgrow).2.2
    clear hgr hgrow hlie hc9 hl9
    refine ⟨hS6,?_⟩
    obtain ⟨hc8,hf8,hl8⟩:=h68.all
    obtain ⟨hc9,hf9,hl9⟩:=h69.all
    try simp only [Act.put,sA,s0,sS]
    refine wpAnyH_one (i:=7) (by kernel_rfl) rfl (by kernel_rfl) ?_
    go_simp
    refine ⟨Blk.far hS6 HNE.out.1 _,?_⟩
    try simp only [Act.put,sA,s0,sS]
    refine wpAnyH_one (i:=8) (by kernel_rfl) rfl (by kernel_rfl) ?_
    go_simp
    refine ⟨Blk.far (Blk.far hS6 HNE.out.1 _) HNE.out.2 _,?_⟩
    try simp only [Act.put,sA,s0,sS]
    refine wpAnyH_done (by kernel_rfl) (NoPanic.normal ?_) _
    exact hr.out
   ·go_simp
    refine hK.out _ _ (Blk.alloc hS _) (fun _=>?_)
    clear hK
    try simp only [Act.put,sA,s0,sS]
    refine wpAnyH_one (i:=2) (by kernel_rfl) rfl (by kernel_rfl) ?_
    go_simp
    try simp only [Act.put,sA,s0,sS]
    refine wpAnyH_one (i:=6) (by kernel_rfl) rfl (by kernel_rfl) ?_
    refine wp_grow (W.drew.alloc (.cells (parr P) 28)) _ _ 37 rfl Tryz.underlying37 (by kernel_rfl) (w1.heap.size+4) u9 outs [r.1] rfl (HBX.out.gr.ext ((Ext.refl W).drew1.alloc _)) ⟨W.heap.size,0,none⟩ 1 1 rfl rfl (Qs.one (Blk.new' (by simp)) (HP.out.in.ext ((Ext.refl W).drew1.alloc _))) (fun b hb=>⟨by have :=hb.2;simp;omega,hb.1.1,hb.1.2⟩) (by omega) HLEN.out (Nat.le_trans HZ4.out (by simp)) (fun g2 cap w6 hgr hgrow hlie=>?_)
    have hr:=Lib.hid (HROUND.out _ w6 g2 cap hgr hgrow hlie)
    have h68:=(H8.out w6 hgrow).1
    have h69:=(H8.out w6 hgrow).2.1
    have hS6:=(H8.out w6 hgrow).2.2
    clear hgr hgrow hlie hc9 hl9
    refine ⟨hS6,?_⟩
    obtain ⟨hc8,hf8,hl8⟩:=h68.all
    obtain ⟨hc9,hf9,hl9⟩:=h69.all
    try simp only [Act.put,sA,s0,sS]
    refine wpAnyH_one (i:=7) (by kernel_rfl) rfl (by kernel_rfl) ?_
    go_simp
    refine ⟨Blk.far hS6 HNE.out.1 _,?_⟩
    try simp only [Act.put,sA,s0,sS]
    refine wpAnyH_one (i:=8) (by kernel_rfl) rfl (by kernel_rfl) ?_
    go_simp
    refine ⟨Blk.far (Blk.far hS6 HNE.out.1 _) HNE.out.2 _,?_⟩
    try simp only [Act.put,sA,s0,sS]
    refine wpAnyH_done (by kernel_rfl) (NoPanic.normal ?_) _
    exact hr.out
  ·have HBR:=Lib.hid (hbx.broken (hm.dies hk hc))
   have HBX:=Lib.hid hbx
   have HGB:=Lib.hid hgb
   have hrow:=hbx.row hgb
   have HNE:Hid (g≠w.heap.size∧g≠w.heap.size+1∧g≠w.heap.size+2∧g≠w.heap.size+3):=Lib.hid hrow.1
   clear hm hbx hk fx hyb hny hoy hc hgb hrow
   simp only [rowCells] at hcg
   gi_wp2_with fail
   clear hcg
   refine wpIn_region_held (S:=fun W'=>Blk W' g 95 (rowCells P B' m' c' i false)) (by kernel_rfl) (noDefer_spec (by kernel_rfl)) (fun h=>by obtain ⟨_,_,h⟩:=h;exact h) HGB.out (fun hS=>?_)
   refine tf (i:=0) (v:=.int .i64 k) rfl rfl (fun _=>rfl) hS ?_
   try simp only [Act.put,sA,s0,sS]
   refine tf (i:=1) (v:=.pointer (some ⟨g,13,none⟩)) rfl rfl (fun _=>rfl) hS ?_
   try simp only [Act.put,sA,s0,sS]
   refine take_any (i:=2) (v:=.int .i64 i) rfl rfl (by kernel_rfl) (by kernel_rfl) (by kernel_rfl) (.inl ⟨(by kernel_rfl),fun W' hW'=>?ld⟩) hS ?_
   case ld=>
    have hcx:=hW'.cell
    simp only [rowCells] at hcx
    go_simp
   try simp only [Act.put,sA,s0,sS]
   refine take_any (i:=3) (v:=.agg #[.int .i64 k,.int .i64 i]) rfl rfl (by kernel_rfl) (by kernel_rfl) (by kernel_rfl) (.inl ⟨(by kernel_rfl),fun W' _=>?bd⟩) hS ?_
   case bd=>go_simp
   try simp only [Act.put,sA,s0,sS]
   refine wpAnyH_one (i:=4) (by kernel_rfl) rfl (by kernel_rfl) ?_
   refine wp_store_blk 37 _ _ rfl HBX.out.r0.drew rfl (.slice none 0 0) rfl rfl (by kernel_rfl) (by simp [Value.cells,Value.oneCell']) ?_
   refine ⟨(Blk.farAll (w:=W) HNE.out.1 _ _ _ hS),?_⟩
   try simp only [Act.put,sA,s0,sS]
   refine wpAnyH_one (i:=5) (by kernel_rfl) rfl (by kernel_rfl) ?_
   refine wp_store_blk 37 _ _ rfl (Blk.farAll (w:=W) (by omega) _ _ _ HBX.out.r1.drew) rfl (.slice none 0 0) rfl rfl (by kernel_rfl) (by simp [Value.cells,Value.oneCell']) ?_
   refine ⟨(Blk.farAll (w:=W) HNE.out.2.1 _ _ _ (Blk.farAll (w:=W) HNE.out.1 _ _ _ hS)),?_⟩
   try simp only [Act.put,sA,s0,sS]
   refine wpAnyH_one (i:=6) (by kernel_rfl) rfl (by kernel_rfl) ?_
   refine wp_store_blk 57 _ _ rfl (Blk.farAll (w:=W) (by omega) _ _ _ (Blk.farAll (w:=W) (by omega) _ _ _ HBX.out.r2.drew)) rfl (.agg #[.int .i64 k,.int .i64 i]) rfl rfl (by kernel_rfl) (by simp [Value.cells,Value.oneCell']) ?_
   refine ⟨(Blk.farAll (w:=W) HNE.out.2.2.1 _ _ _ (Blk.farAll (w:=W) HNE.out.2.1 _ _ _ (Blk.farAll (w:=W) HNE.out.1 _ _ _ hS))),?_⟩
   try simp only [Act.put,sA,s0,sS]
   refine wpAnyH_one (i:=7) (by kernel_rfl) rfl (by kernel_rfl) ?_
   refine wp_store_blk 4 _ _ rfl (Blk.farAll (w:=W) (by omega) _ _ _ (Blk.farAll (w:=W) (by omega) _ _ _ (Blk.farAll (w:=W) (by omega) _ _ _ HBX.out.r3.drew))) rfl (.bool false) rfl rfl (by kernel_rfl) (by simp [Value.cells,Value.oneCell']) ?_
   refine ⟨(Blk.farAll (w:=W) HNE.out.2.2.2 _ _ _ (Blk.farAll (w:=W) HNE.out.2.2.1 _ _ _ (Blk.farAll (w:=W) HNE.out.2.1 _ _ _ (Blk.farAll (w:=W) HNE.out.1 _ _ _ hS)))),?_⟩
   try simp only [Act.put,sA,s0,sS]
   refine wpAnyH_done (by kernel_rfl) (NoPanic.normal ?_) _
   gi_wp2
   exact HBR.out
 case done=>
  intro D W hD hI hK
  obtain ⟨bk,outs,u9,B1,c1,A9,c9,hm,hbx,hB,h8,hn1,hn8⟩:=hI
  have hme:=hm.ends (by rw [HN.out];exact Nat.le_refl _)
  obtain ⟨A2,c2,rfl,hq2,_,hn2⟩:=hbx.gr.qs
  have hl2:bk.length=m:=hm.2.1.trans HMB.out
  have HPOST:Hid ((A9=none→c9=0)∧(A2=none→c2=0)):=Lib.hid ⟨hn8,hn2⟩
  have HME:=Lib.hid hme
  have HBX:=Lib.hid hbx
  have HL9:=Lib.hid hl2
  have hc8:=hbx.b8.cell
  have hl8:=hbx.b8.lt
  have hc9:=hbx.b9.cell
  have hl9:=hbx.b9.lt
  have HDN:=Lib.hid (hbx.done h8 (D:=D) (by simp at hD;omega) hK)
  clear hm hB h8 hn1 hn8 hme hq2 hn2 hbx hK hD hl2 HGV HM HR HQ8 HL8 HB0 HQB HLB
  gi_wp2_with fail
  refine wpIn_wide.2 (wp_region_noPanic (wp_region_held_drew (S:=fun W'=>Blk W' w1.heap.size 37 #[.slice A9 m c9]∧Blk W' (w1.heap.size+1) 37 #[.slice A2 outs.length c2]) (by kernel_rfl) ⟨HBX.out.b8,HBX.out.b9⟩ (fun hS=>?_)))
  have HLOW:Hid ((w1.heap.size≠w.heap.size∧w1.heap.size+1≠w.heap.size)∧(w1.heap.size≠w.heap.size+1∧w1.heap.size+1≠w.heap.size+1)∧(w1.heap.size≠w.heap.size+2∧w1.heap.size+1≠w.heap.size+2)∧(w1.heap.size≠w.heap.size+3∧w1.heap.size+1≠w.heap.size+3)):=Lib.hid (by have :=hs1;omega)
  refine take_any (i:=0) (v:=.slice A9 m c9) rfl rfl (by kernel_rfl) (by kernel_rfl) (by kernel_rfl) (.inl ⟨(by kernel_rfl),fun W' hW'=>?ld0⟩) hS ?_
  case ld0=>
   have hcx:=hW'.1.cell
   go_simp
  try simp only [Act.put,sA,s0,sS]
  refine take_any (i:=1) (v:=.slice A2 outs.length c2) rfl rfl (by kernel_rfl) (by kernel_rfl) (by kernel_rfl) (.inl ⟨(by kernel_rfl),fun W' hW'=>?ld1⟩) hS ?_
  case ld1=>
   have hcx:=hW'.2.cell
   go_simp
  try simp only [Act.put,sA,s0,sS]
  refine take_any (i:=2) (v:=.agg #[.int .i64 0,.int .i64 0]) rfl rfl (by kernel_rfl) (by kernel_rfl) (by kernel_rfl) (.inl ⟨(by kernel_rfl),fun W' _=>?bd⟩) hS ?_
  case bd=>go_simp
  try simp only [Act.put,sA,s0,sS]
  refine wpAnyH_one (i:=3) (by kernel_rfl) rfl (by kernel_rfl) ?_
  refine wp_store_blk 37 _ _ rfl HBX.out.r0.drew rfl (.slice A9 m c9) rfl rfl (by kernel_rfl) (by simp [Value.cells,Value.oneCell']) ?_
  refine ⟨⟨(Blk.farAll (w:=W) HLOW.out.1.1 _ _ _ hS.1),(Blk.farAll (w:=W) HLOW.out.1.2 _ _ _ hS.2)⟩,?_⟩
  try simp only [Act.put,sA,s0,sS]
  refine wpAnyH_one (i:=4) (by kernel_rfl) rfl (by kernel_rfl) ?_
  refine wp_store_blk 37 _ _ rfl (Blk.farAll (w:=W) (by omega) _ _ _ HBX.out.r1.drew) rfl (.slice A2 outs.length c2) rfl rfl (by kernel_rfl) (by simp [Value.cells,Value.oneCell']) ?_
  refine ⟨⟨(Blk.farAll (w:=W) HLOW.out.2.1.1 _ _ _ (Blk.farAll (w:=W) HLOW.out.1.1 _ _ _ hS.1)),(Blk.farAll (w:=W) HLOW.out.2.1.2 _ _ _ (Blk.farAll (w:=W) HLOW.out.1.2 _ _ _ hS.2))⟩,?_⟩
  try simp only [Act.put,sA,s0,sS]
  refine wpAnyH_one (i:=5) (by kernel_rfl) rfl (by kernel_rfl) ?_
  refine wp_store_blk 57 _ _ rfl (Blk.farAll (w:=W) (by omega) _ _ _ (Blk.farAll (w:=W) (by omega) _ _ _ HBX.out.r2.drew)) rfl (.agg #[.int .i64 0,.int .i64 0]) rfl rfl (by kernel_rfl) (by simp [Value.cells,Value.oneCell']) ?_
  refine ⟨⟨(Blk.farAll (w:=W) HLOW.out.2.2.1.1 _ _ _ (Blk.farAll (w:=W) HLOW.out.2.1.1 _ _ _ (Blk.farAll (w:=W) HLOW.out.1.1 _ _ _ hS.1))),(Blk.farAll (w:=W) HLOW.out.2.2.1.2 _ _ _ (Blk.farAll (w:=W) HLOW.out.2.1.2 _ _ _ (Blk.farAll (w:=W) HLOW.out.1.2 _ _ _ hS.2)))⟩,?_⟩
  try simp only [Act.put,sA,s0,sS]
  refine wpAnyH_one (i:=6) (by kernel_rfl) rfl (by kernel_rfl) ?_
  refine wp_store_blk 4 _ _ rfl (Blk.farAll (w:=W) (by omega) _ _ _ (Blk.farAll (w:=W) (by omega) _ _ _ (Blk.farAll (w:=W) (by omega) _ _ _ HBX.out.r3.drew))) rfl (.bool true) rfl rfl (by kernel_rfl) (by simp [Value.cells,Value.oneCell']) ?_
  refine ⟨⟨(Blk.farAll (w:=W) HLOW.out.2.2.2.1 _ _ _ (Blk.farAll (w:=W) HLOW.out.2.2.1.1 _ _ _ (Blk.farAll (w:=W) HLOW.out.2.1.1 _ _ _ (Blk.farAll (w:=W) HLOW.out.1.1 _ _ _ hS.1)))),(Blk.farAll (w:=W) HLOW.out.2.2.2.2 _ _ _ (Blk.farAll (w:=W) HLOW.out.2.2.1.2 _ _ _ (Blk.farAll (w:=W) HLOW.out.2.1.2 _ _ _ (Blk.farAll (w:=W) HLOW.out.1.2 _ _ _ hS.2))))⟩,?_⟩
  try simp only [Act.put,sA,s0,sS]
  refine wpAnyH_done (by kernel_rfl) (NoPanic.normal ?_) _
  gi_wp2
  obtain ⟨hk9,t0,t1,t2,t3,q1,q2,x9⟩:=HDN.out
  clear HDN hS
  simp only [Value.cells,Array.toList]
  generalize ((((W.drew.setCells w.heap.size 0 [.slice A9 m c9]).setCells (w.heap.size+1) 0 [.slice A2 outs.length c2]).setCells (w.heap.size+2) 0 [.int .i64 0,.int .i64 0]).setCells (w.heap.size+3) 0 [.bool true])=V at hk9 t0 t1 t2 t3 q1 q2 x9 ⊢
  refine ⟨by simp,.inl ⟨_,_,rfl,run_takeDeferred hk9,?_⟩⟩
  refine ⟨.tuple #[.slice A9 m c9,.slice A2 outs.length c2,.agg #[.int .i64 0,.int .i64 0],.bool true],?_,?_⟩
  ·clear q1 q2 x9 hk9
   simp only [results,Tryz.results35]
   go_simp
  ·rw [HME.out]
   exact ⟨⟨A9,c9,A2,c2,by rw [HL9.out],Lib.hid ⟨q1,q2,HPOST.out.1,HPOST.out.2⟩⟩,x9⟩
 case stop=>
  intro D W hD hX hK
  obtain ⟨i,j,hm,r0,r1,r2,r3,hx⟩:=hX
  have h0:=r0.cell
  have h1:=r1.cell
  have h2:∀ i,W.cell? ⟨w.heap.size+1+1,i,none⟩=_:=r2.cell
  have h3:∀ i,W.cell? ⟨w.heap.size+1+1+1,i,none⟩=_:=r3.cell
  have HK:=Lib.hid hK
  clear HGV HM HR HQ8 HL8 HB0 HQB HLB hK
  have ht:Turned W (W.putObj D (.deferred none)):=⟨some D,grownBy_putObj' W D _,fun r e=>by cases e;exact ⟨_,HK.out,rfl⟩⟩
  have t0:=(r0.turned ht).cell
  have t1:=(r1.turned ht).cell
  have t2:∀ i,(W.putObj D (.deferred none)).cell? ⟨w.heap.size+1+1,i,none⟩=_:=(r2.turned ht).cell
  have t3:∀ i,(W.putObj D (.deferred none)).cell? ⟨w.heap.size+1+1+1,i,none⟩=_:=(r3.turned ht).cell
  have HX:=Lib.hid (hx.putObj (D:=D) (by simp at hD;omega) (.deferred none))
  have HMM:=Lib.hid hm
  clear ht r0 r1 r2 r3 hx hm h0 h1 h2 h3
  gi_wp2_with fail
  refine ⟨by simp,.inl ⟨_,_,rfl,run_takeDeferred HK.out,?_⟩⟩
  refine ⟨.tuple #[.slice none 0 0,.slice none 0 0,.agg #[.int .i64 i,.int .i64 j],.bool false],?_,?_⟩
  ·simp only [results,Tryz.results35]
   go_simp
  ·rw [HMM.out]
   exact ⟨rfl,HX.out⟩
theorem seqmerge_any (A B:Option Addr) (n cA m cB:Nat) (a b:List Qp) (w:World) (hg:Glob w) {F:Nat→Prop} (ha:Qs w F A a) (hb:Qs w F B b) (hn:a.length=n) (hm:b.length=m) (hB:B=none→m=0∧cB=0)
 (b1:n≤100000000000) (b2:m≤100000000000) (fa:∀ q∈a,q.Fits) (fb:∀ q∈b,q.Fits):
 Calls Tryz.prog 35 #[.slice A n cA,.slice B m cB] w (Merged F (Sq.merge a b) w):=
 (callsIn_wide (n:=9)).1 (seqmerge_in 9 (Nat.le_refl _) A B n cA m cB a b w hg ha hb hn hm hB b1 b2 fa fb)
end Go.Proofs.YtfmgnaigcibcaaaGreatDoor
namespace Go.Proofs.YtfmgnaigcibcaaaGreatDoor
open Go Go.RowKit
theorem seqmerge_ok {A B:Option Addr} {n cA m cB:Nat} {a b:List Qp} {w:World} (hg:Glob w) {F:Nat→Prop} (ha:Qs w F A a) (hb:Qs w F B b) (hn:a.length=n) (hm:b.length=m) (hB:B=none→m=0∧cB=0)
 (b1:n≤100000000000) (b2:m≤100000000000) (fa:∀ q∈a,q.Fits) (fb:∀ q∈b,q.Fits) {t:List Qp × List Qp} (ht:Sq.merge a b=.ok t):
 Calls Tryz.prog 35 #[.slice A n cA,.slice B m cB] w (fun e w'=>∃ A1 c1 A2 c2,e=.returned (.tuple #[.slice A1 m c1,.slice A2 n c2,.agg #[.int .i64 0,.int .i64 0],.bool true])∧Hid (Qs w' (Fresh F w) A1 t.1∧Qs w' (Fresh F w) A2 t.2∧(A1=none→c1=0)∧(A2=none→c2=0))∧Ext w w'):=by
 refine (seqmerge_any A B n cA m cB a b w hg ha hb hn hm hB b1 b2 fa fb).mono ?_
 rintro e w' ⟨h,hx⟩
 rw [ht] at h
 obtain ⟨A1,c1,A2,c2,rfl,hq⟩:=h
 obtain ⟨l1,l2⟩:=Sq.merge_length ht
 exact ⟨A1,c1,A2,c2,by rw [l1,l2,hn,hm],hq,hx⟩
theorem seqmerge_bad {A B:Option Addr} {n cA m cB:Nat} {a b:List Qp} {w:World} (hg:Glob w) {F:Nat→Prop} (ha:Qs w F A a) (hb:Qs w F B b) (hn:a.length=n) (hm:b.length=m) (hB:B=none→m=0∧cB=0)
 (b1:n≤100000000000) (b2:m≤100000000000) (fa:∀ q∈a,q.Fits) (fb:∀ q∈b,q.Fits) {i k:Nat} (ht:Sq.merge a b=.error (i,k)):
 Calls Tryz.prog 35 #[.slice A n cA,.slice B m cB] w (Ret (.tuple #[.slice none 0 0,.slice none 0 0,.agg #[.int .i64 i,.int .i64 k],.bool false]) w):=by
 refine (seqmerge_any A B n cA m cB a b w hg ha hb hn hm hB b1 b2 fa fb).mono ?_
 rintro e w' ⟨h,hx⟩
 rw [ht] at h
 exact ⟨h,hx⟩
theorem seqmerge_go {A B:Option Addr} {n cA m cB:Nat} {a b:List Qp} {w:World} (hg:Glob w) (ha:Qs w (fun _=>True) A a) (hb:Qs w (fun _=>True) B b) (hn:a.length=n) (hm:b.length=m) (hB:B=none→m=0∧cB=0)
 (b1:n≤100000000000) (b2:m≤100000000000) (fa:∀ q∈a,q.Fits) (fb:∀ q∈b,q.Fits) {t:List Qp × List Qp} (ht:Sq.merge a b=.ok t):
 Calls Tryz.prog 35 #[.slice A n cA,.slice B m cB] w (fun e w'=>∃ A1 c1 A2 c2,e=.returned (.tuple #[.slice A1 m c1,.slice A2 n c2,.agg #[.int .i64 0,.int .i64 0],.bool true])∧Hid (Qs w' (fun _=>True) A1 t.1)∧Hid (Qs w' (fun _=>True) A2 t.2)∧Hid ((A1=none→c1=0)∧(A2=none→c2=0))∧Ext w w'):=by
 refine (seqmerge_ok hg ha hb hn hm hB b1 b2 fa fb ht).mono ?_
 rintro e w' ⟨A1,c1,A2,c2,rfl,hq,hx⟩
 exact ⟨A1,c1,A2,c2,rfl,Lib.hid hq.out.1.all,Lib.hid hq.out.2.1.all,Lib.hid ⟨hq.out.2.2.1,hq.out.2.2.2⟩,hx⟩
theorem merge_fitting {a b:List Qp} {t:List Qp × List Qp} (ht:Sq.merge a b=.ok t) (fa:∀ q∈a,q.Fits) (fb:∀ q∈b,q.Fits):(∀ q∈t.1,q.Fits)∧∀ q∈t.2,q.Fits:=by
 induction a generalizing b t with
 | nil=>
   obtain rfl:=Except.ok.inj ht
   exact ⟨fb,fun q hq=>by cases hq⟩
 | cons x a ih=>
   unfold Sq.merge at ht
   split at ht
   ·cases ht
   ·rename_i r hr
    split at ht
    ·rename_i u hu
     obtain rfl:=Except.ok.inj ht
     obtain ⟨f1,f2⟩:=carried_fits hr (fa x (List.mem_cons_self ..))
     obtain ⟨g1,g2⟩:=ih hu (fun q hq=>fa q (List.mem_cons_of_mem _ hq)) f2
     refine ⟨g1,fun q hq=>?_⟩
     rcases List.mem_cons.1 hq with rfl | hq
     ·exact f1
     ·exact g2 q hq
    ·cases ht
end Go.Proofs.YtfmgnaigcibcaaaGreatDoor
namespace Go.Proofs.YtfmgnaigcibcaaaGreatDoor
open Go Go.RowKit
attribute [local go_sem ↓] Go.wp_at_zero Go.wp_at_succ
def axAdd (a:ByteArray):Qp:={ Qp.zero with kind:=1,path:=a,ty:=1 }
def axMove:Qp:={ Qp.zero with kind:=5,path:=⟨#[100]⟩,to_:=⟨#[101]⟩ }
theorem ax_one:Sq.merge [axAdd ⟨#[120]⟩,axAdd ⟨#[121]⟩] [axMove,axAdd ⟨#[121]⟩]=.error (1,1):=by kernel_rfl
theorem ax_two:Sq.merge [axAdd ⟨#[120]⟩,axAdd ⟨#[121]⟩] [axMove]=.ok ([axMove],[axAdd ⟨#[120]⟩,axAdd ⟨#[121]⟩]):=by kernel_rfl
theorem ax_fits:(axAdd ⟨#[120]⟩).Fits∧(axAdd ⟨#[121]⟩).Fits∧axMove.Fits:=
 ⟨⟨Nat.zero_le _,Nat.zero_le _,by decide,by decide⟩,⟨Nat.zero_le _,Nat.zero_le _,by decide,by decide⟩,⟨Nat.zero_le _,Nat.zero_le _,by decide,by decide⟩⟩
set_option maxHeartbeats 4000000 in
set_option maxRecDepth 100000 in
theorem axAdd_any (a:ByteArray) (w:World):
 Calls Tryz.prog 65 #[.string a] w (Ret ((axAdd a).pv none 0 none 0).v w):=by
 go_enter Tryz.func65,Tryz.ntmps65
 have hx:=Ext.refl w
 go_wp2_with fail
 refine bodyPost_ret (v:=((axAdd a).pv none 0 none 0).v) ?_ rfl ?_
 ·simp only [results,Tryz.results65]
  go_simp
  simp [axAdd,Qp.zero]
 ·exact ⟨rfl,EX⟩
theorem ax_merge1 (gA gB:Nat) (w:World) (hg:Glob w) (hA:Blk w gA 28 (flat [(axAdd ⟨#[120]⟩).pv none 0 none 0,(axAdd ⟨#[121]⟩).pv none 0 none 0]).toArray) (hB:Blk w gB 28 (flat [axMove.pv none 0 none 0,(axAdd ⟨#[121]⟩).pv none 0 none 0]).toArray):
 Calls Tryz.prog 35 #[.slice (some ⟨gA,0,none⟩) 2 2,.slice (some ⟨gB,0,none⟩) 2 2] w (fun e w'=>e=.returned (.tuple #[.slice none 0 0,.slice none 0 0,.agg #[.int .i64 1,.int .i64 1],.bool false])∧Ext w w'):=by
 obtain ⟨f1,f2,f3⟩:=ax_fits
 refine (seqmerge_any _ _ 2 2 2 2 [axAdd ⟨#[120]⟩,axAdd ⟨#[121]⟩] [axMove,axAdd ⟨#[121]⟩] w hg (F:=fun _=>True) (Qs.plain _ hA (by simp [axAdd,Qp.zero])) (Qs.plain _ hB (by simp [axAdd,axMove,Qp.zero])) rfl rfl (fun h=>nomatch h) (by omega) (by omega) (by simp [f1,f2]) (by simp [f2,f3])).mono ?_
 rintro e w' ⟨h,hx⟩
 rw [ax_one] at h
 exact ⟨h,hx⟩
theorem ax_merge2 (gA gB:Nat) (w:World) (hg:Glob w) (hA:Blk w gA 28 (flat [(axAdd ⟨#[120]⟩).pv none 0 none 0,(axAdd ⟨#[121]⟩).pv none 0 none 0]).toArray) (hB:Blk w gB 28 (flat [axMove.pv none 0 none 0]).toArray):
 Calls Tryz.prog 35 #[.slice (some ⟨gA,0,none⟩) 2 2,.slice (some ⟨gB,0,none⟩) 1 1] w (fun e w'=>∃ A1 c1 A2 c2,e=.returned (.tuple #[.slice A1 1 c1,.slice A2 2 c2,.agg #[.int .i64 0,.int .i64 0],.bool true])∧Hid (Qs w' (fun _=>True) A1 [axMove]∧Qs w' (fun _=>True) A2 [axAdd ⟨#[120]⟩,axAdd ⟨#[121]⟩])∧Ext w w'):=by
 obtain ⟨f1,f2,f3⟩:=ax_fits
 refine (seqmerge_any _ _ 2 2 1 1 [axAdd ⟨#[120]⟩,axAdd ⟨#[121]⟩] [axMove] w hg (F:=fun _=>True) (Qs.plain _ hA (by simp [axAdd,Qp.zero])) (Qs.plain _ hB (by simp [axMove,Qp.zero])) rfl rfl (fun h=>nomatch h) (by omega) (by omega) (by simp [f1,f2]) (by simp [f3])).mono ?_
 rintro e w' ⟨h,hx⟩
 rw [ax_two] at h
 obtain ⟨A1,c1,A2,c2,rfl,hq⟩:=h
 exact ⟨A1,c1,A2,c2,rfl,Lib.hid ⟨hq.out.1.mono fun _ _=>trivial,hq.out.2.1.mono fun _ _=>trivial⟩,hx⟩
set_option maxHeartbeats 16000000 in
set_option maxRecDepth 100000 in
theorem awake15_any (w:World) (hg:Glob w):Calls Tryz.prog 34 #[] w (Ret (.bool true) w):=by
 have HG:=Lib.hid hg
 clear hg
 go_enter Tryz.func34,Tryz.ntmps34
 have hx:=Ext.refl w
 go_wp2_with fail
 refine (axAdd_any _ _).mono ?_
 rintro e w1 ⟨rfl,hx0⟩
 have hb:Blk w1 w.heap.size 28 (parr (axMove.pv none 0 none 0)):=Blk.ext hx0 (Blk.new' rfl)
 have hx1:=Ext.trans (a:=w) EX hx0
 clear hx hx0
 have hx:=hx1
 clear hx1
 go_wp2_with fail
 refine (axAdd_any _ _).mono ?_
 rintro e w2 ⟨rfl,hx0⟩
 replace hb:=Blk.ext hx0 hb
 have hx1:=Ext.trans (a:=w) EX hx0
 clear hx hx0
 have hx:=hx1
 clear hx1
 have hc:=hb.cell
 have hl:=hb.lt
 go_upto_region 4 with fail
 generalize hw3:World.alloc w2 _=w3
 have hA:Blk w3 w2.heap.size 28 (flat [(axAdd ⟨#[120]⟩).pv none 0 none 0,(axAdd ⟨#[121]⟩).pv none 0 none 0]).toArray:=by rw [← hw3];exact Blk.new' rfl
 have hx3:Ext w2 w3:=by rw [← hw3];exact (Ext.refl w2).alloc _
 replace hb:=hb.ext hx3
 have hx1:=hx.trans hx3
 clear hw3 hx hx3 hc hl
 have hx:=hx1
 clear hx1
 generalize w2.heap.size=gA at hA ⊢
 have HA:=Lib.hid hA
 have HB:=Lib.hid hb
 have HX:=Lib.hid hx
 have HM1:=Lib.hid (fun W gB (hW:Ext w3 W) hB=>ax_merge1 gA gB W (HG.out.ext (hx.trans hW)) (hA.ext hW) hB)
 go_cut [6,7] (fun u6 u7 wx=>∃ g6:Nat,u6=.pointer (some ⟨g6,0,none⟩)∧u7=.bool false∧Blk wx g6 57 #[.int .i64 1,.int .i64 1]∧Ext w3 wx)
 case first=>
  refine wp_region_noPanic (wp_region_held_drew (S:=fun w'=>Ext w3 w') (by kernel_rfl) (Ext.refl w3).drew1 (fun hv=>?_))
  refine tf (i:=0) (v:=.slice (some ⟨gA,0,none⟩) 2 2) rfl rfl (fun _=>rfl) hv ?_
  try simp only [Act.put,sA,s0,sS]
  refine tl (i:=1) (parr (axMove.pv none 0 none 0)).toList rfl rfl rfl rfl rfl Tryz.underlying28 rfl (fun _ h=>(HB.out.ext h).range 0 _ (fun j _=>by rw [Nat.zero_add,Array.getElem?_toList])) hv ?_
  try simp only [Act.put,sA,s0,sS]
  refine tf (i:=2) (v:=.func (.func 65) #[] #[]) rfl rfl (fun _=>rfl) hv ?_
  try simp only [Act.put,sA,s0,sS]
  generalize w3.drew=v0 at hv ⊢
  refine wpAnyH_ready (rs:=[3,11]) (by kernel_rfl) (by simp) ?_
  refine (AllReadyH.cons rfl (fun K hK=>?_) (AllReadyH.cons rfl (fun K hK=>?_) AllReadyH.nil))
  ·go_simp
   refine (axAdd_any _ _).mono ?_
   rintro e v1 ⟨rfl,hx0⟩
   have hv':=hv.trans hx0
   clear hv hx0
   have hv:=hv'
   clear hv'
   refine hK.out _ _ hv (fun _=>?_)
   clear hK
   try simp only [Act.put,sA,s0,sS]
   refine wpAnyH_ready (rs:=[4,11]) (by kernel_rfl) (by simp) ?_
   refine (AllReadyH.cons rfl (fun K hK=>?_) (AllReadyH.cons rfl (fun K hK=>?_) AllReadyH.nil))
   ·go_simp
    refine hK.out _ _ (hv.trans ((Ext.refl v1).alloc _)) (fun _=>?_)
    clear hK
    try simp only [Act.put,sA,s0,sS]
    generalize hq:World.alloc v1 _=v2
    have hx0:Ext v1 v2:=by rw [← hq];exact (Ext.refl v1).alloc _
    have hbB:Blk v2 v1.heap.size 28 (flat [(axMove.pv none 0 none 0),((axAdd ⟨#[121]⟩).pv none 0 none 0)]).toArray:=by rw [← hq];exact Blk.new' rfl
    have hv':=hv.trans hx0
    clear hv hq hx0
    have hv:=hv'
    clear hv'
    refine wpAnyH_ready (rs:=[5,11]) (by kernel_rfl) (by simp) ?_
    refine (AllReadyH.cons rfl (fun K hK=>?_) (AllReadyH.cons rfl (fun K hK=>?_) AllReadyH.nil))
    ·go_simp
     refine (HM1.out _ _ hv hbB).mono ?_
     rintro e v3 ⟨rfl,hx0⟩
     have hv':=hv.trans hx0
     replace hbB:=hbB.ext hx0
     clear hv hx0
     have hv:=hv'
     clear hv'
     refine hK.out _ _ hv (fun _=>?_)
     clear hK
     try simp only [Act.put,sA,s0,sS]
     refine tf (i:=6) (v:=.tuple #[.slice none 0 0,.slice none 0 0,.agg #[.int .i64 1,.int .i64 1],.bool false]) rfl rfl (fun _=>rfl) hv ?_
     try simp only [Act.put,sA,s0,sS]
     refine tf (i:=7) (v:=.slice none 0 0) rfl rfl (fun _=>rfl) hv ?_
     try simp only [Act.put,sA,s0,sS]
     refine tf (i:=8) (v:=.slice none 0 0) rfl rfl (fun _=>rfl) hv ?_
     try simp only [Act.put,sA,s0,sS]
     refine tf (i:=9) (v:=.agg #[.int .i64 1,.int .i64 1]) rfl rfl (fun _=>rfl) hv ?_
     try simp only [Act.put,sA,s0,sS]
     refine tf (i:=10) (v:=.bool false) rfl rfl (fun _=>rfl) hv ?_
     try simp only [Act.put,sA,s0,sS]
     refine wpAnyH_one (i:=11) (by kernel_rfl) rfl (by kernel_rfl) ?_
     go_simp
     refine ⟨hv.trans ((Ext.refl v3).alloc _),?_⟩
     try simp only [Act.put,sA,s0,sS]
     generalize hq:World.alloc v3 _=v4
     have hx0:Ext v3 v4:=by rw [← hq];exact (Ext.refl v3).alloc _
     have hb6:Blk v4 v3.heap.size 57 #[.int .i64 0,.int .i64 0]:=by rw [← hq];exact Blk.new' rfl
     have hv':=hv.trans hx0
     replace hbB:=hbB.ext hx0
     have hg6:w3.heap.size≤v3.heap.size:=hv.size_le
     clear hv hq hx0
     have hv:=hv'
     clear hv'
     refine tf (i:=12) (v:=.slice none 0 0) rfl rfl (fun _=>rfl) hv ?_
     try simp only [Act.put,sA,s0,sS]
     refine tf (i:=13) (v:=.slice none 0 0) rfl rfl (fun _=>rfl) hv ?_
     try simp only [Act.put,sA,s0,sS]
     refine wpAnyH_one (i:=14) (by kernel_rfl) rfl (by kernel_rfl) ?_
     refine wp_store_blk 57 _ _ rfl hb6 rfl (.agg #[.int .i64 1,.int .i64 1]) rfl rfl (by kernel_rfl) (by simp [Value.cells,Value.oneCell']) ?_
     have hv6:=Ext.setAll hg6 [.int .i64 1,.int .i64 1] 0 _ hv
     refine ⟨hv6,?_⟩
     try simp only [Act.put,sA,s0,sS]
     refine tf (i:=15) (v:=.bool false) rfl rfl (fun _=>rfl) hv6 ?_
     try simp only [Act.put,sA,s0,sS]
     refine wpAnyH_done (by kernel_rfl) (NoPanic.normal ?_) _
     go_wp2_with fail
     go_meet
     exact ⟨_,rfl,rfl,Blk.whole (vs:=(#[.int .i64 1,.int .i64 1]:Array Value)) hb6 rfl,hv6⟩
    ·go_simp
     refine hK.out _ _ (hv.trans ((Ext.refl v2).alloc _)) (fun _=>?_)
     clear hK
     try simp only [Act.put,sA,s0,sS]
     generalize hq:World.alloc v2 _=v5
     have hx0:Ext v2 v5:=by rw [← hq];exact (Ext.refl v2).alloc _
     have hb6:Blk v5 v2.heap.size 57 #[.int .i64 0,.int .i64 0]:=by rw [← hq];exact Blk.new' rfl
     have hv':=hv.trans hx0
     replace hbB:=hbB.ext hx0
     have hg6:w3.heap.size≤v2.heap.size:=hv.size_le
     clear hv hq hx0
     have hv:=hv'
     clear hv'
     refine wpAnyH_one (i:=5) (by kernel_rfl) rfl (by kernel_rfl) ?_
     go_simp
     refine (HM1.out _ _ hv hbB).mono ?_
     rintro e v6 ⟨rfl,hx0⟩
     have hv':=hv.trans hx0
     replace hbB:=hbB.ext hx0
     replace hb6:=hb6.ext hx0
     clear hv hx0
     have hv:=hv'
     clear hv'
     refine ⟨hv,?_⟩
     try simp only [Act.put,sA,s0,sS]
     refine tf (i:=6) (v:=.tuple #[.slice none 0 0,.slice none 0 0,.agg #[.int .i64 1,.int .i64 1],.bool false]) rfl rfl (fun _=>rfl) hv ?_
     try simp only [Act.put,sA,s0,sS]
     refine tf (i:=7) (v:=.slice none 0 0) rfl rfl (fun _=>rfl) hv ?_
     try simp only [Act.put,sA,s0,sS]
     refine tf (i:=8) (v:=.slice none 0 0) rfl rfl (fun _=>rfl) hv ?_
     try simp only [Act.put,sA,s0,sS]
     refine tf (i:=9) (v:=.agg #[.int .i64 1,.int .i64 1]) rfl rfl (fun _=>rfl) hv ?_
     try simp only [Act.put,sA,s0,sS]
     refine tf (i:=10) (v:=.bool false) rfl rfl (fun _=>rfl) hv ?_
     try simp only [Act.put,sA,s0,sS]
     refine tf (i:=12) (v:=.slice none 0 0) rfl rfl (fun _=>rfl) hv ?_
     try simp only [Act.put,sA,s0,sS]
     refine tf (i:=13) (v:=.slice none 0 0) rfl rfl (fun _=>rfl) hv ?_
     try simp only [Act.put,sA,s0,sS]
     refine wpAnyH_one (i:=14) (by kernel_rfl) rfl (by kernel_rfl) ?_
     refine wp_store_blk 57 _ _ rfl hb6 rfl (.agg #[.int .i64 1,.int .i64 1]) rfl rfl (by kernel_rfl) (by simp [Value.cells,Value.oneCell']) ?_
     have hv6:=Ext.setAll hg6 [.int .i64 1,.int .i64 1] 0 _ hv
     refine ⟨hv6,?_⟩
     try simp only [Act.put,sA,s0,sS]
     refine tf (i:=15) (v:=.bool false) rfl rfl (fun _=>rfl) hv6 ?_
     try simp only [Act.put,sA,s0,sS]
     refine wpAnyH_done (by kernel_rfl) (NoPanic.normal ?_) _
     go_wp2_with fail
     go_meet
     exact ⟨_,rfl,rfl,Blk.whole (vs:=(#[.int .i64 1,.int .i64 1]:Array Value)) hb6 rfl,hv6⟩
   ·go_simp
    refine hK.out _ _ (hv.trans ((Ext.refl v1).alloc _)) (fun _=>?_)
    clear hK
    try simp only [Act.put,sA,s0,sS]
    generalize hq:World.alloc v1 _=v7
    have hx0:Ext v1 v7:=by rw [← hq];exact (Ext.refl v1).alloc _
    have hb6:Blk v7 v1.heap.size 57 #[.int .i64 0,.int .i64 0]:=by rw [← hq];exact Blk.new' rfl
    have hv':=hv.trans hx0
    have hg6:w3.heap.size≤v1.heap.size:=hv.size_le
    clear hv hq hx0
    have hv:=hv'
    clear hv'
    refine wpAnyH_one (i:=4) (by kernel_rfl) rfl (by kernel_rfl) ?_
    go_simp
    refine ⟨hv.trans ((Ext.refl v7).alloc _),?_⟩
    try simp only [Act.put,sA,s0,sS]
    generalize hq:World.alloc v7 _=v8
    have hx0:Ext v7 v8:=by rw [← hq];exact (Ext.refl v7).alloc _
    have hbB:Blk v8 v7.heap.size 28 (flat [(axMove.pv none 0 none 0),((axAdd ⟨#[121]⟩).pv none 0 none 0)]).toArray:=by rw [← hq];exact Blk.new' rfl
    have hv':=hv.trans hx0
    replace hb6:=hb6.ext hx0
    clear hv hq hx0
    have hv:=hv'
    clear hv'
    refine wpAnyH_one (i:=5) (by kernel_rfl) rfl (by kernel_rfl) ?_
    go_simp
    refine (HM1.out _ _ hv hbB).mono ?_
    rintro e v9 ⟨rfl,hx0⟩
    have hv':=hv.trans hx0
    replace hbB:=hbB.ext hx0
    replace hb6:=hb6.ext hx0
    clear hv hx0
    have hv:=hv'
    clear hv'
    refine ⟨hv,?_⟩
    try simp only [Act.put,sA,s0,sS]
    refine tf (i:=6) (v:=.tuple #[.slice none 0 0,.slice none 0 0,.agg #[.int .i64 1,.int .i64 1],.bool false]) rfl rfl (fun _=>rfl) hv ?_
    try simp only [Act.put,sA,s0,sS]
    refine tf (i:=7) (v:=.slice none 0 0) rfl rfl (fun _=>rfl) hv ?_
    try simp only [Act.put,sA,s0,sS]
    refine tf (i:=8) (v:=.slice none 0 0) rfl rfl (fun _=>rfl) hv ?_
    try simp only [Act.put,sA,s0,sS]
    refine tf (i:=9) (v:=.agg #[.int .i64 1,.int .i64 1]) rfl rfl (fun _=>rfl) hv ?_
    try simp only [Act.put,sA,s0,sS]
    refine tf (i:=10) (v:=.bool false) rfl rfl (fun _=>rfl) hv ?_
    try simp only [Act.put,sA,s0,sS]
    refine tf (i:=12) (v:=.slice none 0 0) rfl rfl (fun _=>rfl) hv ?_
    try simp only [Act.put,sA,s0,sS]
    refine tf (i:=13) (v:=.slice none 0 0) rfl rfl (fun _=>rfl) hv ?_
    try simp only [Act.put,sA,s0,sS]
    refine wpAnyH_one (i:=14) (by kernel_rfl) rfl (by kernel_rfl) ?_
    refine wp_store_blk 57 _ _ rfl hb6 rfl (.agg #[.int .i64 1,.int .i64 1]) rfl rfl (by kernel_rfl) (by simp [Value.cells,Value.oneCell']) ?_
    have hv6:=Ext.setAll hg6 [.int .i64 1,.int .i64 1] 0 _ hv
    refine ⟨hv6,?_⟩
    try simp only [Act.put,sA,s0,sS]
    refine tf (i:=15) (v:=.bool false) rfl rfl (fun _=>rfl) hv6 ?_
    try simp only [Act.put,sA,s0,sS]
    refine wpAnyH_done (by kernel_rfl) (NoPanic.normal ?_) _
    go_wp2_with fail
    go_meet
    exact ⟨_,rfl,rfl,Blk.whole (vs:=(#[.int .i64 1,.int .i64 1]:Array Value)) hb6 rfl,hv6⟩
  ·go_simp
   refine hK.out _ _ (hv.trans ((Ext.refl v0).alloc _)) (fun _=>?_)
   clear hK
   try simp only [Act.put,sA,s0,sS]
   generalize hq:World.alloc v0 _=v10
   have hx0:Ext v0 v10:=by rw [← hq];exact (Ext.refl v0).alloc _
   have hb6:Blk v10 v0.heap.size 57 #[.int .i64 0,.int .i64 0]:=by rw [← hq];exact Blk.new' rfl
   have hv':=hv.trans hx0
   have hg6:w3.heap.size≤v0.heap.size:=hv.size_le
   clear hv hq hx0
   have hv:=hv'
   clear hv'
   refine wpAnyH_one (i:=3) (by kernel_rfl) rfl (by kernel_rfl) ?_
   go_simp
   refine (axAdd_any _ _).mono ?_
   rintro e v11 ⟨rfl,hx0⟩
   have hv':=hv.trans hx0
   replace hb6:=hb6.ext hx0
   clear hv hx0
   have hv:=hv'
   clear hv'
   refine ⟨hv,?_⟩
   try simp only [Act.put,sA,s0,sS]
   refine wpAnyH_one (i:=4) (by kernel_rfl) rfl (by kernel_rfl) ?_
   go_simp
   refine ⟨hv.trans ((Ext.refl v11).alloc _),?_⟩
   try simp only [Act.put,sA,s0,sS]
   generalize hq:World.alloc v11 _=v12
   have hx0:Ext v11 v12:=by rw [← hq];exact (Ext.refl v11).alloc _
   have hbB:Blk v12 v11.heap.size 28 (flat [(axMove.pv none 0 none 0),((axAdd ⟨#[121]⟩).pv none 0 none 0)]).toArray:=by rw [← hq];exact Blk.new' rfl
   have hv':=hv.trans hx0
   replace hb6:=hb6.ext hx0
   clear hv hq hx0
   have hv:=hv'
   clear hv'
   refine wpAnyH_one (i:=5) (by kernel_rfl) rfl (by kernel_rfl) ?_
   go_simp
   refine (HM1.out _ _ hv hbB).mono ?_
   rintro e v13 ⟨rfl,hx0⟩
   have hv':=hv.trans hx0
   replace hbB:=hbB.ext hx0
   replace hb6:=hb6.ext hx0
   clear hv hx0
   have hv:=hv'
   clear hv'
   refine ⟨hv,?_⟩
   try simp only [Act.put,sA,s0,sS]
   refine tf (i:=6) (v:=.tuple #[.slice none 0 0,.slice none 0 0,.agg #[.int .i64 1,.int .i64 1],.bool false]) rfl rfl (fun _=>rfl) hv ?_
   try simp only [Act.put,sA,s0,sS]
   refine tf (i:=7) (v:=.slice none 0 0) rfl rfl (fun _=>rfl) hv ?_
   try simp only [Act.put,sA,s0,sS]
   refine tf (i:=8) (v:=.slice none 0 0) rfl rfl (fun _=>rfl) hv ?_
   try simp only [Act.put,sA,s0,sS]
   refine tf (i:=9) (v:=.agg #[.int .i64 1,.int .i64 1]) rfl rfl (fun _=>rfl) hv ?_
   try simp only [Act.put,sA,s0,sS]
   refine tf (i:=10) (v:=.bool false) rfl rfl (fun _=>rfl) hv ?_
   try simp only [Act.put,sA,s0,sS]
   refine tf (i:=12) (v:=.slice none 0 0) rfl rfl (fun _=>rfl) hv ?_
   try simp only [Act.put,sA,s0,sS]
   refine tf (i:=13) (v:=.slice none 0 0) rfl rfl (fun _=>rfl) hv ?_
   try simp only [Act.put,sA,s0,sS]
   refine wpAnyH_one (i:=14) (by kernel_rfl) rfl (by kernel_rfl) ?_
   refine wp_store_blk 57 _ _ rfl hb6 rfl (.agg #[.int .i64 1,.int .i64 1]) rfl rfl (by kernel_rfl) (by simp [Value.cells,Value.oneCell']) ?_
   have hv6:=Ext.setAll hg6 [.int .i64 1,.int .i64 1] 0 _ hv
   refine ⟨hv6,?_⟩
   try simp only [Act.put,sA,s0,sS]
   refine tf (i:=15) (v:=.bool false) rfl rfl (fun _=>rfl) hv6 ?_
   try simp only [Act.put,sA,s0,sS]
   refine wpAnyH_done (by kernel_rfl) (NoPanic.normal ?_) _
   go_wp2_with fail
   go_meet
   exact ⟨_,rfl,rfl,Blk.whole (vs:=(#[.int .i64 1,.int .i64 1]:Array Value)) hb6 rfl,hv6⟩
 case rest=>
  obtain ⟨g6,rfl,rfl,hb6,hx4⟩:=hcut
  have HW4:=Lib.hid (HB.out.ext hx4)
  have hc:=HW4.out.cell
  have hl:=HW4.out.lt
  have hm2:=fun W (hW:Ext wc W) (hB:Blk W wc.heap.size 28 (flat [axMove.pv none 0 none 0]).toArray)=>ax_merge2 gA wc.heap.size W (HG.out.ext (HX.out.trans (hx4.trans hW))) (HA.out.ext (hx4.trans hW)) hB
  have HM2:=Lib.hid hm2
  clear hb hA hm2 hx HM1
  go_wp2_with fail
  refine (HM2.out _ ((Ext.refl wc).alloc _) (Blk.new' rfl)).mono ?_
  rintro e w5 ⟨A1,c1,A2,c2,rfl,HQ,hx0⟩
  have hx5:=((Ext.refl wc).alloc _).trans hx0
  clear HM2 hx0 hc hl
  replace hb6:=hb6.ext hx5
  have hb5:=HW4.out.ext hx5
  have hc6:=hb6.cell
  have hl6:=hb6.lt
  have hc5:=hb5.cell
  have hl5:=hb5.lt
  have HS1:=Lib.hid (fun W g (hW:Ext w5 W) (hB:Blk W g 28 (flat [axMove.pv none 0 none 0]).toArray)=>rsame_true A1 (some ⟨g,0,none⟩) 1 c1 1 [axMove] W (HQ.out.1.ext hW) (Qs.plain (fun _=>True) hB (by simp [axMove,Qp.zero])) rfl (by omega) (by simp [ax_fits.2.2]))
  have HS2:=Lib.hid (fun W (hW:Ext w5 W)=>rsame_true A2 (some ⟨gA,0,none⟩) 2 c2 2 [axAdd ⟨#[120]⟩,axAdd ⟨#[121]⟩] W (HQ.out.2.ext hW) (Qs.plain (fun _=>True) (HA.out.ext (hx4.trans (hx5.trans hW))) (by simp [axAdd,Qp.zero])) rfl (by omega) (by simp [ax_fits.1,ax_fits.2.1]))
  have qe:∀ w,(Op.equalIn 10000 57 (.agg #[.int .i64 1,.int .i64 1]) (.agg #[.int .i64 1,.int .i64 1])).run Tryz.prog w=.ok true w:=fun w=>eql_pair 1 1 1 1 w
  dsimp only
  go_wp2_with fail
  clear hc6 hl6 hc5 hl5
  refine (HS1.out _ _ ((Ext.refl w5).alloc _ |>.alloc _) (Blk.new' (by simp))).mono ?_
  rintro e w6 ⟨rfl,hx0⟩
  have hx6:=((Ext.refl w5).alloc _ |>.alloc _).trans hx0
  go_wp2_with fail
  refine (HS2.out _ hx6).mono ?_
  rintro e w7 ⟨rfl,hx7⟩
  have hx:=HX.out.trans (hx4.trans (hx5.trans (hx6.trans hx7)))
  clear hx0 hx4 hx5 hx6 hx7
  go_wp2_with fail
  (go_ret;refine Ret.mk ?_ ?_;(focus (rfl;done));(focus (exact EX;done)))
end Go.Proofs.YtfmgnaigcibcaaaGreatDoor
