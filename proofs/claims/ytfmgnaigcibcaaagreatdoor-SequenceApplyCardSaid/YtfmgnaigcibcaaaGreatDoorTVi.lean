import Derived.Test.YtfmgnaigcibcaaaGreatDoorTJt
import Derived.Test.YtfmgnaigcibcaaaGreatDoorTO
import Derived.Test.YtfmgnaigcibcaaaGreatDoorTJo
set_option linter.unusedSimpArgs false
set_option linter.unusedVariables false
namespace Go.Proofs.YtfmgnaigcibcaaaGreatDoor
open Go Go.RowKit
attribute [local go_sem ↓] Go.wp_at_zero Go.wp_at_succ
theorem Qs.sole {W:World} {g:Nat} {G:Nat→Prop} {P:Pv} {q:Qp} (hb:Blk W g 28 (parr P)) (hi:Is W G P q):Qs W G (Option.some ⟨g,0,Option.none⟩) [q]:=by
 refine ⟨[P],rfl,fun _=>⟨g,0,rfl,hb.lt,fun i p hp j v hv=>?_⟩,fun i p q' hp hq=>?_⟩
 ·have h0:i=0:=by have :=(List.getElem?_eq_some_iff.1 hp).1;simpa using this
  subst h0
  obtain rfl:P=p:=Option.some.inj hp
  rw [hb.cell]
  simpa using hv
 ·have h0:i=0:=by have :=(List.getElem?_eq_some_iff.1 hp).1;simpa using this
  subst h0
  obtain rfl:P=p:=Option.some.inj hp
  obtain rfl:q=q':=Option.some.inj hq
  exact hi
abbrev z15:Array Value:=#[.int .i64 0,.string ⟨#[]⟩,.string ⟨#[]⟩,.int .i64 0,.int .i64 0,.slice none 0 0,.slice none 0 0,.int .i64 0,.string ⟨#[]⟩,.string ⟨#[]⟩,.int .i64 0,.int .i64 0,.slice none 0 0,.int .i64 0,.bool false]
def Sq.invErr (l:List Qp):Int:=match l.find? (fun q=>decide (q.check≠0)) with
 | some q=>q.check
 | none=>0
theorem invErr_at {l:List Qp} {i:Nat} {q:Qp} (h:∀ x∈l.take i,x.check=0) (hq:l[i]?=some q) (hb:q.check≠0):Sq.invErr l=q.check:=by
 have hi:=(List.getElem?_eq_some_iff.1 hq).1
 have e:l=l.take i ++ q :: l.drop (i+1):=by
  have:=List.drop_eq_getElem_cons hi
  rw [(List.getElem?_eq_some_iff.1 hq).2] at this
  rw [← this,List.take_append_drop]
 have h1:(l.take i).find? (fun q=>decide (q.check≠0))=none:=by
  rw [List.find?_eq_none]
  intro x hx
  simp [h x hx]
 unfold Sq.invErr
 rw [e,List.find?_append,h1,List.find?_cons]
 simp [hb]
def InvertedE (l:List Qp) (n:Nat) (w:World) (e:Ending) (w':World):Prop:=
 ((¬ Sq.Ok l∧Sq.invErr l≠0∧e=.returned (.tuple #[.slice none 0 0,.int .i64 (Sq.invErr l)]))∨(Sq.Ok l∧∃ A c,e=.returned (.tuple #[.slice A n c,.int .i64 0])∧Hid (Qs w' (fun _=>True) A (Sq.invert l))))∧Ext w w'
def Inverted (l:List Qp) (n:Nat) (w:World) (e:Ending) (w':World):Prop:=
 ((¬ Sq.Ok l∧∃ c:Int,c≠0∧e=.returned (.tuple #[.slice none 0 0,.int .i64 c]))∨(Sq.Ok l∧∃ A c,e=.returned (.tuple #[.slice A n c,.int .i64 0])∧Hid (Qs w' (fun _=>True) A (Sq.invert l))))∧Ext w w'
theorem preverse_none (w:World):
 Calls Tryz.prog 52 #[.slice none 0 0] w (fun e w'=>(∃ v,e=.returned v)∧Ext w w'):=by
 go_enter Tryz.func52,Tryz.ntmps52
 have hx:=Ext.refl w
 go_wp2_with fail
 refine wp_loop_rounds 1 ?_
 rw [rounds_succ]
 go_wp2_with fail
 go_end0
 exact ⟨⟨_,rfl⟩,hx⟩
theorem grows_reverse {w:World} {base:Nat} {v:Value} {l:List Qp} (h:Grows w base (fun _=>True) v l) (hl:l.length≤1000000000000):
 ∃ A c,v=.slice A l.length c∧Calls Tryz.prog 52 #[.slice A l.length c] w (fun e w'=>(∃ v,e=.returned v)∧Hid (Qs w' (fun _=>True) A l.reverse)∧Hid (∀ w0,Ext w0 w→w0.heap.size≤base→Ext w0 w')):=by
 obtain ⟨ps,h1,h2,h3⟩:=h
 rcases h2.2 with ⟨hv,hn⟩ | ⟨g,cap,cur,hv,hbg,hg,hnc,hcm,hcs,htake⟩
 ·have hz:l=[]:=List.length_eq_zero_iff.1 hn
  subst hz
  refine ⟨none,0,hv,(preverse_none w).mono ?_⟩
  rintro e w' ⟨he,hx⟩
  exact ⟨he,Lib.hid (Qs.nil _ _ _),Lib.hid fun w0 h0 _=>h0.trans hx⟩
 ·have hcur:cur=(flat ps ++ cur.toList.drop (l.length * 12)).toArray:=by
   rw [← htake,List.take_append_drop]
  have hb:Blk w g 28 (flat ps ++ cur.toList.drop (l.length * 12)).toArray:=by rw [← hcur];exact hg
  refine ⟨some ⟨g,0,none⟩,cap,hv,(preverse_any g l.length cap ps _ w hb h1 hl).mono ?_⟩
  rintro e w' ⟨he,hb',hk⟩
  refine ⟨he,Lib.hid (Qs.of_blk hb'.out (by simp [h1]) fun i p q hp hq=>?_),Lib.hid fun w0 h0 hw=>hk.out.ext w0 h0 (by omega)⟩
  have hip:i < ps.length:=by have :=(List.getElem?_eq_some_iff.1 hp).1;simpa using this
  rw [List.getElem?_reverse hip] at hp
  rw [List.getElem?_reverse (by omega)] at hq
  rw [← h1] at hq
  have:=h3 _ p q hp hq
  subst hv
  exact (hk.out.is p q (this.mono fun b hb=>fun e=>hb.2 (by rw [e];rfl))).mono fun _ _=>trivial
set_option maxHeartbeats 8000000 in
set_option maxRecDepth 100000 in
theorem seqinvert_ex (A:Option Addr) (n c:Nat) (l:List Qp) (w:World) (hg:Glob w) {F:Nat→Prop} (h:Qs w F A l) (hn:l.length=n) (hb:n≤1000000000) (hf:∀ q∈l,q.Fits):
 Calls Tryz.prog 21 #[.slice A n c] w (InvertedE l n w):=by
 have HQ:=Lib.hid h
 have HN:=Lib.hid hn
 have HG:=Lib.hid hg
 have HF:=Lib.hid hf
 clear h hn hg hf
 go_enter Tryz.func21,Tryz.ntmps21
 have hx:=Ext.refl w
 go_wp2_with fail
 go_loopw [4,11] (fun u4 u11 wr=>∃ i:Nat,i≤n∧u11=.int .i64 i∧Ext w wr∧Hid (Grows wr w.heap.size (fun _=>True) u4 ((l.take i).map Qp.inv))∧Hid (∀ x∈l.take i,x.check=0)) (fun u4 u11 wr=>n - (intOf u11).toNat)
 case atStart=>exact ⟨0,Nat.zero_le _,rfl,hx,Lib.hid (Grows.nil _ _ _),Lib.hid (by simp)⟩
 case round=>
  clear hx
  obtain ⟨i,hi,rfl,hx,HGR,HOK⟩:=hrel
  by_cases hlt:i < n
  ·have hil:i < l.length:=by rw [HN.out];exact hlt
   have e1:l[i]?=some l[i]:=List.getElem?_eq_getElem hil
   have etk:l.take (i+1)=l.take i ++ [l[i]]:=by rw [List.take_add_one,e1];rfl
   have fq:=HF.out _ (List.mem_of_getElem? e1)
   have hmem:l[i]∈l:=List.mem_of_getElem? e1
   obtain ⟨ba,oa,p,rfl,hbl,hc,hii⟩:=(HQ.out.in.ext hx).get e1
   generalize l[i]=q at e1 etk fq hmem hii
   have HI:=Lib.hid hii
   have HTK:=Lib.hid etk
   have HE1:=Lib.hid e1
   have HME:=Lib.hid hmem
   have FQ:=Lib.hid fq
   obtain ⟨q0,q1,q2,q3,q4,q5,q6,q7,q8,q9,q10,q11⟩:=cells12 hc
   clear hc hii e1 etk fq hmem hil
   by_cases hk:q.check=0
   ·have HIV:=Lib.hid (fun W (hW:Ext wr W)=>inv_good p q W (HG.out.ext (hx.trans hW)) (HI.out.ext hW) FQ.out.1 FQ.out.2.1 FQ.out.2.2.1 FQ.out.2.2.2 hk)
    have HK:=Lib.hid hk
    clear hk
    go_wp2_with fail
    clear q0 q1 q2 q3 q4 q5 q6 q7 q8 q9 q10 q11
    refine (HIV.out _ ((Ext.refl wr).alloc _)).mono ?_
    rintro e w1 ⟨P,rfl,hP,hx1⟩
    have hx2:=((Ext.refl wr).alloc _).trans hx1
    have HP:=Lib.hid (hP.in.mono (G:=fun b=>b < w1.heap.size∧wr.heap.size≤b) fun b hb=>⟨hb.2,by have :=hb.1;simp at this;omega⟩)
    have HX:=Lib.hid (hx.trans hx2)
    have HSZ:Hid (w.heap.size≤wr.heap.size∧wr.heap.size≤w1.heap.size):=Lib.hid ⟨hx.size_le,hx2.size_le⟩
    have HOW:Hid (∀ k,u4.ownBlock=some k→k < wr.heap.size):=Lib.hid fun k e=>(HGR.out.own k e).2
    have HGR:=Lib.hid (HGR.out.ext hx2)
    clear hx hx1 hx2 HIV HI hP
    go_wp2_with (at_builtin;refine wpList_grows _ rfl _ _ 37 rfl Tryz.underlying37 (by kernel_rfl) w.heap.size u4 ((l.take i).map Qp.inv) [q.inv] rfl (HGR.out.ext (by repeat (first | with_reducible exact Ext.refl _ | with_reducible refine Ext.alloc ?_ _))) (some ⟨w1.heap.size+1,0,none⟩) 1 1 rfl rfl (Qs.sole (Blk.new' (by simp)) (HP.out.ext (by repeat (first | with_reducible exact Ext.refl _ | with_reducible refine Ext.alloc ?_ _)))) (fun b hb=>⟨by have :=hb.1;simp;omega,trivial,fun e=>by have :=HOW.out b e.symm;omega⟩) (by simp;omega) (by have :=HSZ.out;simp;omega) ?_;intro v2 w2 hgr hgrow)
    have hx3:Ext w w2:=Ext.grownBy (((HX.out.alloc _).alloc _)) hgrow (fun k e=>(HGR.out.own k e).1)
    have hgr2:Grows w2 w.heap.size (fun _=>True) v2 ((l.take (i+1)).map Qp.inv):=by rw [HTK.out,List.map_append];exact hgr
    have HG2:=Lib.hid hgr2
    have HO2:Hid (∀ x∈l.take (i+1),x.check=0):=Lib.hid (by
     rw [HTK.out]
     intro x hx
     rcases List.mem_append.1 hx with hx | hx
     ·exact HOK.out x hx
     ·rw [List.mem_singleton.1 hx];exact HK.out)
    clear hgr hgrow hgr2 HGR HOW HSZ HX HP HOK
    go_wp2_with fail
    go_roundw
    case rel=>exact ⟨i+1,hlt,rfl,hx3,HG2,HO2⟩
    case measure=>simp [intOf];omega
   ·have HIV:=Lib.hid (fun W (hW:Ext wr W)=>inv_bad p q W (HG.out.ext (hx.trans hW)) (HI.out.ext hW) FQ.out.1 FQ.out.2.1 FQ.out.2.2.1 FQ.out.2.2.2 hk)
    have HB:Hid (¬ Sq.Ok l):=Lib.hid fun ho=>hk (ho q HME.out)
    have HIE:Hid (Sq.invErr l=q.check):=Lib.hid (invErr_at HOK.out HE1.out hk)
    have hkk:=hk
    clear HGR HOK
    go_wp2_with fail
    clear q0 q1 q2 q3 q4 q5 q6 q7 q8 q9 q10 q11
    refine (HIV.out _ ((Ext.refl wr).alloc _)).mono ?_
    rintro e w1 ⟨P,rfl,hP,hx1⟩
    have hx2:=hx.trans (((Ext.refl wr).alloc _).trans hx1)
    clear hx hx1 HIV HI hP
    have hx:=hx2
    clear hx2
    go_wp2_with fail
    refine bodyPost_ret (v:=.tuple #[.slice none 0 0,.int .i64 q.check]) (by simp only [results,Tryz.results21];go_simp) rfl ?_
    exact ⟨.inl ⟨HB.out,by rw [HIE.out];exact hkk,by rw [HIE.out]⟩,hx.alloc _⟩
  ·have hin:i=n:=by omega
   subst hin
   have htk:l.take i=l:=by rw [← HN.out,List.take_length]
   have HOA:Hid (Sq.Ok l):=Lib.hid (by have :=HOK.out;rw [htk] at this;exact this)
   have hgr:=HGR.out
   rw [htk] at hgr
   obtain ⟨C,cc,hv,hcall⟩:=grows_reverse hgr (by simp [HN.out];omega)
   have hml:(l.map Qp.inv).length=i:=by simp [HN.out]
   rw [hml] at hv hcall
   subst hv
   have HC:=Lib.hid hcall
   clear hgr hcall HGR HOK htk hml hlt
   go_wp2_with fail
   refine HC.out.mono ?_
   rintro e w1 ⟨⟨v,rfl⟩,hq,hk⟩
   have hx1:=hk.out w hx (Nat.le_refl _)
   have HQ1:Hid (Qs w1 (fun _=>True) C (Sq.invert l)):=Lib.hid hq.out
   clear hq hk HC hx
   have hx:=hx1
   clear hx1
   dsimp only
   go_wp2_with fail
   refine bodyPost_ret (v:=.tuple #[.slice C i cc,.int .i64 0]) (by simp only [results,Tryz.results21];go_simp) rfl ?_
   exact ⟨.inr ⟨HOA.out,C,cc,rfl,HQ1⟩,hx⟩
theorem seqinvert_any (A:Option Addr) (n c:Nat) (l:List Qp) (w:World) (hg:Glob w) {F:Nat→Prop} (h:Qs w F A l) (hn:l.length=n) (hb:n≤1000000000) (hf:∀ q∈l,q.Fits):
 Calls Tryz.prog 21 #[.slice A n c] w (Inverted l n w):=(seqinvert_ex A n c l w hg h hn hb hf).mono fun e w' h=>by
 obtain ⟨h1 | h1,hx⟩:=h
 ·exact ⟨.inl ⟨h1.1,_,h1.2.1,h1.2.2⟩,hx⟩
 ·exact ⟨.inr h1,hx⟩
end Go.Proofs.YtfmgnaigcibcaaaGreatDoor
