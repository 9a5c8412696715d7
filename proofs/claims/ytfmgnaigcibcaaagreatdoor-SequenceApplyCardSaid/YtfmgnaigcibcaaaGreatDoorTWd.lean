import Derived.Test.YtfmgnaigcibcaaaGreatDoorTWa
import Derived.Test.YtfmgnaigcibcaaaGreatDoorTJk
import Derived.Test.YtfmgnaigcibcaaaGreatDoorTVi
import Derived.Test.YtfmgnaigcibcaaaGreatDoorTJu
set_option linter.unusedSimpArgs false
set_option linter.unusedVariables false
namespace Go.Proofs.YtfmgnaigcibcaaaGreatDoor
open Go Go.RowKit
attribute [local go_sem ↓] Go.wp_at_zero Go.wp_at_succ
def Qp.Neat (q:Qp):Prop:=q.Mild∧(∀ x∈q.old,x.size≤4611686018427387904)∧∀ x∈q.new,x.size≤4611686018427387904
set_option maxHeartbeats 8000000 in
set_option maxRecDepth 100000 in
theorem rseqapply_any (A B:Option Addr) (n c m d:Nat) (t:List Pf) (l:List Qp) (w:World) {F:Nat→Prop} (ht:Trs w A t) (hn:t.length=n) (hc:n≤c) (hl:Qs w F B l) (hm:l.length=m) (b1:n≤10000000000000) (b2:m≤1000000000) (hf:∀ q∈l,q.Neat):
 Calls Tryz.prog 20 #[.slice A n c,.slice B m d] w (GivesS (Um.apply t l) w):=by
 have HC:=Lib.hid (fun W (hW:Ext w W)=>rchecktree_any A n c t W (ht.ext hW) hn b1 hc)
 have HT:=Lib.hid ht
 have HN:=Lib.hid hn
 have HQ:=Lib.hid hl
 have HM:=Lib.hid hm
 have HF:=Lib.hid hf
 clear ht hn hl hm hf
 by_cases h1:Tr.checkTree t=0
 rotate_left
 ·have e:Um.apply t l=([],0,Tr.checkTree t):=by unfold Um.apply;rw [if_pos h1]
  rw [e]
  clear e
  generalize Tr.checkTree t=k at h1 HC
  go_enter Tryz.func20,Tryz.ntmps20
  have hx:=Ext.refl w
  go_wp2_with (go_at_call 41;refine (HC.out _ EX).mono ?_;rintro e w1 ⟨rfl,hx0⟩;skip;have hy:=Ext.trans (a:=w) EX hx0;clear hx;have hx:=hy;clear hy hx0)
  refine bodyPost_ret (v:=.tuple #[.slice none 0 0,.int .i64 0,.int .i64 k]) (by simp only [results,Tryz.results20];go_simp) rfl ?_
  exact ⟨none,0,0,rfl,rfl,Lib.hid (Trs.nil _ _),EX⟩
 ·have e:Um.apply t l=Um.applyFrom t 0 l:=by unfold Um.apply;rw [if_neg (by simpa using h1)]
  rw [e]
  rw [h1] at HC
  clear e h1
  go_enter Tryz.func20,Tryz.ntmps20
  have hx:=Ext.refl w
  go_wp2_with (go_at_call 41;refine (HC.out _ EX).mono ?_;rintro e w1 ⟨rfl,hx0⟩;skip;have hy:=Ext.trans (a:=w) EX hx0;clear hx;have hx:=hy;clear hy hx0)
  go_loopw [0,8] (fun u0 u8 wr=>∃ (i:Nat) (A':Option Addr) (n' c':Nat) (s:List Pf),i≤m∧u8=.int .i64 i∧u0=.slice A' n' c'∧s.length=n'∧n'≤c'∧n'≤10000000000000∧Ext w wr∧Hid (Trs wr A' s)∧Hid (Um.applyFrom t 0 l=Um.applyFrom s i (l.drop i))) (fun u0 u8 wr=>m - (intOf u8).toNat)
  case atStart=>exact ⟨0,A,n,c,t,Nat.zero_le _,rfl,rfl,HN.out,hc,b1,hx,Lib.hid (HT.out.ext hx),Lib.hid (by rw [List.drop_zero])⟩
  case round=>
   clear hx hc
   obtain ⟨i,A',n',c',s,hi,rfl,rfl,hsn,hcap,hb',hx,HT',HE⟩:=hrel
   by_cases hlt:i < m
   ·have hil:i < l.length:=by rw [HM.out];exact hlt
    have e1:l[i]?=some l[i]:=List.getElem?_eq_getElem hil
    have edr:l.drop i=l[i] :: l.drop (i+1):=List.drop_eq_getElem_cons hil
    have fq:=HF.out _ (List.mem_of_getElem? e1)
    obtain ⟨ba,oa,p,rfl,hbl,hc,hii⟩:=(HQ.out.in.ext hx).get e1
    generalize l[i]=q at e1 edr fq hii
    have HA:=Lib.hid (fun W (hW:Ext wr W)=>refapply_cap p q A' n' c' s W (HT'.out.ext hW) hsn hcap hb' (hii.ext hW) fq.1 fq.2.1 fq.2.2)
    obtain ⟨r,E,her⟩:∃ r E,Tr.apply s q=(r,E):=⟨_,_,rfl⟩
    have HE2:Hid (Um.applyFrom t 0 l=if E≠0 then ([],i,E) else Um.applyFrom r (i+1) (l.drop (i+1))):=Lib.hid (by rw [HE.out,edr,applyFrom_cons her])
    have HL:Hid (E=0→r.length≤200):=Lib.hid fun e=>apply_len (her.trans (by rw [e]))
    rw [her] at HA
    obtain ⟨q0,q1,q2,q3,q4,q5,q6,q7,q8,q9,q10,q11⟩:=cells12 hc
    have HX:=Lib.hid hx
    clear hc hii e1 edr fq hil her HE HT' hsn hb' hcap hx
    have hx:=Ext.refl wr
    by_cases hE:E=0
    ·subst hE
     replace HL:=Lib.hid (HL.out rfl)
     go_wp2_with fail
     clear q0 q1 q2 q3 q4 q5 q6 q7 q8 q9 q10 q11
     refine (HA.out _ EX).mono ?_
     rintro e w1 ⟨C,n2,c2,rfl,hn2,hT,hx1⟩
     have hx2:=HX.out.trans (Ext.trans (a:=wr) EX hx1)
     have HT2:=Lib.hid hT.out.1
     have HCP2:Hid (n2≤c2):=Lib.hid hT.out.2.2
     have HL2:Hid (n2≤200):=Lib.hid (by rw [hn2];exact HL.out)
     have HN2:Hid (r.length=n2):=Lib.hid hn2.symm
     clear hn2 hT hx1 HA HX HL hx
     have hx:=Ext.refl w1
     go_wp2_with fail
     go_roundw
     case rel=>exact ⟨i+1,C,n2,c2,r,hlt,rfl,rfl,HN2.out,HCP2.out,by have :=HL2.out;omega,hx2,HT2,Lib.hid (by rw [HE2.out];simp)⟩
     case measure=>simp [intOf];omega
    ·go_wp2_with fail
     clear q0 q1 q2 q3 q4 q5 q6 q7 q8 q9 q10 q11
     refine (HA.out _ EX).mono ?_
     rintro e w1 ⟨C,n2,c2,rfl,hn2,hT,hx1⟩
     have hx2:=HX.out.trans (Ext.trans (a:=wr) EX hx1)
     clear hn2 hT hx1 HA HX HL hx
     have hx:=hx2
     clear hx2
     go_wp2_with fail
     refine bodyPost_ret (v:=.tuple #[.slice none 0 0,.int .i64 i,.int .i64 E]) (by simp only [results,Tryz.results20];go_simp) rfl ?_
     rw [HE2.out,if_pos hE]
     exact ⟨none,0,0,rfl,rfl,Lib.hid (Trs.nil _ _),EX⟩
   ·have hin:i=m:=by omega
    subst hin
    have HE2:Hid (Um.applyFrom t 0 l=(s,0,0)):=Lib.hid (by rw [HE.out,← HM.out,List.drop_length];rfl)
    go_wp2_with fail
    refine bodyPost_ret (v:=.tuple #[.slice A' n' c',.int .i64 0,.int .i64 0]) (by simp only [results,Tryz.results20];go_simp) rfl ?_
    rw [HE2.out]
    exact ⟨A',n',c',rfl,hsn.symm,Lib.hid (HT'.out.ext EX),EX⟩
theorem rinv_in (p:Pv) (q:Qp) (w:World) {F:Nat→Prop} (h:Is w F p q) (m:q.Neat) (hc:q.check=0):
 Calls Tryz.prog 53 #[p.v] w (fun e w'=>∃ P:Pv,e=.returned (.tuple #[P.v,.int .i64 0])∧Is w' F P q.inv∧Ext w w'):=by
 have hck:∀ W,Ext w W→Calls Tryz.prog 42 #[p.v] W (Ret (.int .i64 0) W):=fun W hW=>by
  have:=ref_check (h.ext hW) m.1 m.2.1 m.2.2
  rwa [hc] at this
 obtain ⟨A1,c1,A2,c2,rfl,⟨s1,s2⟩,f1,f2⟩:=h
 have h1:=rinv_any (q.pv A1 c1 A2 c2) w (check_parts hc).1 (fun W' hW'=>hck W' hW')
 rw [rinv_pv hc] at h1
 refine h1.mono ?_
 rintro e w' ⟨rfl,hx⟩
 obtain ⟨e1,e2⟩:=inv_lines hc
 exact ⟨_,rfl,⟨A2,c2,A1,c1,rfl,⟨by rw [e1];exact s2.ext hx,by rw [e2];exact s1.ext hx⟩,by rw [e1];exact f2,by rw [e2];exact f1⟩,hx⟩
set_option maxHeartbeats 8000000 in
set_option maxRecDepth 100000 in
theorem rseqinvert_any (A:Option Addr) (n c:Nat) (l:List Qp) (w:World) {F:Nat→Prop} (h:Qs w F A l) (hn:l.length=n) (hb:n≤1000000000) (hf:∀ q∈l,q.Neat):
 Calls Tryz.prog 22 #[.slice A n c] w (InvertedE l n w):=by
 have HQ:=Lib.hid h
 have HN:=Lib.hid hn
 have HF:=Lib.hid hf
 clear h hn hf
 go_enter Tryz.func22,Tryz.ntmps22
 have hx:=Ext.refl w
 go_wp2_with fail
 go_loopw [4] (fun u4 wr=>∃ i:Nat,i≤n∧u4=.int .i64 i∧Ext w wr∧Hid (∀ x∈l.take i,x.check=0)) (fun u4 wr=>n - (intOf u4).toNat)
 case atStart=>exact ⟨0,Nat.zero_le _,rfl,hx,Lib.hid (by simp)⟩
 case round=>
  clear hx
  obtain ⟨i,hi,rfl,hx,HOK⟩:=hrel
  by_cases hlt:i < n
  ·have hil:i < l.length:=by rw [HN.out];exact hlt
   have e1:l[i]?=some l[i]:=List.getElem?_eq_getElem hil
   have etk:l.take (i+1)=l.take i ++ [l[i]]:=by rw [List.take_add_one,e1];rfl
   have fq:=HF.out _ (List.mem_of_getElem? e1)
   have hmem:l[i]∈l:=List.mem_of_getElem? e1
   obtain ⟨ba,oa,p,rfl,hbl,hc,hii⟩:=(HQ.out.in.ext hx).get e1
   generalize l[i]=q at e1 etk fq hmem hii
   have HCK:=Lib.hid (fun W (hW:Ext wr W)=>ref_check (hii.ext hW) fq.1 fq.2.1 fq.2.2)
   have HTK:=Lib.hid etk
   have HE1:=Lib.hid e1
   have HME:=Lib.hid hmem
   obtain ⟨q0,q1,q2,q3,q4,q5,q6,q7,q8,q9,q10,q11⟩:=cells12 hc
   have HX:=Lib.hid hx
   clear hc hii e1 etk fq hmem hil hx
   have hx:=Ext.refl wr
   by_cases hk:q.check=0
   ·have HO2:Hid (∀ x∈l.take (i+1),x.check=0):=Lib.hid (by
     rw [HTK.out]
     intro x hx
     rcases List.mem_append.1 hx with hx | hx
     ·exact HOK.out x hx
     ·rw [List.mem_singleton.1 hx];exact hk)
    rw [hk] at HCK
    clear hk HOK
    go_wp2_with fail
    clear q0 q1 q2 q3 q4 q5 q6 q7 q8 q9 q10 q11
    refine (HCK.out _ EX).mono ?_
    rintro e w1 ⟨rfl,hx1⟩
    have hx2:=HX.out.trans (Ext.trans (a:=wr) EX hx1)
    clear hx hx1 HCK HX
    have hx:=hx2
    clear hx2
    go_wp2_with fail
    go_roundw
    case rel=>exact ⟨i+1,hlt,rfl,hx,HO2⟩
    case measure=>simp [intOf];omega
   ·have HB:Hid (¬ Sq.Ok l):=Lib.hid fun ho=>hk (ho q HME.out)
    have HIE:Hid (Sq.invErr l=q.check):=Lib.hid (invErr_at HOK.out HE1.out hk)
    clear HOK
    generalize q.check=k at hk HIE HCK
    go_wp2_with fail
    clear q0 q1 q2 q3 q4 q5 q6 q7 q8 q9 q10 q11
    refine (HCK.out _ EX).mono ?_
    rintro e w1 ⟨rfl,hx1⟩
    have hx2:=HX.out.trans (Ext.trans (a:=wr) EX hx1)
    clear hx hx1 HCK HX
    have hx:=hx2
    clear hx2
    go_wp2_with fail
    refine bodyPost_ret (v:=.tuple #[.slice none 0 0,.int .i64 k]) (by simp only [results,Tryz.results22];go_simp) rfl ?_
    exact ⟨.inl ⟨HB.out,by rw [HIE.out];exact hk,by rw [HIE.out]⟩,EX⟩
  ·have hin:i=n:=by omega
   subst hin
   have htk:l.take i=l:=by rw [← HN.out,List.take_length]
   have HOA:Hid (Sq.Ok l):=Lib.hid (by have :=HOK.out;rw [htk] at this;exact this)
   clear HOK htk hlt hi
   go_wp2_with fail
   go_loopw [6,7] (fun u6 u7 wr=>∃ j:Nat,j≤i∧u7=.int .i64 ((j:Int) - 1)∧Ext w wr∧Hid (Grows wr w.heap.size (fun _=>True) u6 ((l.drop j).map Qp.inv).reverse)) (fun u6 u7 wr=>(intOf u7+1).toNat)
   case atStart=>exact ⟨i,Nat.le_refl _,by congr 1,EX,Lib.hid (by rw [← HN.out,List.drop_length];exact Grows.empty _ hx.size_le)⟩
   case round=>
    clear hx
    obtain ⟨j,hj,rfl,hx,HGR⟩:=hrel
    cases j with
    | zero=>
      obtain ⟨C,cc,hv,hqs,hle,hnone⟩:=HGR.out.qs
      have hlen:(((l.drop 0).map Qp.inv).reverse).length=i:=by simp [HN.out]
      rw [hlen] at hv
      subst hv
      have HQ1:Hid (Qs wr (fun _=>True) C (Sq.invert l)):=Lib.hid (by unfold Sq.invert;rw [List.drop_zero] at hqs;exact hqs.mono fun _ _=>trivial)
      clear HGR hqs hle hnone hlen
      go_wp2_with fail
      refine bodyPost_ret (v:=.tuple #[.slice C i cc,.int .i64 0]) (by simp only [results,Tryz.results22];go_simp) rfl ?_
      exact ⟨.inr ⟨HOA.out,C,cc,rfl,Lib.hid (HQ1.out.ext EX)⟩,EX⟩
    | succ j=>
      have ej:((j+1:Nat):Int) - 1=(j:Int):=by omega
      rw [ej]
      have hil:j < l.length:=by rw [HN.out];omega
      have e1:l[j]?=some l[j]:=List.getElem?_eq_getElem hil
      have edr:l.drop j=l[j] :: l.drop (j+1):=List.drop_eq_getElem_cons hil
      have fq:=HF.out _ (List.mem_of_getElem? e1)
      have hok:=HOA.out _ (List.mem_of_getElem? e1)
      obtain ⟨ba,oa,p,rfl,hbl,hc,hii⟩:=(HQ.out.in.ext hx).get e1
      generalize l[j]=q at e1 edr fq hii hok
      have HIV:=Lib.hid (fun W (hW:Ext wr W)=>rinv_in p q W (hii.ext hW) fq hok)
      have HDR:Hid (((l.drop j).map Qp.inv).reverse=((l.drop (j+1)).map Qp.inv).reverse ++ [q.inv]):=Lib.hid (by rw [edr,List.map_cons,List.reverse_cons])
      obtain ⟨q0,q1,q2,q3,q4,q5,q6,q7,q8,q9,q10,q11⟩:=cells12 hc
      clear hc hii e1 edr fq hil hok
      go_wp2_with fail
      clear q0 q1 q2 q3 q4 q5 q6 q7 q8 q9 q10 q11
      refine (HIV.out _ (Ext.refl wr)).mono ?_
      rintro e w1 ⟨P,rfl,hP,hx2⟩
      have HP:=Lib.hid (hP.mono (G:=fun b=>b < w.heap.size) fun b hb=>hb.2)
      have HX:=Lib.hid (hx.trans hx2)
      have HSZ:Hid (w.heap.size≤w1.heap.size):=Lib.hid (Nat.le_trans hx.size_le hx2.size_le)
      have HOW:Hid (∀ k,u6.ownBlock=some k→w.heap.size≤k):=Lib.hid fun k e=>(HGR.out.own k e).1
      have HGR:=Lib.hid (HGR.out.ext hx2)
      have hjj:((((l.drop (j+1)).map Qp.inv).reverse).length:Int)+1≤800000000000:=by simp [HN.out];omega
      clear hx hx2 HIV hP
      go_wp2_with (at_builtin;refine wpList_grows _ rfl _ _ 37 rfl Tryz.underlying37 (by kernel_rfl) w.heap.size u6 (((l.drop (j+1)).map Qp.inv).reverse) [q.inv] rfl (HGR.out.ext (by repeat (first | with_reducible exact Ext.refl _ | with_reducible refine Ext.alloc ?_ _))) (some ⟨w1.heap.size+1,0,none⟩) 1 1 rfl rfl (Qs.sole (Blk.new' (by simp)) (HP.out.ext (by repeat (first | with_reducible exact Ext.refl _ | with_reducible refine Ext.alloc ?_ _)))) (fun b hb=>⟨by have :=HSZ.out;simp;omega,trivial,fun e=>by have :=HOW.out b e.symm;omega⟩) (by omega) (by have :=HSZ.out;simp;omega) ?_;intro v2 w2 hgr hgrow)
      have hx3:Ext w w2:=Ext.grownBy (((HX.out.alloc _).alloc _)) hgrow (fun k e=>(HGR.out.own k e).1)
      have hgr2:Grows w2 w.heap.size (fun _=>True) v2 (((l.drop j).map Qp.inv).reverse):=by rw [HDR.out];exact hgr
      have HG2:=Lib.hid hgr2
      clear hgr hgrow hgr2 HGR HOW HSZ HX HP hjj
      go_wp2_with fail
      go_roundw
      case rel=>exact ⟨j,by omega,rfl,hx3,HG2⟩
      case measure=>first | (simp [intOf];done) | (simp [intOf];omega)
end Go.Proofs.YtfmgnaigcibcaaaGreatDoor
