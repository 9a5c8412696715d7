import Derived.Test.YtfmgnaigcibcaaaGreatDoorTUd
import Derived.Test.YtfmgnaigcibcaaaGreatDoorTJd
import Derived.Test.YtfmgnaigcibcaaaGreatDoorTJe
import Derived.Test.YtfmgnaigcibcaaaGreatDoorTJq
set_option linter.unusedSimpArgs false
set_option linter.unusedVariables false
namespace Go.Proofs.YtfmgnaigcibcaaaGreatDoor
open Go Go.RowKit
attribute [local go_sem ↓] Go.wp_at_zero Go.wp_at_succ
def GivesS (r:List Pf × Nat × Int) (w:World) (e:Ending) (w':World):Prop:=∃ A n c,e=.returned (.tuple #[.slice A n c,.int .i64 r.2.1,.int .i64 r.2.2])∧n=r.1.length∧Hid (Trs w' A r.1)∧Ext w w'
theorem apply_len {t:List Pf} {q:Qp} {r:List Pf} (h:Tr.apply t q=(r,0)):r.length≤200:=by
 obtain ⟨hg,hc,hd⟩:=Tr.apply_iff.1 h
 exact (hd.good hg hc).len
theorem applyFrom_cons {s:List Pf} {i:Nat} {q:Qp} {l:List Qp} {r:List Pf} {E:Int} (h:Tr.apply s q=(r,E)):Um.applyFrom s i (q :: l)=if E≠0 then ([],i,E) else Um.applyFrom r (i+1) l:=by
 show (if (Tr.apply s q).2≠0 then _ else _)=_
 rw [h]
set_option maxHeartbeats 8000000 in
set_option maxRecDepth 100000 in
theorem seqapply_any (A B:Option Addr) (n c m d:Nat) (t:List Pf) (l:List Qp) (w:World) (hg:Glob w) {F:Nat→Prop} (ht:Trs w A t) (hn:t.length=n) (hl:Qs w F B l) (hm:l.length=m) (b1:n≤10000000000000) (b2:m≤1000000000) (hf:∀ q∈l,q.Fits):
 Calls Tryz.prog 19 #[.slice A n c,.slice B m d] w (GivesS (Um.apply t l) w):=by
 have HC:=Lib.hid (fun W (hW:Ext w W)=>checktree_any A n c t W (ht.ext hW) hn b1 (hg.ext hW))
 have HT:=Lib.hid ht
 have HN:=Lib.hid hn
 have HQ:=Lib.hid hl
 have HM:=Lib.hid hm
 have HG:=Lib.hid hg
 have HF:=Lib.hid hf
 clear ht hn hl hm hg hf
 by_cases h1:Tr.checkTree t=0
 rotate_left
 ·have e:Um.apply t l=([],0,Tr.checkTree t):=by unfold Um.apply;rw [if_pos h1]
  rw [e]
  clear e
  generalize Tr.checkTree t=k at h1 HC
  go_enter Tryz.func19,Tryz.ntmps19
  have hx:=Ext.refl w
  go_wp2_with (go_at_call 39;refine (HC.out _ EX).mono ?_;rintro e w1 ⟨rfl,hx0⟩;skip;have hy:=Ext.trans (a:=w) EX hx0;clear hx;have hx:=hy;clear hy hx0)
  refine bodyPost_ret (v:=.tuple #[.slice none 0 0,.int .i64 0,.int .i64 k]) (by simp only [results,Tryz.results19];go_simp) rfl ?_
  exact ⟨none,0,0,rfl,rfl,Lib.hid (Trs.nil _ _),EX⟩
 ·have e:Um.apply t l=Um.applyFrom t 0 l:=by unfold Um.apply;rw [if_neg (by simpa using h1)]
  rw [e]
  rw [h1] at HC
  clear e h1
  go_enter Tryz.func19,Tryz.ntmps19
  have hx:=Ext.refl w
  go_wp2_with (go_at_call 39;refine (HC.out _ EX).mono ?_;rintro e w1 ⟨rfl,hx0⟩;skip;have hy:=Ext.trans (a:=w) EX hx0;clear hx;have hx:=hy;clear hy hx0)
  go_loopw [0,19] (fun u0 u19 wr=>∃ (i:Nat) (A':Option Addr) (n' c':Nat) (s:List Pf),i≤m∧u19=.int .i64 i∧u0=.slice A' n' c'∧s.length=n'∧n'≤10000000000000∧Ext w wr∧Hid (Trs wr A' s)∧Hid (Um.applyFrom t 0 l=Um.applyFrom s i (l.drop i))) (fun u0 u19 wr=>m - (intOf u19).toNat)
  case atStart=>exact ⟨0,A,n,c,t,Nat.zero_le _,rfl,rfl,HN.out,b1,hx,Lib.hid (HT.out.ext hx),Lib.hid (by rw [List.drop_zero])⟩
  case round=>
   clear hx
   obtain ⟨i,A',n',c',s,hi,rfl,rfl,hsn,hb',hx,HT',HE⟩:=hrel
   by_cases hlt:i < m
   ·have hil:i < l.length:=by rw [HM.out];exact hlt
    have e1:l[i]?=some l[i]:=List.getElem?_eq_getElem hil
    have edr:l.drop i=l[i] :: l.drop (i+1):=List.drop_eq_getElem_cons hil
    have fq:=HF.out _ (List.mem_of_getElem? e1)
    obtain ⟨ba,oa,p,rfl,hbl,hc,hii⟩:=(HQ.out.in.ext hx).get e1
    generalize l[i]=q at e1 edr fq hii
    have HA:=Lib.hid (fun W (hW:Ext wr W)=>apply_any p q A' n' c' s W (HT'.out.ext hW) hsn hb' (HG.out.ext (hx.trans hW)) (hii.ext hW) fq.1 fq.2.1 fq.2.2.1 fq.2.2.2)
    obtain ⟨r,E,her⟩:∃ r E,Tr.apply s q=(r,E):=⟨_,_,rfl⟩
    have HE2:Hid (Um.applyFrom t 0 l=if E≠0 then ([],i,E) else Um.applyFrom r (i+1) (l.drop (i+1))):=Lib.hid (by rw [HE.out,edr,applyFrom_cons her])
    have HL:Hid (E=0→r.length≤200):=Lib.hid fun e=>apply_len (her.trans (by rw [e]))
    rw [her] at HA
    obtain ⟨q0,q1,q2,q3,q4,q5,q6,q7,q8,q9,q10,q11⟩:=cells12 hc
    have HX:=Lib.hid hx
    clear hc hii e1 edr fq hil her HE HT' hsn hb' hx
    have hx:=Ext.refl wr
    by_cases hE:E=0
    ·subst hE
     replace HL:=Lib.hid (HL.out rfl)
     go_wp2_with fail
     clear q0 q1 q2 q3 q4 q5 q6 q7 q8 q9 q10 q11
     refine (HA.out _ ((Ext.refl wr).alloc _)).mono ?_
     rintro e w1 ⟨C,n2,c2,rfl,hn2,hT,hx1⟩
     have hx2:=HX.out.trans (((Ext.refl wr).alloc _).trans hx1)
     have HT2:=Lib.hid hT.out.1
     have HL2:Hid (n2≤200):=Lib.hid (by rw [hn2];exact HL.out)
     have HN2:Hid (r.length=n2):=Lib.hid hn2.symm
     clear hn2 hT hx1 HA HX HL hx
     have hx:=Ext.refl w1
     go_wp2_with fail
     go_roundw
     case rel=>exact ⟨i+1,C,n2,c2,r,hlt,rfl,rfl,HN2.out,by have :=HL2.out;omega,hx2,HT2,Lib.hid (by rw [HE2.out];simp)⟩
     case measure=>simp [intOf];omega
    ·go_wp2_with fail
     clear q0 q1 q2 q3 q4 q5 q6 q7 q8 q9 q10 q11
     refine (HA.out _ ((Ext.refl wr).alloc _)).mono ?_
     rintro e w1 ⟨C,n2,c2,rfl,hn2,hT,hx1⟩
     have hx2:=HX.out.trans (((Ext.refl wr).alloc _).trans hx1)
     clear hn2 hT hx1 HA HX HL hx
     have hx:=hx2
     clear hx2
     go_wp2_with fail
     refine bodyPost_ret (v:=.tuple #[.slice none 0 0,.int .i64 i,.int .i64 E]) (by simp only [results,Tryz.results19];go_simp) rfl ?_
     rw [HE2.out,if_pos hE]
     exact ⟨none,0,0,rfl,rfl,Lib.hid (Trs.nil _ _),EX⟩
   ·have hin:i=m:=by omega
    subst hin
    have HE2:Hid (Um.applyFrom t 0 l=(s,0,0)):=Lib.hid (by rw [HE.out,← HM.out,List.drop_length];rfl)
    go_wp2_with fail
    refine bodyPost_ret (v:=.tuple #[.slice A' n' c',.int .i64 0,.int .i64 0]) (by simp only [results,Tryz.results19];go_simp) rfl ?_
    rw [HE2.out]
    exact ⟨A',n',c',rfl,hsn.symm,Lib.hid (HT'.out.ext EX),EX⟩
set_option maxHeartbeats 4000000 in
set_option maxRecDepth 100000 in
theorem lawgreatT_any (A B:Option Addr) (n c m d:Nat) (t:List Pf) (l:List Qp) (w:World) {F:Nat→Prop} (ht:Trs w A t) (hn:t.length=n) (h:Qs w F B l) (hm:l.length=m) (b1:n≤10000000000000) (b2:m≤1152921504606846976) (hz:∀ f∈t,f.path.size≤140737488355328∧f.data.size≤140737488355328) (hs:∀ q∈l,q.old.length≤1152921504606846976∧q.new.length≤1152921504606846976):
 Calls Tryz.prog 17 #[.slice A n c,.slice B m d] w (Tells (Small l) w):=by
 have H:Hid (∀ W,Ext w W→Calls Tryz.prog 49 #[.slice B m d] W (Tells (Small l) W)):=Lib.hid fun W hW=>by
  have:=g14_any B d l W (h.ext hW) (by rw [hm];exact b2) hs
  rwa [hm] at this
 have HT:=Lib.hid (fun W (hW:Ext w W)=>greattree_any A n c t W (ht.ext hW) hn (by omega) hz)
 clear h hs hm hn ht hz
 cases hgr:Tr.great t
 ·rw [hgr] at HT
  go_enter Tryz.func17,Tryz.ntmps17
  have hx:=Ext.refl w
  go_wp2_with fail
  refine (HT.out _ EX).mono ?_
  rintro e w1 ⟨rfl,hx0⟩
  have hx1:=hx.trans hx0
  clear hx hx0
  have hx:=hx1
  clear hx1
  go_wp2_with fail
  refine (H.out _ hx).mono ?_
  rintro e w2 ⟨v2,rfl,k2,hx0⟩
  have hx1:=hx.trans hx0
  clear hx hx0
  have hx:=hx1
  clear hx1
  go_wp2_with fail
  refine bodyPost_ret (v:=.bool v2) (by simp only [results,Tryz.results17];go_simp) rfl ?_
  exact ⟨_,rfl,k2,hx⟩
 ·rw [hgr] at HT
  go_enter Tryz.func17,Tryz.ntmps17
  have hx:=Ext.refl w
  go_wp2_with fail
  refine (HT.out _ EX).mono ?_
  rintro e w1 ⟨rfl,hx0⟩
  have hx1:=hx.trans hx0
  clear hx hx0
  have hx:=hx1
  clear hx1
  go_wp2_with fail
  refine bodyPost_ret (v:=.bool true) (by simp only [results,Tryz.results17];go_simp) rfl ?_
  exact ⟨_,rfl,(fun h=>nomatch h),hx⟩
theorem applyFrom_err:∀ {l:List Qp} {t:List Pf} {i:Nat},(Um.applyFrom t i l).2.2≠0→(Um.applyFrom t i l).1=[]
 | [],t,i,h=>(h rfl).elim
 | q :: l,t,i,h=>by
   unfold Um.applyFrom at h ⊢
   split
   ·rfl
   ·rename_i h0
    rw [if_neg h0] at h
    exact applyFrom_err h
theorem apply_all_err {t:List Pf} {l:List Qp} (h:(Um.apply t l).2.2≠0):(Um.apply t l).1=[]:=by
 unfold Um.apply at h ⊢
 split
 ·rfl
 ·rename_i h0
  rw [if_neg h0] at h
  exact applyFrom_err h
theorem apply_all_len {t:List Pf} {l:List Qp} (h:(Um.apply t l).2.2=0):(Um.apply t l).1.length≤200:=
 (Um.apply_good (Prod.ext rfl (Prod.ext rfl h):Um.apply t l=((Um.apply t l).1,(Um.apply t l).2.1,0))).2.1.len
set_option maxHeartbeats 4000000 in
set_option maxRecDepth 100000 in
theorem limited_yes {w:World} (e:Int) (h:Um.Lim e):Calls Tryz.prog 25 #[.int .i64 e] w (Ret (.bool true) w):=by
 rcases h with rfl | rfl
 all_goals
  go_enter Tryz.func25,Tryz.ntmps25
  have hx:=Ext.refl w
  go_wp2_with fail
  (go_ret;refine Ret.mk ?_ ?_;(focus (rfl;done));(focus (exact EX;done)))
set_option maxHeartbeats 4000000 in
set_option maxRecDepth 100000 in
theorem limited_no {w:World} (e:Int) (h:¬ Um.Lim e):Calls Tryz.prog 25 #[.int .i64 e] w (Ret (.bool false) w):=by
 have h4:(e == 4)=false:=by rw [beq_eq_false_iff_ne];exact fun k=>h (.inl k)
 have h5:(e == 5)=false:=by rw [beq_eq_false_iff_ne];exact fun k=>h (.inr k)
 clear h
 go_enter Tryz.func25,Tryz.ntmps25
 have hx:=Ext.refl w
 go_wp2_with fail
 (go_ret;refine Ret.mk ?_ ?_;(focus ((simp [h4,h5]);done));(focus (exact EX;done)))
end Go.Proofs.YtfmgnaigcibcaaaGreatDoor
