import Derived.Test.YtfmgnaigcibcaaaGreatDoorTJq
import Derived.Test.YtfmgnaigcibcaaaGreatDoorTWa
import Derived.Test.YtfmgnaigcibcaaaGreatDoorTWc
import Derived.Test.YtfmgnaigcibcaaaGreatDoorTJp
import Derived.Test.YtfmgnaigcibcaaaGreatDoorTQd
set_option linter.unusedSimpArgs false
set_option linter.unusedVariables false
namespace Go.Proofs.YtfmgnaigcibcaaaGreatDoor
open Go Go.RowKit
attribute [local go_sem ↓] Go.wp_at_zero Go.wp_at_succ
theorem run_len_op {P:Program} {oi:Oper} {a:Act} {x:Operand} {t e:TypeId} {A:Option Addr} {n c:Nat} (ho:oi.op=.call { callee:=.builtin .len,args:=#[x],argTypes:=#[t] }) (hx:a.eval x=.slice A n c) (hu:P.underlying t=some (.slice e)) (w:World):
 (execOp a.eval oi).run P w=.ok (.value (.int .i64 n)) w:=by
 unfold execOp
 simp [ho,resolve,invoke,builtin,Builtin.len_,run_underlying hu,hx,goInt,Result.andThen]
set_option maxHeartbeats 16000000 in
set_option maxRecDepth 100000 in
theorem seqsame_walk (A B C:Option Addr) (n cA m cB k cC:Nat) (t:List Pf) (l b:List Qp) (w:World) (hg:Glob w) (ht:Trs w A t) (hn:t.length=n) (h1:Qs w (fun _=>True) B l) (hm:l.length=m) (h2:Qs w (fun _=>True) C b) (hk:b.length=k) (b1:n≤10000000000000) (b2:m≤1152921504606846976) (b3:k≤1152921504606846976) (hz:∀ f∈t,f.path.size≤140737488355328∧f.data.size≤140737488355328) (s1:∀ q∈l,q.old.length≤1152921504606846976∧q.new.length≤1152921504606846976) (s2:∀ q∈b,q.old.length≤1152921504606846976∧q.new.length≤1152921504606846976):
 Calls Tryz.prog 8 #[.slice A n cA,.slice B m cB,.slice C k cC] w (Ret (.bool true) w):=by
 have HT:=Lib.hid ht
 have HL:=Lib.hid h1
 have HB:=Lib.hid h2
 have HN:=Lib.hid hn
 have HM:=Lib.hid hm
 have HK:=Lib.hid hk
 have HG:=Lib.hid hg
 have HAW:=Lib.hid (fun W (hW:Ext w W)=>awake14_any W (hg.ext hW))
 have HGR:=Lib.hid (fun W (hW:Ext w W)=>lawgreatT_any A B n cA m cB t l W (ht.ext hW) hn (h1.ext hW) hm b1 b2 hz s1)
 have HGR2:=Lib.hid (fun W (hW:Ext w W)=>lawgreatT_any A C n cA k cC t b W (ht.ext hW) hn (h2.ext hW) hk b1 b3 hz s2)
 clear h1 h2 ht hn hm hk s1 s2 hg hz
 go_enter Tryz.func8,Tryz.ntmps8
 have hx:=Ext.refl w
 go_wp2_with fail
 refine (HGR.out _ hx).mono ?_
 rintro e u1 ⟨v,rfl,hsm,hx0⟩
 have hs:Ext w u1:=Ext.trans (by repeat (first | with_reducible exact Ext.refl _ | with_reducible refine Ext.alloc ?_ _ | with_reducible refine Ext.drew1 ?_)) hx0
 replace HL:=Lib.hid (HL.out.ext hs)
 replace HT:=Lib.hid (HT.out.ext hs)
 replace HB:=Lib.hid (HB.out.ext hs)
 have hx1:=hx.trans hs
 clear hx hs hx0
 have hx:=hx1
 clear hx1
 dsimp only
 have HS:=Lib.hid hsm
 clear hsm HGR
 cases v
 rotate_left
 ·go_wp2_with fail
  refine (HAW.out _ (hx.trans (by repeat (first | with_reducible exact Ext.refl _ | with_reducible refine Ext.alloc ?_ _ | with_reducible refine Ext.drew1 ?_)))).mono ?_
  rintro e u2 ⟨rfl,hx0⟩
  have hs:Ext u1 u2:=Ext.trans (by repeat (first | with_reducible exact Ext.refl _ | with_reducible refine Ext.alloc ?_ _ | with_reducible refine Ext.drew1 ?_)) hx0
  replace HL:=Lib.hid (HL.out.ext hs)
  replace HT:=Lib.hid (HT.out.ext hs)
  replace HB:=Lib.hid (HB.out.ext hs)
  have hx1:=hx.trans hs
  clear hx hs hx0
  have hx:=hx1
  clear hx1
  dsimp only
  go_wp2_with fail
  (go_ret;refine Ret.mk ?_ ?_;(focus (rfl;done));(focus (exact EX;done)))
 replace HS:=Lib.hid (HS.out rfl)
 go_wp2_with fail
 refine (HGR2.out _ hx).mono ?_
 rintro e u2 ⟨v,rfl,hsm,hx0⟩
 have hs:Ext u1 u2:=Ext.trans (by repeat (first | with_reducible exact Ext.refl _ | with_reducible refine Ext.alloc ?_ _ | with_reducible refine Ext.drew1 ?_)) hx0
 replace HL:=Lib.hid (HL.out.ext hs)
 replace HT:=Lib.hid (HT.out.ext hs)
 replace HB:=Lib.hid (HB.out.ext hs)
 have hx1:=hx.trans hs
 clear hx hs hx0
 have hx:=hx1
 clear hx1
 dsimp only
 have HS2:=Lib.hid hsm
 clear hsm HGR2
 cases v
 rotate_left
 ·go_wp2_with fail
  refine (HAW.out _ (hx.trans (by repeat (first | with_reducible exact Ext.refl _ | with_reducible refine Ext.alloc ?_ _ | with_reducible refine Ext.drew1 ?_)))).mono ?_
  rintro e u3 ⟨rfl,hx0⟩
  have hs:Ext u2 u3:=Ext.trans (by repeat (first | with_reducible exact Ext.refl _ | with_reducible refine Ext.alloc ?_ _ | with_reducible refine Ext.drew1 ?_)) hx0
  replace HL:=Lib.hid (HL.out.ext hs)
  replace HT:=Lib.hid (HT.out.ext hs)
  replace HB:=Lib.hid (HB.out.ext hs)
  have hx1:=hx.trans hs
  clear hx hs hx0
  have hx:=hx1
  clear hx1
  dsimp only
  go_wp2_with fail
  (go_ret;refine Ret.mk ?_ ?_;(focus (rfl;done));(focus (exact EX;done)))
 have S1:Small l:=HS.out
 have F1:=Lib.hid S1.fits
 have m8:m≤8:=by have :=S1.1;have:=HM.out;omega
 have S2:Small b:=HS2.out rfl
 have F2:=Lib.hid S2.fits
 have k8:k≤8:=by have :=S2.1;have:=HK.out;omega
 clear HS HS2 S1 S2
 cases hsame:Sq.same l b
 ·have HSM:=Lib.hid hsame
  clear hsame
  go_wp2_with fail
  refine (seqsame_any B C m cB k cC l b _ (HG.out.ext (hx.trans (by repeat (first | with_reducible exact Ext.refl _ | with_reducible refine Ext.alloc ?_ _ | with_reducible refine Ext.drew1 ?_)))) (HL.out.ext (by repeat (first | with_reducible exact Ext.refl _ | with_reducible refine Ext.alloc ?_ _ | with_reducible refine Ext.drew1 ?_))) (HB.out.ext (by repeat (first | with_reducible exact Ext.refl _ | with_reducible refine Ext.alloc ?_ _ | with_reducible refine Ext.drew1 ?_))) HM.out HK.out (by omega) (by omega) F1.out F2.out).mono ?_
  rintro e u3 ⟨rfl,hx0⟩
  have hs:Ext u2 u3:=Ext.trans (by repeat (first | with_reducible exact Ext.refl _ | with_reducible refine Ext.alloc ?_ _ | with_reducible refine Ext.drew1 ?_)) hx0
  replace HL:=Lib.hid (HL.out.ext hs)
  replace HT:=Lib.hid (HT.out.ext hs)
  replace HB:=Lib.hid (HB.out.ext hs)
  have hx1:=hx.trans hs
  clear hx hs hx0
  have hx:=hx1
  clear hx1
  dsimp only
  rw [HSM.out]
  go_wp2_with fail
  refine (HAW.out _ (hx.trans (by repeat (first | with_reducible exact Ext.refl _ | with_reducible refine Ext.alloc ?_ _ | with_reducible refine Ext.drew1 ?_)))).mono ?_
  rintro e u4 ⟨rfl,hx0⟩
  have hs:Ext u3 u4:=Ext.trans (by repeat (first | with_reducible exact Ext.refl _ | with_reducible refine Ext.alloc ?_ _ | with_reducible refine Ext.drew1 ?_)) hx0
  replace HL:=Lib.hid (HL.out.ext hs)
  replace HT:=Lib.hid (HT.out.ext hs)
  replace HB:=Lib.hid (HB.out.ext hs)
  have hx1:=hx.trans hs
  clear hx hs hx0
  have hx:=hx1
  clear hx1
  dsimp only
  go_wp2_with fail
  (go_ret;refine Ret.mk ?_ ?_;(focus (rfl;done));(focus (exact EX;done)))
 ·have HSM:=Lib.hid hsame
  clear hsame
  go_wp2_with fail
  refine (seqsame_any B C m cB k cC l b _ (HG.out.ext (hx.trans (by repeat (first | with_reducible exact Ext.refl _ | with_reducible refine Ext.alloc ?_ _ | with_reducible refine Ext.drew1 ?_)))) (HL.out.ext (by repeat (first | with_reducible exact Ext.refl _ | with_reducible refine Ext.alloc ?_ _ | with_reducible refine Ext.drew1 ?_))) (HB.out.ext (by repeat (first | with_reducible exact Ext.refl _ | with_reducible refine Ext.alloc ?_ _ | with_reducible refine Ext.drew1 ?_))) HM.out HK.out (by omega) (by omega) F1.out F2.out).mono ?_
  rintro e u3 ⟨rfl,hx0⟩
  have hs:Ext u2 u3:=Ext.trans (by repeat (first | with_reducible exact Ext.refl _ | with_reducible refine Ext.alloc ?_ _ | with_reducible refine Ext.drew1 ?_)) hx0
  replace HL:=Lib.hid (HL.out.ext hs)
  replace HT:=Lib.hid (HT.out.ext hs)
  replace HB:=Lib.hid (HB.out.ext hs)
  have hx1:=hx.trans hs
  clear hx hs hx0
  have hx:=hx1
  clear hx1
  dsimp only
  rw [HSM.out]
  have HC0:Hid (Um.Come b 0 l):=Lib.hid (Um.Come.start HSM.out)
  have HQ0:Hid (Qs u3 (fun _=>True) B l):=HL
  have HXU:=Lib.hid hx
  clear hx HSM
  have hx:=Ext.refl u3
  go_wp2_with fail
  go_loopw [7,37] (fun u7 u37 wr=>∃ (i:Nat) (A':Option Addr) (c':Nat) (M:List Qp),u7=.slice A' m c'∧u37=.int .i64 i∧i≤k∧Ext u3 wr∧Hid (Qs wr (fun _=>True) A' M)∧Hid (M.length=m)∧Hid (∀ q∈M,q.Fits)∧Hid (Um.Come b i M)∧Hid (Um.Keeps l M)) (fun u7 u37 wr=>k - (intOf u37).toNat)
  case atStart=>exact ⟨0,B,cB,l,rfl,rfl,Nat.zero_le _,hx,HQ0,HM,F1,HC0,Lib.hid (Um.Keeps.refl l)⟩
  case round=>
   clear HQ0 HC0 hx
   obtain ⟨i,A',c',M,rfl,rfl,hik,hx,HQM,HMM,HFM,HCM,HKM⟩:=hrel
   by_cases hlt:i < k
   ·have hil:i < b.length:=by rw [HK.out];exact hlt
    have e0:b[i]?=some b[i]:=List.getElem?_eq_getElem hil
    have tp:=F2.out _ (List.mem_of_getElem? e0)
    obtain ⟨X,hsk,hcm⟩:=HCM.out.step e0
    generalize b[i]=p at e0 tp hsk
    rw [HMM.out] at hsk
    obtain ⟨bb,oo,Pb,hC',hbl,hbc,hbi⟩:=(HB.out.ext hx).get e0
    subst hC'
    have HPC:=Lib.hid (fun W (hW:Ext wr W)=>range_ext hbc hbl hW)
    have HEQ:=Lib.hid (fun W (P:Pv) (y:Qp) (hW:Ext wr W) (hi:Is W (fun _=>True) P y) (ty:y.Fits)=>psame_any P Pb y p W hi (hbi.ext hW) ty.1 ty.2.1 tp.1 tp.2.1)
    have HSK:=Lib.hid hsk
    have HCX:=Lib.hid hcm
    have HX0:=Lib.hid hx
    have HKX:Hid (Um.Keeps M X∧X.length=M.length):=Lib.hid (Um.seek_keeps hsk)
    have IM:i≤m:=by
     by_cases g:i≤m
     ·exact g
     ·rw [Um.seek_none (by omega)] at hsk;cases hsk
    clear hbc hbl hbi tp e0 hil hsk hcm HCM hx
    have hx:=Ext.refl wr
    go_wp2_with fail
    go_loopw [7,9,10] (fun u7 u9 u10 wx=>∃ (j:Nat) (f:Bool) (A2:Option Addr) (c2:Nat) (K:List Qp),u7=.slice A2 m c2∧u9=.bool f∧u10=.int .i64 j∧i≤j∧j≤m∧Ext wr wx∧Hid (Qs wx (fun _=>True) A2 K)∧Hid (K.length=m)∧Hid (∀ q∈K,q.Fits)∧Hid (f=false→K=M∧Um.seek M p i (m - j) j=some X)∧Hid (f=true→K=X)) (fun u7 u9 u10 wx=>m - (intOf u10).toNat)
    case atStart=>exact ⟨i,false,A',c',M,rfl,rfl,rfl,Nat.le_refl _,IM,hx,HQM,HMM,HFM,Lib.hid (fun _=>⟨rfl,HSK.out⟩),Lib.hid (fun e=>nomatch e)⟩
    case round=>
     clear HQM HMM HFM hx
     obtain ⟨j,f,A2,c2,K,rfl,rfl,rfl,hij,hjm,hx,HQK,HMK,HFK,HF,HTr⟩:=hrel
     cases f
     rotate_left
     ·have hKX:=HTr.out rfl
      subst hKX
      have hx2:=HX0.out.trans hx
      have HKK:=Lib.hid (HKM.out.trans HKX.out.1)
      clear HF HTr HPC HEQ hx HX0 HKX HSK
      have hx:=hx2
      clear hx2
      by_cases hj2:j < m
      all_goals
       go_wp2_with fail
       go_roundw
       case rel=>first | exact ⟨i+1,A2,c2,K,rfl,rfl,hlt,hx,HQK,HMK,HFK,HCX,HKK⟩ | ((repeat apply Exists.intro);exact ⟨⟨i+1,A2,c2,K,rfl,rfl,hlt,hx,HQK,HMK,HFK,HCX,HKK⟩,rfl⟩)
       case measure=>simp [intOf];omega
     ·obtain ⟨hKM,hsk⟩:=HF.out rfl
      subst hKM
      by_cases hj2:j < m
      rotate_left
      ·rw [Um.seek_none (by omega)] at hsk
       cases hsk
      ·rw [Um.seek_step hj2] at hsk
       have HSK2:=Lib.hid hsk
       have HMV:=Lib.hid (fun W (hW:Ext u3 W) (hq:Qs W (fun _=>True) A2 K)=>move_any A2 m c2 j i K W (HG.out.ext (HXU.out.trans hW)) hq HMK.out hj2 (by omega) (by omega) HFK.out)
       clear hsk HF HTr
       go_wp2_with fail
       refine (HMV.out _ (HX0.out.trans hx) HQK.out).mono ?_
       rintro e w3 ⟨hres,hx3⟩
       have hy:=hx.trans hx3
       have HQ3:=Lib.hid (HQK.out.ext hx3)
       clear hx hx3 HMV
       have hx:=hy
       clear hy
       rcases hres with ⟨hs,rfl⟩ | ⟨Y,g,hs,rfl,hgw,HO⟩
       ·have HR5:Hid (Um.seek K p i (m - (j+1)) (j+1)=some X):=Lib.hid (by have h:=HSK2.out;rw [hs] at h;exact h)
        clear HSK2 hs
        go_wp2_with fail
        refine wp_region_noPanic (wp_region_held_drew (S:=fun w'=>Ext w3 w') (by kernel_rfl) (Ext.refl w3).drew1 (fun hv=>?_))
        generalize w3.drew=v0 at hv ⊢
        refine tf (i:=0) (v:=.bool false) rfl rfl (fun _=>rfl) hv ?_
        try simp only [Act.put,sA,s0,sS]
        refine tf (i:=1) (v:=.bool false) rfl rfl (fun _=>rfl) hv ?_
        try simp only [Act.put,sA,s0,sS]
        refine tk (i:=2) rfl rfl hv ?_
        try simp only [Act.put,sA,s0,sS]
        refine tk (i:=3) rfl rfl hv ?_
        try simp only [Act.put,sA,s0,sS]
        refine tk (i:=4) rfl rfl hv ?_
        try simp only [Act.put,sA,s0,sS]
        refine tk (i:=5) rfl rfl hv ?_
        try simp only [Act.put,sA,s0,sS]
        refine tk (i:=6) rfl rfl hv ?_
        try simp only [Act.put,sA,s0,sS]
        refine tf (i:=7) (v:=.bool false) rfl rfl (fun _=>rfl) hv ?_
        try simp only [Act.put,sA,s0,sS]
        refine tf (i:=8) (v:=.bool false) rfl rfl (fun _=>rfl) hv ?_
        try simp only [Act.put,sA,s0,sS]
        refine tk (i:=9) rfl rfl hv ?_
        try simp only [Act.put,sA,s0,sS]
        refine tk (i:=10) rfl rfl hv ?_
        try simp only [Act.put,sA,s0,sS]
        refine tk (i:=11) rfl rfl hv ?_
        try simp only [Act.put,sA,s0,sS]
        refine tk (i:=12) rfl rfl hv ?_
        try simp only [Act.put,sA,s0,sS]
        refine tk (i:=13) rfl rfl hv ?_
        try simp only [Act.put,sA,s0,sS]
        refine tk (i:=14) rfl rfl hv ?_
        try simp only [Act.put,sA,s0,sS]
        refine tk (i:=15) rfl rfl hv ?_
        try simp only [Act.put,sA,s0,sS]
        refine tk (i:=16) rfl rfl hv ?_
        try simp only [Act.put,sA,s0,sS]
        refine tk (i:=17) rfl rfl hv ?_
        try simp only [Act.put,sA,s0,sS]
        refine tf (i:=18) (v:=.bool false) rfl rfl (fun _=>rfl) hv ?_
        try simp only [Act.put,sA,s0,sS]
        refine wpAnyH_done (by kernel_rfl) (NoPanic.normal ?_) _
        have hy:=hx.trans hv
        have HQ4:=Lib.hid (HQ3.out.ext hv)
        clear hx hv HQ3
        have hx:=hy
        clear hy
        go_wp2_with fail
        go_roundw
        case rel=>first | exact ⟨j+1,false,A2,c2,K,rfl,rfl,rfl,by omega,by omega,hx,HQ4,HMK,HFK,Lib.hid (fun _=>⟨rfl,HR5.out⟩),Lib.hid (fun e=>nomatch e)⟩ | ((repeat apply Exists.intro);exact ⟨⟨j+1,false,A2,c2,K,rfl,rfl,rfl,by omega,by omega,hx,HQ4,HMK,HFK,Lib.hid (fun _=>⟨rfl,HR5.out⟩),Lib.hid (fun e=>nomatch e)⟩,rfl⟩)
        case measure=>simp [intOf];omega
       ·have hml:=(Sq.move_length hs).trans HMK.out
        have hmt:=Sq.move_fits hs HFK.out
        have e0:Y[i]?=some (Y.getD i Qp.zero):=by rw [List.getD_eq_getElem?_getD,List.getElem?_eq_getElem (by omega)];rfl
        have HR5:Hid ((if (Y.getD i Qp.zero).same p then some Y else Um.seek K p i (m - (j+1)) (j+1))=some X):=Lib.hid (by have h:=HSK2.out;rw [hs] at h;exact h)
        have ty:=hmt _ (List.mem_of_getElem? e0)
        have HMY:=Lib.hid hml
        have HFY:=Lib.hid hmt
        have HQY:=Lib.hid (HO.out.qs.mono (G:=fun _=>True) fun _ _=>trivial)
        generalize Y.getD i Qp.zero=y at e0 ty HR5
        obtain ⟨g1,o,P1,hA,hgl,ra0,ia⟩:=HQY.out.get e0
        have HC1:=Lib.hid (fun W (hW:Ext w3 W)=>range_ext ra0 hgl hW)
        have HES:=Lib.hid (fun W (hW:Ext w3 W)=>HEQ.out W P1 y (hx.trans hW) (ia.ext hW) ty)
        obtain ⟨rfl,rfl⟩:g=g1∧0=o:=by simpa using hA
        generalize y.same p=sm at HES HR5
        clear HSK2 hs e0 ty ra0 ia hgl hml hmt HO hgw hA
        have him:i < m:=by omega
        go_wp2_with fail
        refine wp_region_noPanic (wp_region_held_drew (S:=fun w'=>Ext w3 w') (by kernel_rfl) (Ext.refl w3).drew1 (fun hv=>?_))
        generalize w3.drew=v0 at hv ⊢
        refine tf (i:=0) (v:=.bool true) rfl rfl (fun _=>rfl) hv ?_
        try simp only [Act.put,sA,s0,sS]
        refine tf (i:=1) (v:=.bool true) rfl rfl (fun _=>rfl) hv ?_
        try simp only [Act.put,sA,s0,sS]
        refine tf (i:=2) (v:=.slice (some ⟨g,0,none⟩) m m) rfl rfl (fun _=>rfl) hv ?_
        try simp only [Act.put,sA,s0,sS]
        refine tf (i:=3) (v:=.int .i64 m) rfl rfl (fun w=>run_len_op rfl rfl Tryz.underlying37 w) hv ?_
        try simp only [Act.put,sA,s0,sS]
        refine tf (i:=4) (v:=.slice A2 m c2) rfl rfl (fun _=>rfl) hv ?_
        try simp only [Act.put,sA,s0,sS]
        refine tf (i:=5) (v:=.int .i64 m) rfl rfl (fun w=>run_len_op rfl rfl Tryz.underlying37 w) hv ?_
        try simp only [Act.put,sA,s0,sS]
        refine tf (i:=6) (v:=.bool true) rfl rfl (fun _=>by first | rfl | (unfold execOp;go_simp)) hv ?_
        try simp only [Act.put,sA,s0,sS]
        refine tf (i:=7) (v:=.bool true) rfl rfl (fun _=>rfl) hv ?_
        try simp only [Act.put,sA,s0,sS]
        refine tf (i:=8) (v:=.bool true) rfl rfl (fun _=>rfl) hv ?_
        try simp only [Act.put,sA,s0,sS]
        refine tf (i:=9) (v:=.slice (some ⟨g,0,none⟩) m m) rfl rfl (fun _=>rfl) hv ?_
        try simp only [Act.put,sA,s0,sS]
        refine tf (i:=10) (v:=.int .i64 i) rfl rfl (fun _=>rfl) hv ?_
        try simp only [Act.put,sA,s0,sS]
        refine ti (i:=11) g 0 m m i rfl rfl rfl rfl rfl him Tryz.underlying37 hv ?_
        try simp only [Act.put,sA,s0,sS]
        refine tg (i:=12) (parr P1).toList rfl rfl rfl rfl Tryz.underlying28 rfl (fun _ h=>HC1.out _ h) hv ?_
        try simp only [Act.put,sA,s0,sS]
        refine tf (i:=13) (v:=.slice (some ⟨bb,oo,none⟩) k cC) rfl rfl (fun _=>rfl) hv ?_
        try simp only [Act.put,sA,s0,sS]
        refine tf (i:=14) (v:=.int .i64 i) rfl rfl (fun _=>rfl) hv ?_
        try simp only [Act.put,sA,s0,sS]
        refine ti (i:=15) bb oo k cC i rfl rfl rfl rfl rfl hlt Tryz.underlying37 hv ?_
        try simp only [Act.put,sA,s0,sS]
        refine tg (i:=16) (parr Pb).toList rfl rfl rfl rfl Tryz.underlying28 rfl (fun _ h=>HPC.out _ (hx.trans h)) hv ?_
        try simp only [Act.put,sA,s0,sS]
        refine wpAnyH_one (i:=17) (by kernel_rfl) rfl (by kernel_rfl) ?_
        go_simp
        refine (HES.out _ hv).mono ?_
        rintro e v1 ⟨rfl,hx0⟩
        have hv2:=hv.trans hx0
        clear hv hx0
        have hv:=hv2
        clear hv2
        refine ⟨hv,?_⟩
        try simp only [Act.put,sA,s0,sS]
        cases sm
        ·have HR6:Hid (Um.seek K p i (m - (j+1)) (j+1)=some X):=Lib.hid (by have h:=HR5.out;rwa [if_neg (by decide)] at h)
         clear HR5 HES
         refine tf (i:=18) (v:=.bool false) rfl rfl (fun _=>rfl) hv ?_
         try simp only [Act.put,sA,s0,sS]
         refine wpAnyH_done (by kernel_rfl) (NoPanic.normal ?_) _
         have hy:=hx.trans hv
         have HQ4:=Lib.hid (HQ3.out.ext hv)
         clear hx hv HQ3
         have hx:=hy
         clear hy
         go_wp2_with fail
         go_roundw
         case rel=>first | exact ⟨j+1,false,A2,c2,K,rfl,rfl,rfl,by omega,by omega,hx,HQ4,HMK,HFK,Lib.hid (fun _=>⟨rfl,HR6.out⟩),Lib.hid (fun e=>nomatch e)⟩ | ((repeat apply Exists.intro);exact ⟨⟨j+1,false,A2,c2,K,rfl,rfl,rfl,by omega,by omega,hx,HQ4,HMK,HFK,Lib.hid (fun _=>⟨rfl,HR6.out⟩),Lib.hid (fun e=>nomatch e)⟩,rfl⟩)
         case measure=>simp [intOf];omega
        ·have HR6:Hid (true=true→Y=X):=Lib.hid (fun _=>by have h:=HR5.out;rw [if_pos rfl] at h;exact Option.some.inj h)
         clear HR5 HES
         refine tf (i:=18) (v:=.bool true) rfl rfl (fun _=>rfl) hv ?_
         try simp only [Act.put,sA,s0,sS]
         refine wpAnyH_done (by kernel_rfl) (NoPanic.normal ?_) _
         have hy:=hx.trans hv
         have HY4:=Lib.hid (HQY.out.ext hv)
         clear hx hv HQ3
         have hx:=hy
         clear hy
         go_wp2_with fail
         go_roundw
         case rel=>first | exact ⟨j+1,true,some ⟨g,0,none⟩,m,Y,rfl,rfl,rfl,by omega,by omega,hx,HY4,HMY,HFY,Lib.hid (fun e=>nomatch e),HR6⟩ | ((repeat apply Exists.intro);exact ⟨⟨j+1,true,some ⟨g,0,none⟩,m,Y,rfl,rfl,rfl,by omega,by omega,hx,HY4,HMY,HFY,Lib.hid (fun e=>nomatch e),HR6⟩,rfl⟩)
         case measure=>simp [intOf];omega
   ·have hiK:i=k:=by omega
    subst hiK
    have HMb:Hid (M=b):=Lib.hid (by have h:=HCM.out;rw [← HK.out] at h;exact h.ends)
    obtain rfl:=HMb.out
    have HLB:=Lib.hid (HB.out.ext hx)
    have HLL:=Lib.hid (HL.out.ext hx)
    have HTT:=Lib.hid (HT.out.ext hx)
    have hx2:=HXU.out.trans hx
    clear hx HXU HCM
    have hx:=hx2
    clear hx2
    have HLK:Hid (Um.Like (Um.apply t l) (Um.apply t M)):=Lib.hid (Um.keeps_like HKM.out t)
    have HLN:Hid ((Um.apply t l).2.2=0→(Um.apply t l).1.length≤200):=Lib.hid apply_all_len
    have HA1:=Lib.hid (fun W (hT:Trs W A t) (hQ:Qs W (fun _=>True) B l) (hG:Glob W)=>seqapply_any A B n cA m cB t l W hG hT HN.out hQ HM.out b1 (by omega) F1.out)
    have HA2:=Lib.hid (fun W C k cC (hT:Trs W A t) (hQ:Qs W (fun _=>True) C M) (hk:(M).length=k) (hk8:k≤8) (hG:Glob W)=>seqapply_any A C n cA k cC t (M) W hG hT HN.out hQ hk b1 (by omega) F2.out)
    generalize Um.apply t l=R1 at HLK HLN HA1
    generalize Um.apply t M=R2 at HLK HA2
    obtain ⟨r1,k1,e1⟩:=R1
    obtain ⟨r2,k2,e2⟩:=R2
    go_wp2_with fail
    refine (HA1.out _ (HTT.out.ext (by repeat (first | with_reducible exact Ext.refl _ | with_reducible refine Ext.alloc ?_ _ | with_reducible refine Ext.drew1 ?_))) (HLL.out.ext (by repeat (first | with_reducible exact Ext.refl _ | with_reducible refine Ext.alloc ?_ _ | with_reducible refine Ext.drew1 ?_))) (HG.out.ext (hx.trans (by repeat (first | with_reducible exact Ext.refl _ | with_reducible refine Ext.alloc ?_ _ | with_reducible refine Ext.drew1 ?_))))).mono ?_
    rintro e u4 ⟨X1,nx1,cx1,rfl,hnx1,hX1,hx0⟩
    have hs:Ext wr u4:=Ext.trans (by repeat (first | with_reducible exact Ext.refl _ | with_reducible refine Ext.alloc ?_ _ | with_reducible refine Ext.drew1 ?_)) hx0
    replace HLB:=Lib.hid (HLB.out.ext hs)
    replace HLL:=Lib.hid (HLL.out.ext hs)
    replace HTT:=Lib.hid (HTT.out.ext hs)
    replace HQM:=Lib.hid (HQM.out.ext hs)
    have hx1:=hx.trans hs
    clear hx hs hx0
    have hx:=hx1
    clear hx1
    dsimp only
    have HX1:=hX1
    have HN1:=Lib.hid hnx1
    clear hX1 hnx1 HA1
    go_wp2_with fail
    refine (HA2.out _ C i cC (HTT.out.ext (by repeat (first | with_reducible exact Ext.refl _ | with_reducible refine Ext.alloc ?_ _ | with_reducible refine Ext.drew1 ?_))) (HLB.out.ext (by repeat (first | with_reducible exact Ext.refl _ | with_reducible refine Ext.alloc ?_ _ | with_reducible refine Ext.drew1 ?_))) HK.out (by omega) (HG.out.ext (hx.trans (by repeat (first | with_reducible exact Ext.refl _ | with_reducible refine Ext.alloc ?_ _ | with_reducible refine Ext.drew1 ?_))))).mono ?_
    rintro e u5 ⟨X2,nx2,cx2,rfl,hnx2,hX2,hx0⟩
    have hs:Ext u4 u5:=Ext.trans (by repeat (first | with_reducible exact Ext.refl _ | with_reducible refine Ext.alloc ?_ _ | with_reducible refine Ext.drew1 ?_)) hx0
    replace HLB:=Lib.hid (HLB.out.ext hs)
    replace HLL:=Lib.hid (HLL.out.ext hs)
    replace HTT:=Lib.hid (HTT.out.ext hs)
    replace HQM:=Lib.hid (HQM.out.ext hs)
    replace HX1:=Lib.hid (HX1.out.ext hs)
    have hx1:=hx.trans hs
    clear hx hs hx0
    have hx:=hx1
    clear hx1
    dsimp only
    have HX2:=hX2
    have HN2:=Lib.hid hnx2
    clear hX2 hnx2 HA2
    have HMi:Hid (m=i):=Lib.hid (by rw [← HMM.out,HK.out])
    obtain rfl:=HMi.out
    go_wp2_with fail
    refine (samelist_true A' C m c' cC M _ (HQM.out.ext (by repeat (first | with_reducible exact Ext.refl _ | with_reducible refine Ext.alloc ?_ _ | with_reducible refine Ext.drew1 ?_))) (HLB.out.ext (by repeat (first | with_reducible exact Ext.refl _ | with_reducible refine Ext.alloc ?_ _ | with_reducible refine Ext.drew1 ?_))) HMM.out (by omega) HFM.out).mono ?_
    rintro e u6 ⟨rfl,hx0⟩
    have hs:Ext u5 u6:=Ext.trans (by repeat (first | with_reducible exact Ext.refl _ | with_reducible refine Ext.alloc ?_ _ | with_reducible refine Ext.drew1 ?_)) hx0
    replace HLB:=Lib.hid (HLB.out.ext hs)
    replace HLL:=Lib.hid (HLL.out.ext hs)
    replace HTT:=Lib.hid (HTT.out.ext hs)
    replace HQM:=Lib.hid (HQM.out.ext hs)
    replace HX1:=Lib.hid (HX1.out.ext hs)
    replace HX2:=Lib.hid (HX2.out.ext hs)
    have hx1:=hx.trans hs
    clear hx hs hx0
    have hx:=hx1
    clear hx1
    dsimp only
    by_cases hE:e1=0
    rotate_left
    ·go_wp2_with fail
     refine (HAW.out _ (hx.trans (by repeat (first | with_reducible exact Ext.refl _ | with_reducible refine Ext.alloc ?_ _ | with_reducible refine Ext.drew1 ?_)))).mono ?_
     rintro e u7 ⟨rfl,hx0⟩
     have hs:Ext u6 u7:=Ext.trans (by repeat (first | with_reducible exact Ext.refl _ | with_reducible refine Ext.alloc ?_ _ | with_reducible refine Ext.drew1 ?_)) hx0
     replace HLB:=Lib.hid (HLB.out.ext hs)
     replace HLL:=Lib.hid (HLL.out.ext hs)
     replace HTT:=Lib.hid (HTT.out.ext hs)
     replace HQM:=Lib.hid (HQM.out.ext hs)
     replace HX1:=Lib.hid (HX1.out.ext hs)
     replace HX2:=Lib.hid (HX2.out.ext hs)
     have hx1:=hx.trans hs
     clear hx hs hx0
     have hx:=hx1
     clear hx1
     dsimp only
     go_wp2_with fail
     (go_ret;refine Ret.mk ?_ ?_;(focus (rfl;done));(focus (exact EX;done)))
    subst hE
    by_cases hF:Um.Lim e2
    ·go_wp2_with fail
     refine (limited_yes _ hF).mono ?_
     rintro e u7 ⟨rfl,hx0⟩
     have hs:Ext u6 u7:=Ext.trans (by repeat (first | with_reducible exact Ext.refl _ | with_reducible refine Ext.alloc ?_ _ | with_reducible refine Ext.drew1 ?_)) hx0
     replace HLB:=Lib.hid (HLB.out.ext hs)
     replace HLL:=Lib.hid (HLL.out.ext hs)
     replace HTT:=Lib.hid (HTT.out.ext hs)
     replace HQM:=Lib.hid (HQM.out.ext hs)
     replace HX1:=Lib.hid (HX1.out.ext hs)
     replace HX2:=Lib.hid (HX2.out.ext hs)
     have hx1:=hx.trans hs
     clear hx hs hx0
     have hx:=hx1
     clear hx1
     dsimp only
     go_wp2_with fail
     refine (HAW.out _ (hx.trans (by repeat (first | with_reducible exact Ext.refl _ | with_reducible refine Ext.alloc ?_ _ | with_reducible refine Ext.drew1 ?_)))).mono ?_
     rintro e u8 ⟨rfl,hx0⟩
     have hs:Ext u7 u8:=Ext.trans (by repeat (first | with_reducible exact Ext.refl _ | with_reducible refine Ext.alloc ?_ _ | with_reducible refine Ext.drew1 ?_)) hx0
     replace HLB:=Lib.hid (HLB.out.ext hs)
     replace HLL:=Lib.hid (HLL.out.ext hs)
     replace HTT:=Lib.hid (HTT.out.ext hs)
     replace HQM:=Lib.hid (HQM.out.ext hs)
     replace HX1:=Lib.hid (HX1.out.ext hs)
     replace HX2:=Lib.hid (HX2.out.ext hs)
     have hx1:=hx.trans hs
     clear hx hs hx0
     have hx:=hx1
     clear hx1
     dsimp only
     go_wp2_with fail
     (go_ret;refine Ret.mk ?_ ?_;(focus (rfl;done));(focus (exact EX;done)))
    obtain ⟨rfl,hrr⟩:e2=0∧r2=r1:=by
     rcases HLK.out with k | k | k
     ·exact (k rfl).elim
     ·exact (hF k).elim
     ·exact k
    subst hrr
    have HL1:Hid (nx1≤200):=Lib.hid (by have :=HLN.out rfl;have:=HN1.out;(try dsimp only at *);omega)
    have HL2:Hid (nx2≤200):=Lib.hid (by have :=HLN.out rfl;have:=HN2.out;(try dsimp only at *);omega)
    go_wp2_with fail
    refine (limited_no _ hF).mono ?_
    rintro e u7 ⟨rfl,hx0⟩
    have hs:Ext u6 u7:=Ext.trans (by repeat (first | with_reducible exact Ext.refl _ | with_reducible refine Ext.alloc ?_ _ | with_reducible refine Ext.drew1 ?_)) hx0
    replace HLB:=Lib.hid (HLB.out.ext hs)
    replace HLL:=Lib.hid (HLL.out.ext hs)
    replace HTT:=Lib.hid (HTT.out.ext hs)
    replace HQM:=Lib.hid (HQM.out.ext hs)
    replace HX1:=Lib.hid (HX1.out.ext hs)
    replace HX2:=Lib.hid (HX2.out.ext hs)
    have hx1:=hx.trans hs
    clear hx hs hx0
    have hx:=hx1
    clear hx1
    dsimp only
    go_wp2_with fail
    refine (sametree_any X1 X2 nx1 nx2 cx1 cx2 r2 r2 _ (HX1.out.ext (by repeat (first | with_reducible exact Ext.refl _ | with_reducible refine Ext.alloc ?_ _ | with_reducible refine Ext.drew1 ?_))) (HX2.out.ext (by repeat (first | with_reducible exact Ext.refl _ | with_reducible refine Ext.alloc ?_ _ | with_reducible refine Ext.drew1 ?_))) HN1.out.symm HN2.out.symm (by have :=HL1.out;omega) (by have :=HL2.out;omega)).mono ?_
    rintro e u8 ⟨rfl,hx0⟩
    have hs:Ext u7 u8:=Ext.trans (by repeat (first | with_reducible exact Ext.refl _ | with_reducible refine Ext.alloc ?_ _ | with_reducible refine Ext.drew1 ?_)) hx0
    replace HLB:=Lib.hid (HLB.out.ext hs)
    replace HLL:=Lib.hid (HLL.out.ext hs)
    replace HTT:=Lib.hid (HTT.out.ext hs)
    replace HQM:=Lib.hid (HQM.out.ext hs)
    replace HX1:=Lib.hid (HX1.out.ext hs)
    replace HX2:=Lib.hid (HX2.out.ext hs)
    have hx1:=hx.trans hs
    clear hx hs hx0
    have hx:=hx1
    clear hx1
    rw [decide_eq_true rfl]
    go_wp2_with fail
    refine (HAW.out _ (hx.trans (by repeat (first | with_reducible exact Ext.refl _ | with_reducible refine Ext.alloc ?_ _ | with_reducible refine Ext.drew1 ?_)))).mono ?_
    rintro e u9 ⟨rfl,hx0⟩
    have hs:Ext u8 u9:=Ext.trans (by repeat (first | with_reducible exact Ext.refl _ | with_reducible refine Ext.alloc ?_ _ | with_reducible refine Ext.drew1 ?_)) hx0
    replace HLB:=Lib.hid (HLB.out.ext hs)
    replace HLL:=Lib.hid (HLL.out.ext hs)
    replace HTT:=Lib.hid (HTT.out.ext hs)
    replace HQM:=Lib.hid (HQM.out.ext hs)
    replace HX1:=Lib.hid (HX1.out.ext hs)
    replace HX2:=Lib.hid (HX2.out.ext hs)
    have hx1:=hx.trans hs
    clear hx hs hx0
    have hx:=hx1
    clear hx1
    dsimp only
    go_wp2_with fail
    (go_ret;refine Ret.mk ?_ ?_;(focus (rfl;done));(focus (exact EX;done)))
end Go.Proofs.YtfmgnaigcibcaaaGreatDoor
