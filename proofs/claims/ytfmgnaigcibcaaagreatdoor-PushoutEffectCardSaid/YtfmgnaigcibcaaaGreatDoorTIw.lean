import Derived.Test.YtfmgnaigcibcaaaGreatDoorTJs
import Derived.Test.YtfmgnaigcibcaaaGreatDoorTWa
import Derived.Test.YtfmgnaigcibcaaaGreatDoorTUc
set_option linter.unusedSimpArgs false
set_option linter.unusedVariables false
namespace Go.Proofs.YtfmgnaigcibcaaaGreatDoor
open Go Go.RowKit
attribute [local go_sem ↓] Go.wp_at_zero Go.wp_at_succ
set_option maxHeartbeats 4000000 in
set_option maxRecDepth 100000 in
theorem limited15_yes {w:World} (e:Int) (h:Um.Lim e):Calls Tryz.prog 36 #[.int .i64 e] w (Ret (.bool true) w):=by
 rcases h with rfl | rfl
 all_goals
  go_enter Tryz.func36,Tryz.ntmps36
  have hx:=Ext.refl w
  go_wp2_with fail
  (go_ret;refine Ret.mk ?_ ?_;(focus (rfl;done));(focus (exact EX;done)))
set_option maxHeartbeats 4000000 in
set_option maxRecDepth 100000 in
theorem limited15_no {w:World} (e:Int) (h:¬ Um.Lim e):Calls Tryz.prog 36 #[.int .i64 e] w (Ret (.bool false) w):=by
 have h4:(e == 4)=false:=by rw [beq_eq_false_iff_ne];exact fun k=>h (.inl k)
 have h5:(e == 5)=false:=by rw [beq_eq_false_iff_ne];exact fun k=>h (.inr k)
 clear h
 go_enter Tryz.func36,Tryz.ntmps36
 have hx:=Ext.refl w
 go_wp2_with fail
 (go_ret;refine Ret.mk ?_ ?_;(focus ((simp [h4,h5]);done));(focus (exact EX;done)))
set_option maxHeartbeats 16000000 in
set_option maxRecDepth 100000 in
theorem pusheffect_walk (A B C:Option Addr) (n cA m cB k cC:Nat) (t:List Pf) (a b:List Qp) (w:World) (hg:Glob w) (ht:Trs w A t) (hn:t.length=n) (ha:Qs w (fun _=>True) B a) (hm:a.length=m) (hb:Qs w (fun _=>True) C b) (hk:b.length=k) (hC:C=none→cC=0) (hkC:k≤cC) (b1:n≤10000000000000) (b2:m≤1152921504606846976) (b3:k≤1152921504606846976) (hz:∀ f∈t,f.path.size≤140737488355328∧f.data.size≤140737488355328) (s1:∀ q∈a,q.old.length≤1152921504606846976∧q.new.length≤1152921504606846976) (s2:∀ q∈b,q.old.length≤1152921504606846976∧q.new.length≤1152921504606846976):
 Calls Tryz.prog 10 #[.slice A n cA,.slice B m cB,.slice C k cC] w (Ret (.bool true) w):=by
 have HT:=Lib.hid ht
 have HA:=Lib.hid ha
 have HB:=Lib.hid hb
 have HN:=Lib.hid hn
 have HM:=Lib.hid hm
 have HK:=Lib.hid hk
 have HG:=Lib.hid hg
 have HAW:=Lib.hid (fun W (hW:Ext w W)=>awake15_any W (hg.ext hW))
 have HCn:Hid (C=none→k=0∧cC=0):=Lib.hid fun e=>⟨by have :=hC e;omega,hC e⟩
 have HGT:=Lib.hid (fun W (hW:Ext w W)=>greattree_any A n cA t W (ht.ext hW) hn (by omega) hz)
 have HGR:Hid (∀ W g ty,Ext w W→Blk W g ty #[.slice B m cB,.slice C k cC]→Calls Tryz.prog 33 #[.slice (some ⟨g,0,none⟩) 2 2] W (Tells (Seqs.small [(B,a,cB),(C,b,cC)]) W)):=Lib.hid fun W g ty hW h=>lawgreat15_any g ty [(B,a,cB),(C,b,cC)] 2 W (by unfold Seqs.cells;simpa [hm,hk] using h) rfl (fun x hx=>by
  rcases List.mem_cons.1 hx with rfl | hx
  ·exact ⟨⟨_,ha.ext hW⟩,by dsimp only;omega,s1⟩
  ·obtain rfl:x=(C,b,cC):=by simpa using hx
   exact ⟨⟨_,hb.ext hW⟩,by dsimp only;omega,s2⟩) (by omega)
 clear ha hb hn hm hk s1 s2 hC hkC hg ht hz
 go_enter Tryz.func10,Tryz.ntmps10
 have hx:=Ext.refl w
 go_wp2_with fail
 refine (HGR.out _ _ _ (hx.trans (by repeat (first | with_reducible exact Ext.refl _ | with_reducible refine Ext.alloc ?_ _ | with_reducible refine Ext.drew1 ?_))) (Blk.new' rfl)).mono ?_
 rintro e u1 ⟨v,rfl,hsm,hx0⟩
 have hs:Ext w u1:=Ext.trans (by repeat (first | with_reducible exact Ext.refl _ | with_reducible refine Ext.alloc ?_ _ | with_reducible refine Ext.drew1 ?_)) hx0
 replace HA:=Lib.hid (HA.out.ext hs)
 replace HB:=Lib.hid (HB.out.ext hs)
 replace HT:=Lib.hid (HT.out.ext hs)
 have hx1:=hx.trans hs
 clear hx hs hx0
 have hx:=hx1
 clear hx1
 dsimp only
 have HS:=Lib.hid hsm
 clear hsm HGR
 cases v
 rotate_left
 ·go_wp2_with fail
  refine (HAW.out _ (hx.trans (by repeat (first | with_reducible exact Ext.refl _ | with_reducible refine Ext.alloc ?_ _ | with_reducible refine Ext.drew1 ?_)))).mono ?_
  rintro e u2 ⟨rfl,hx0⟩
  have hs:Ext u1 u2:=Ext.trans (by repeat (first | with_reducible exact Ext.refl _ | with_reducible refine Ext.alloc ?_ _ | with_reducible refine Ext.drew1 ?_)) hx0
  replace HA:=Lib.hid (HA.out.ext hs)
  replace HB:=Lib.hid (HB.out.ext hs)
  replace HT:=Lib.hid (HT.out.ext hs)
  have hx1:=hx.trans hs
  clear hx hs hx0
  have hx:=hx1
  clear hx1
  dsimp only
  go_wp2_with fail
  (go_ret;refine Ret.mk ?_ ?_;(focus (rfl;done));(focus (exact EX;done)))
 replace HS:=Lib.hid (HS.out rfl)
 cases hgt:Tr.great t
 rotate_left
 all_goals rw [hgt] at HGT
 ·go_wp2_with fail
  refine (HGT.out _ (hx.trans (by repeat (first | with_reducible exact Ext.refl _ | with_reducible refine Ext.alloc ?_ _ | with_reducible refine Ext.drew1 ?_)))).mono ?_
  rintro e u2 ⟨rfl,hx0⟩
  have hs:Ext u1 u2:=Ext.trans (by repeat (first | with_reducible exact Ext.refl _ | with_reducible refine Ext.alloc ?_ _ | with_reducible refine Ext.drew1 ?_)) hx0
  replace HA:=Lib.hid (HA.out.ext hs)
  replace HB:=Lib.hid (HB.out.ext hs)
  replace HT:=Lib.hid (HT.out.ext hs)
  have hx1:=hx.trans hs
  clear hx hs hx0
  have hx:=hx1
  clear hx1
  dsimp only
  go_wp2_with fail
  refine (HAW.out _ (hx.trans (by repeat (first | with_reducible exact Ext.refl _ | with_reducible refine Ext.alloc ?_ _ | with_reducible refine Ext.drew1 ?_)))).mono ?_
  rintro e u3 ⟨rfl,hx0⟩
  have hs:Ext u2 u3:=Ext.trans (by repeat (first | with_reducible exact Ext.refl _ | with_reducible refine Ext.alloc ?_ _ | with_reducible refine Ext.drew1 ?_)) hx0
  replace HA:=Lib.hid (HA.out.ext hs)
  replace HB:=Lib.hid (HB.out.ext hs)
  replace HT:=Lib.hid (HT.out.ext hs)
  have hx1:=hx.trans hs
  clear hx hs hx0
  have hx:=hx1
  clear hx1
  dsimp only
  go_wp2_with fail
  (go_ret;refine Ret.mk ?_ ?_;(focus (rfl;done));(focus (exact EX;done)))
 go_wp2_with fail
 refine (HGT.out _ (hx.trans (by repeat (first | with_reducible exact Ext.refl _ | with_reducible refine Ext.alloc ?_ _ | with_reducible refine Ext.drew1 ?_)))).mono ?_
 rintro e u2 ⟨rfl,hx0⟩
 have hs:Ext u1 u2:=Ext.trans (by repeat (first | with_reducible exact Ext.refl _ | with_reducible refine Ext.alloc ?_ _ | with_reducible refine Ext.drew1 ?_)) hx0
 replace HA:=Lib.hid (HA.out.ext hs)
 replace HB:=Lib.hid (HB.out.ext hs)
 replace HT:=Lib.hid (HT.out.ext hs)
 have hx1:=hx.trans hs
 clear hx hs hx0
 have hx:=hx1
 clear hx1
 dsimp only
 have S1:Small a:=HS.out (B,a,cB) (by simp)
 have S2:Small b:=HS.out (C,b,cC) (by simp)
 have F1:=Lib.hid S1.fits
 have F2:=Lib.hid S2.fits
 have m8:m≤8:=by have :=S1.1;have:=HM.out;omega
 have k8:k≤8:=by have :=S2.1;have:=HK.out;omega
 clear HS S1 S2 HGT
 have HLN1:Hid ((Um.apply t a).2.2=0→(Um.apply t a).1.length≤200):=Lib.hid apply_all_len
 have HLN2:Hid ((Um.apply t b).2.2=0→(Um.apply t b).1.length≤200):=Lib.hid apply_all_len
 have HA1:=Lib.hid (fun W (hT:Trs W A t) (hQ:Qs W (fun _=>True) B a) (hG:Glob W)=>seqapply_any A B n cA m cB t a W hG hT HN.out hQ HM.out b1 (by omega) F1.out)
 have HA2:=Lib.hid (fun W (hT:Trs W A t) (hQ:Qs W (fun _=>True) C b) (hG:Glob W)=>seqapply_any A C n cA k cC t b W hG hT HN.out hQ HK.out b1 (by omega) F2.out)
 cases hme:Sq.merge a b with
 | error p=>
   obtain ⟨i,j⟩:=p
   have HME:=Lib.hid hme
   clear hme
   generalize Um.apply t a=R1 at *
   generalize Um.apply t b=R2 at *
   obtain ⟨r1,k1,e1⟩:=R1
   obtain ⟨r2,k2,e2⟩:=R2
   dsimp only at HLN1 HLN2
   go_wp2_with fail
   refine (seqmerge_bad (HG.out.ext (hx.trans (by repeat (first | with_reducible exact Ext.refl _ | with_reducible refine Ext.alloc ?_ _ | with_reducible refine Ext.drew1 ?_)))) (HA.out.ext (by repeat (first | with_reducible exact Ext.refl _ | with_reducible refine Ext.alloc ?_ _ | with_reducible refine Ext.drew1 ?_))) (HB.out.ext (by repeat (first | with_reducible exact Ext.refl _ | with_reducible refine Ext.alloc ?_ _ | with_reducible refine Ext.drew1 ?_))) HM.out HK.out HCn.out (by omega) (by omega) F1.out F2.out HME.out).mono ?_
   rintro e u3 ⟨rfl,hx0⟩
   have hs:Ext u2 u3:=Ext.trans (by repeat (first | with_reducible exact Ext.refl _ | with_reducible refine Ext.alloc ?_ _ | with_reducible refine Ext.drew1 ?_)) hx0
   replace HA:=Lib.hid (HA.out.ext hs)
   replace HB:=Lib.hid (HB.out.ext hs)
   replace HT:=Lib.hid (HT.out.ext hs)
   have hx1:=hx.trans hs
   clear hx hs hx0
   have hx:=hx1
   clear hx1
   dsimp only
   go_wp2_with fail
   refine (HA1.out _ (HT.out.ext (by repeat (first | with_reducible exact Ext.refl _ | with_reducible refine Ext.alloc ?_ _ | with_reducible refine Ext.drew1 ?_))) (HA.out.ext (by repeat (first | with_reducible exact Ext.refl _ | with_reducible refine Ext.alloc ?_ _ | with_reducible refine Ext.drew1 ?_))) (HG.out.ext (hx.trans (by repeat (first | with_reducible exact Ext.refl _ | with_reducible refine Ext.alloc ?_ _ | with_reducible refine Ext.drew1 ?_))))).mono ?_
   rintro e u4 ⟨X1,nx1,cx1,rfl,hnx1,hX1,hx0⟩
   have hs:Ext u3 u4:=Ext.trans (by repeat (first | with_reducible exact Ext.refl _ | with_reducible refine Ext.alloc ?_ _ | with_reducible refine Ext.drew1 ?_)) hx0
   replace HA:=Lib.hid (HA.out.ext hs)
   replace HB:=Lib.hid (HB.out.ext hs)
   replace HT:=Lib.hid (HT.out.ext hs)
   have hx1:=hx.trans hs
   clear hx hs hx0
   have hx:=hx1
   clear hx1
   dsimp only
   have HX1:=hX1
   have HN1:=Lib.hid hnx1
   clear hX1 hnx1 HA1
   go_wp2_with fail
   refine (HA2.out _ (HT.out.ext (by repeat (first | with_reducible exact Ext.refl _ | with_reducible refine Ext.alloc ?_ _ | with_reducible refine Ext.drew1 ?_))) (HB.out.ext (by repeat (first | with_reducible exact Ext.refl _ | with_reducible refine Ext.alloc ?_ _ | with_reducible refine Ext.drew1 ?_))) (HG.out.ext (hx.trans (by repeat (first | with_reducible exact Ext.refl _ | with_reducible refine Ext.alloc ?_ _ | with_reducible refine Ext.drew1 ?_))))).mono ?_
   rintro e u5 ⟨X2,nx2,cx2,rfl,hnx2,hX2,hx0⟩
   have hs:Ext u4 u5:=Ext.trans (by repeat (first | with_reducible exact Ext.refl _ | with_reducible refine Ext.alloc ?_ _ | with_reducible refine Ext.drew1 ?_)) hx0
   replace HA:=Lib.hid (HA.out.ext hs)
   replace HB:=Lib.hid (HB.out.ext hs)
   replace HT:=Lib.hid (HT.out.ext hs)
   replace HX1:=Lib.hid (HX1.out.ext hs)
   have hx1:=hx.trans hs
   clear hx hs hx0
   have hx:=hx1
   clear hx1
   dsimp only
   have HX2:=hX2
   have HN2:=Lib.hid hnx2
   clear hX2 hnx2 HA2
   go_wp2_with fail
   refine (HAW.out _ (hx.trans (by repeat (first | with_reducible exact Ext.refl _ | with_reducible refine Ext.alloc ?_ _ | with_reducible refine Ext.drew1 ?_)))).mono ?_
   rintro e u6 ⟨rfl,hx0⟩
   have hs:Ext u5 u6:=Ext.trans (by repeat (first | with_reducible exact Ext.refl _ | with_reducible refine Ext.alloc ?_ _ | with_reducible refine Ext.drew1 ?_)) hx0
   replace HA:=Lib.hid (HA.out.ext hs)
   replace HB:=Lib.hid (HB.out.ext hs)
   replace HT:=Lib.hid (HT.out.ext hs)
   replace HX1:=Lib.hid (HX1.out.ext hs)
   replace HX2:=Lib.hid (HX2.out.ext hs)
   have hx1:=hx.trans hs
   clear hx hs hx0
   have hx:=hx1
   clear hx1
   dsimp only
   go_wp2_with fail
   (go_ret;refine Ret.mk ?_ ?_;(focus (rfl;done));(focus (exact EX;done)))
 | ok p=>
   obtain ⟨f,g⟩:=p
   have HLW:=Lib.hid (fun (z1:(Um.apply t a).2.2=0) (z2:(Um.apply t b).2.2=0)=>Um.effect_law hme z1 z2)
   have HLF:Hid (f.length=k):=Lib.hid ((Sq.merge_length hme).1.trans HK.out)
   have HLG:Hid (g.length=m):=Lib.hid ((Sq.merge_length hme).2.trans HM.out)
   have HFF:=Lib.hid (merge_fitting hme F1.out F2.out).1
   have HFG:=Lib.hid (merge_fitting hme F1.out F2.out).2
   have HME:=Lib.hid hme
   clear hme
   generalize Um.apply t a=R1 at *
   generalize Um.apply t b=R2 at *
   obtain ⟨r1,k1,e1⟩:=R1
   obtain ⟨r2,k2,e2⟩:=R2
   dsimp only at HLN1 HLN2
   dsimp only at HLW
   go_wp2_with fail
   refine (seqmerge_ok (HG.out.ext (hx.trans (by repeat (first | with_reducible exact Ext.refl _ | with_reducible refine Ext.alloc ?_ _ | with_reducible refine Ext.drew1 ?_)))) (HA.out.ext (by repeat (first | with_reducible exact Ext.refl _ | with_reducible refine Ext.alloc ?_ _ | with_reducible refine Ext.drew1 ?_))) (HB.out.ext (by repeat (first | with_reducible exact Ext.refl _ | with_reducible refine Ext.alloc ?_ _ | with_reducible refine Ext.drew1 ?_))) HM.out HK.out HCn.out (by omega) (by omega) F1.out F2.out HME.out).mono ?_
   rintro e u3 ⟨A1,c1,A2,c2,rfl,hq,hx0⟩
   have hs:Ext u2 u3:=Ext.trans (by repeat (first | with_reducible exact Ext.refl _ | with_reducible refine Ext.alloc ?_ _ | with_reducible refine Ext.drew1 ?_)) hx0
   replace HA:=Lib.hid (HA.out.ext hs)
   replace HB:=Lib.hid (HB.out.ext hs)
   replace HT:=Lib.hid (HT.out.ext hs)
   have hx1:=hx.trans hs
   clear hx hs hx0
   have hx:=hx1
   clear hx1
   dsimp only
   have HQF:=Lib.hid (hq.out.1.mono (G:=fun _=>True) fun _ _=>trivial)
   have HQG:=Lib.hid (hq.out.2.1.mono (G:=fun _=>True) fun _ _=>trivial)
   clear hq HME
   go_wp2_with fail
   refine (HA1.out _ (HT.out.ext (by repeat (first | with_reducible exact Ext.refl _ | with_reducible refine Ext.alloc ?_ _ | with_reducible refine Ext.drew1 ?_))) (HA.out.ext (by repeat (first | with_reducible exact Ext.refl _ | with_reducible refine Ext.alloc ?_ _ | with_reducible refine Ext.drew1 ?_))) (HG.out.ext (hx.trans (by repeat (first | with_reducible exact Ext.refl _ | with_reducible refine Ext.alloc ?_ _ | with_reducible refine Ext.drew1 ?_))))).mono ?_
   rintro e u4 ⟨X1,nx1,cx1,rfl,hnx1,hX1,hx0⟩
   have hs:Ext u3 u4:=Ext.trans (by repeat (first | with_reducible exact Ext.refl _ | with_reducible refine Ext.alloc ?_ _ | with_reducible refine Ext.drew1 ?_)) hx0
   replace HA:=Lib.hid (HA.out.ext hs)
   replace HB:=Lib.hid (HB.out.ext hs)
   replace HT:=Lib.hid (HT.out.ext hs)
   replace HQF:=Lib.hid (HQF.out.ext hs)
   replace HQG:=Lib.hid (HQG.out.ext hs)
   have hx1:=hx.trans hs
   clear hx hs hx0
   have hx:=hx1
   clear hx1
   dsimp only
   have HX1:=hX1
   have HN1:=Lib.hid hnx1
   clear hX1 hnx1 HA1
   go_wp2_with fail
   refine (HA2.out _ (HT.out.ext (by repeat (first | with_reducible exact Ext.refl _ | with_reducible refine Ext.alloc ?_ _ | with_reducible refine Ext.drew1 ?_))) (HB.out.ext (by repeat (first | with_reducible exact Ext.refl _ | with_reducible refine Ext.alloc ?_ _ | with_reducible refine Ext.drew1 ?_))) (HG.out.ext (hx.trans (by repeat (first | with_reducible exact Ext.refl _ | with_reducible refine Ext.alloc ?_ _ | with_reducible refine Ext.drew1 ?_))))).mono ?_
   rintro e u5 ⟨X2,nx2,cx2,rfl,hnx2,hX2,hx0⟩
   have hs:Ext u4 u5:=Ext.trans (by repeat (first | with_reducible exact Ext.refl _ | with_reducible refine Ext.alloc ?_ _ | with_reducible refine Ext.drew1 ?_)) hx0
   replace HA:=Lib.hid (HA.out.ext hs)
   replace HB:=Lib.hid (HB.out.ext hs)
   replace HT:=Lib.hid (HT.out.ext hs)
   replace HQF:=Lib.hid (HQF.out.ext hs)
   replace HQG:=Lib.hid (HQG.out.ext hs)
   replace HX1:=Lib.hid (HX1.out.ext hs)
   have hx1:=hx.trans hs
   clear hx hs hx0
   have hx:=hx1
   clear hx1
   dsimp only
   have HX2:=hX2
   have HN2:=Lib.hid hnx2
   clear hX2 hnx2 HA2
   by_cases hE1:e1=0
   rotate_left
   ·go_wp2_with fail
    refine (HAW.out _ (hx.trans (by repeat (first | with_reducible exact Ext.refl _ | with_reducible refine Ext.alloc ?_ _ | with_reducible refine Ext.drew1 ?_)))).mono ?_
    rintro e u6 ⟨rfl,hx0⟩
    have hs:Ext u5 u6:=Ext.trans (by repeat (first | with_reducible exact Ext.refl _ | with_reducible refine Ext.alloc ?_ _ | with_reducible refine Ext.drew1 ?_)) hx0
    replace HA:=Lib.hid (HA.out.ext hs)
    replace HB:=Lib.hid (HB.out.ext hs)
    replace HT:=Lib.hid (HT.out.ext hs)
    replace HQF:=Lib.hid (HQF.out.ext hs)
    replace HQG:=Lib.hid (HQG.out.ext hs)
    replace HX1:=Lib.hid (HX1.out.ext hs)
    replace HX2:=Lib.hid (HX2.out.ext hs)
    have hx1:=hx.trans hs
    clear hx hs hx0
    have hx:=hx1
    clear hx1
    dsimp only
    go_wp2_with fail
    (go_ret;refine Ret.mk ?_ ?_;(focus (rfl;done));(focus (exact EX;done)))
   subst hE1
   by_cases hE2:e2=0
   rotate_left
   ·go_wp2_with fail
    refine (HAW.out _ (hx.trans (by repeat (first | with_reducible exact Ext.refl _ | with_reducible refine Ext.alloc ?_ _ | with_reducible refine Ext.drew1 ?_)))).mono ?_
    rintro e u6 ⟨rfl,hx0⟩
    have hs:Ext u5 u6:=Ext.trans (by repeat (first | with_reducible exact Ext.refl _ | with_reducible refine Ext.alloc ?_ _ | with_reducible refine Ext.drew1 ?_)) hx0
    replace HA:=Lib.hid (HA.out.ext hs)
    replace HB:=Lib.hid (HB.out.ext hs)
    replace HT:=Lib.hid (HT.out.ext hs)
    replace HQF:=Lib.hid (HQF.out.ext hs)
    replace HQG:=Lib.hid (HQG.out.ext hs)
    replace HX1:=Lib.hid (HX1.out.ext hs)
    replace HX2:=Lib.hid (HX2.out.ext hs)
    have hx1:=hx.trans hs
    clear hx hs hx0
    have hx:=hx1
    clear hx1
    dsimp only
    go_wp2_with fail
    (go_ret;refine Ret.mk ?_ ?_;(focus (rfl;done));(focus (exact EX;done)))
   subst hE2
   have HL1:Hid (nx1≤200):=Lib.hid (by have :=HLN1.out rfl;have:=HN1.out;(try dsimp only at *);omega)
   have HL2:Hid (nx2≤200):=Lib.hid (by have :=HLN2.out rfl;have:=HN2.out;(try dsimp only at *);omega)
   replace HLW:=Lib.hid (HLW.out (by first | rfl | trivial) (by first | rfl | trivial))
   have HA3:=Lib.hid (fun W (hT:Trs W X1 r1) (hQ:Qs W (fun _=>True) A1 f) (hG:Glob W)=>seqapply_any X1 A1 nx1 cx1 k c1 r1 f W hG hT HN1.out.symm hQ HLF.out (by have :=HL1.out;omega) (by omega) HFF.out)
   have HA4:=Lib.hid (fun W (hT:Trs W X2 r2) (hQ:Qs W (fun _=>True) A2 g) (hG:Glob W)=>seqapply_any X2 A2 nx2 cx2 m c2 r2 g W hG hT HN2.out.symm hQ HLG.out (by have :=HL2.out;omega) (by omega) HFG.out)
   have HLN3:Hid ((Um.apply r1 f).2.2=0→(Um.apply r1 f).1.length≤200):=Lib.hid apply_all_len
   generalize Um.apply r1 f=R3 at HLW HA3 HLN3
   generalize Um.apply r2 g=R4 at HLW HA4
   obtain ⟨r3,k3,e3⟩:=R3
   obtain ⟨r4,k4,e4⟩:=R4
   dsimp only at HLW HLN3
   go_wp2_with fail
   refine (HA3.out _ (HX1.out.ext (by repeat (first | with_reducible exact Ext.refl _ | with_reducible refine Ext.alloc ?_ _ | with_reducible refine Ext.drew1 ?_))) (HQF.out.ext (by repeat (first | with_reducible exact Ext.refl _ | with_reducible refine Ext.alloc ?_ _ | with_reducible refine Ext.drew1 ?_))) (HG.out.ext (hx.trans (by repeat (first | with_reducible exact Ext.refl _ | with_reducible refine Ext.alloc ?_ _ | with_reducible refine Ext.drew1 ?_))))).mono ?_
   rintro e u6 ⟨X3,nx3,cx3,rfl,hnx3,hX3,hx0⟩
   have hs:Ext u5 u6:=Ext.trans (by repeat (first | with_reducible exact Ext.refl _ | with_reducible refine Ext.alloc ?_ _ | with_reducible refine Ext.drew1 ?_)) hx0
   replace HA:=Lib.hid (HA.out.ext hs)
   replace HB:=Lib.hid (HB.out.ext hs)
   replace HT:=Lib.hid (HT.out.ext hs)
   replace HQF:=Lib.hid (HQF.out.ext hs)
   replace HQG:=Lib.hid (HQG.out.ext hs)
   replace HX1:=Lib.hid (HX1.out.ext hs)
   replace HX2:=Lib.hid (HX2.out.ext hs)
   have hx1:=hx.trans hs
   clear hx hs hx0
   have hx:=hx1
   clear hx1
   dsimp only
   have HX3:=hX3
   have HN3:=Lib.hid hnx3
   clear hX3 hnx3 HA3
   go_wp2_with fail
   refine (HA4.out _ (HX2.out.ext (by repeat (first | with_reducible exact Ext.refl _ | with_reducible refine Ext.alloc ?_ _ | with_reducible refine Ext.drew1 ?_))) (HQG.out.ext (by repeat (first | with_reducible exact Ext.refl _ | with_reducible refine Ext.alloc ?_ _ | with_reducible refine Ext.drew1 ?_))) (HG.out.ext (hx.trans (by repeat (first | with_reducible exact Ext.refl _ | with_reducible refine Ext.alloc ?_ _ | with_reducible refine Ext.drew1 ?_))))).mono ?_
   rintro e u7 ⟨X4,nx4,cx4,rfl,hnx4,hX4,hx0⟩
   have hs:Ext u6 u7:=Ext.trans (by repeat (first | with_reducible exact Ext.refl _ | with_reducible refine Ext.alloc ?_ _ | with_reducible refine Ext.drew1 ?_)) hx0
   replace HA:=Lib.hid (HA.out.ext hs)
   replace HB:=Lib.hid (HB.out.ext hs)
   replace HT:=Lib.hid (HT.out.ext hs)
   replace HQF:=Lib.hid (HQF.out.ext hs)
   replace HQG:=Lib.hid (HQG.out.ext hs)
   replace HX1:=Lib.hid (HX1.out.ext hs)
   replace HX2:=Lib.hid (HX2.out.ext hs)
   replace HX3:=Lib.hid (HX3.out.ext hs)
   have hx1:=hx.trans hs
   clear hx hs hx0
   have hx:=hx1
   clear hx1
   dsimp only
   have HX4:=hX4
   have HN4:=Lib.hid hnx4
   clear hX4 hnx4 HA4
   by_cases hF3:Um.Lim e3
   ·go_wp2_with fail
    refine (limited15_yes _ hF3).mono ?_
    rintro e u8 ⟨rfl,hx0⟩
    have hs:Ext u7 u8:=Ext.trans (by repeat (first | with_reducible exact Ext.refl _ | with_reducible refine Ext.alloc ?_ _ | with_reducible refine Ext.drew1 ?_)) hx0
    replace HA:=Lib.hid (HA.out.ext hs)
    replace HB:=Lib.hid (HB.out.ext hs)
    replace HT:=Lib.hid (HT.out.ext hs)
    replace HQF:=Lib.hid (HQF.out.ext hs)
    replace HQG:=Lib.hid (HQG.out.ext hs)
    replace HX1:=Lib.hid (HX1.out.ext hs)
    replace HX2:=Lib.hid (HX2.out.ext hs)
    replace HX3:=Lib.hid (HX3.out.ext hs)
    replace HX4:=Lib.hid (HX4.out.ext hs)
    have hx1:=hx.trans hs
    clear hx hs hx0
    have hx:=hx1
    clear hx1
    dsimp only
    go_wp2_with fail
    refine (HAW.out _ (hx.trans (by repeat (first | with_reducible exact Ext.refl _ | with_reducible refine Ext.alloc ?_ _ | with_reducible refine Ext.drew1 ?_)))).mono ?_
    rintro e u9 ⟨rfl,hx0⟩
    have hs:Ext u8 u9:=Ext.trans (by repeat (first | with_reducible exact Ext.refl _ | with_reducible refine Ext.alloc ?_ _ | with_reducible refine Ext.drew1 ?_)) hx0
    replace HA:=Lib.hid (HA.out.ext hs)
    replace HB:=Lib.hid (HB.out.ext hs)
    replace HT:=Lib.hid (HT.out.ext hs)
    replace HQF:=Lib.hid (HQF.out.ext hs)
    replace HQG:=Lib.hid (HQG.out.ext hs)
    replace HX1:=Lib.hid (HX1.out.ext hs)
    replace HX2:=Lib.hid (HX2.out.ext hs)
    replace HX3:=Lib.hid (HX3.out.ext hs)
    replace HX4:=Lib.hid (HX4.out.ext hs)
    have hx1:=hx.trans hs
    clear hx hs hx0
    have hx:=hx1
    clear hx1
    dsimp only
    go_wp2_with fail
    (go_ret;refine Ret.mk ?_ ?_;(focus (rfl;done));(focus (exact EX;done)))
   go_wp2_with fail
   refine (limited15_no _ hF3).mono ?_
   rintro e u8 ⟨rfl,hx0⟩
   have hs:Ext u7 u8:=Ext.trans (by repeat (first | with_reducible exact Ext.refl _ | with_reducible refine Ext.alloc ?_ _ | with_reducible refine Ext.drew1 ?_)) hx0
   replace HA:=Lib.hid (HA.out.ext hs)
   replace HB:=Lib.hid (HB.out.ext hs)
   replace HT:=Lib.hid (HT.out.ext hs)
   replace HQF:=Lib.hid (HQF.out.ext hs)
   replace HQG:=Lib.hid (HQG.out.ext hs)
   replace HX1:=Lib.hid (HX1.out.ext hs)
   replace HX2:=Lib.hid (HX2.out.ext hs)
   replace HX3:=Lib.hid (HX3.out.ext hs)
   replace HX4:=Lib.hid (HX4.out.ext hs)
   have hx1:=hx.trans hs
   clear hx hs hx0
   have hx:=hx1
   clear hx1
   dsimp only
   by_cases hF4:Um.Lim e4
   ·go_wp2_with fail
    refine (limited15_yes _ hF4).mono ?_
    rintro e u9 ⟨rfl,hx0⟩
    have hs:Ext u8 u9:=Ext.trans (by repeat (first | with_reducible exact Ext.refl _ | with_reducible refine Ext.alloc ?_ _ | with_reducible refine Ext.drew1 ?_)) hx0
    replace HA:=Lib.hid (HA.out.ext hs)
    replace HB:=Lib.hid (HB.out.ext hs)
    replace HT:=Lib.hid (HT.out.ext hs)
    replace HQF:=Lib.hid (HQF.out.ext hs)
    replace HQG:=Lib.hid (HQG.out.ext hs)
    replace HX1:=Lib.hid (HX1.out.ext hs)
    replace HX2:=Lib.hid (HX2.out.ext hs)
    replace HX3:=Lib.hid (HX3.out.ext hs)
    replace HX4:=Lib.hid (HX4.out.ext hs)
    have hx1:=hx.trans hs
    clear hx hs hx0
    have hx:=hx1
    clear hx1
    dsimp only
    go_wp2_with fail
    refine (HAW.out _ (hx.trans (by repeat (first | with_reducible exact Ext.refl _ | with_reducible refine Ext.alloc ?_ _ | with_reducible refine Ext.drew1 ?_)))).mono ?_
    rintro e u10 ⟨rfl,hx0⟩
    have hs:Ext u9 u10:=Ext.trans (by repeat (first | with_reducible exact Ext.refl _ | with_reducible refine Ext.alloc ?_ _ | with_reducible refine Ext.drew1 ?_)) hx0
    replace HA:=Lib.hid (HA.out.ext hs)
    replace HB:=Lib.hid (HB.out.ext hs)
    replace HT:=Lib.hid (HT.out.ext hs)
    replace HQF:=Lib.hid (HQF.out.ext hs)
    replace HQG:=Lib.hid (HQG.out.ext hs)
    replace HX1:=Lib.hid (HX1.out.ext hs)
    replace HX2:=Lib.hid (HX2.out.ext hs)
    replace HX3:=Lib.hid (HX3.out.ext hs)
    replace HX4:=Lib.hid (HX4.out.ext hs)
    have hx1:=hx.trans hs
    clear hx hs hx0
    have hx:=hx1
    clear hx1
    dsimp only
    go_wp2_with fail
    (go_ret;refine Ret.mk ?_ ?_;(focus (rfl;done));(focus (exact EX;done)))
   obtain ⟨rfl,rfl,hrr⟩:e3=0∧e4=0∧r3=r4:=by
    rcases HLW.out with k | k | k
    ·exact (hF3 k).elim
    ·exact (hF4 k).elim
    ·exact k
   subst hrr
   have HL3:Hid (nx3≤200):=Lib.hid (by have :=HLN3.out rfl;have:=HN3.out;(try dsimp only at *);omega)
   have HL4:Hid (nx4≤200):=Lib.hid (by have :=HLN3.out rfl;have:=HN4.out;(try dsimp only at *);omega)
   go_wp2_with fail
   refine (limited15_no _ hF4).mono ?_
   rintro e u9 ⟨rfl,hx0⟩
   have hs:Ext u8 u9:=Ext.trans (by repeat (first | with_reducible exact Ext.refl _ | with_reducible refine Ext.alloc ?_ _ | with_reducible refine Ext.drew1 ?_)) hx0
   replace HA:=Lib.hid (HA.out.ext hs)
   replace HB:=Lib.hid (HB.out.ext hs)
   replace HT:=Lib.hid (HT.out.ext hs)
   replace HQF:=Lib.hid (HQF.out.ext hs)
   replace HQG:=Lib.hid (HQG.out.ext hs)
   replace HX1:=Lib.hid (HX1.out.ext hs)
   replace HX2:=Lib.hid (HX2.out.ext hs)
   replace HX3:=Lib.hid (HX3.out.ext hs)
   replace HX4:=Lib.hid (HX4.out.ext hs)
   have hx1:=hx.trans hs
   clear hx hs hx0
   have hx:=hx1
   clear hx1
   dsimp only
   go_wp2_with fail
   refine (sametree_any X3 X4 nx3 nx4 cx3 cx4 r3 r3 _ (HX3.out.ext (by repeat (first | with_reducible exact Ext.refl _ | with_reducible refine Ext.alloc ?_ _ | with_reducible refine Ext.drew1 ?_))) (HX4.out.ext (by repeat (first | with_reducible exact Ext.refl _ | with_reducible refine Ext.alloc ?_ _ | with_reducible refine Ext.drew1 ?_))) HN3.out.symm HN4.out.symm (by have :=HL3.out;omega) (by have :=HL4.out;omega)).mono ?_
   rintro e u10 ⟨rfl,hx0⟩
   have hs:Ext u9 u10:=Ext.trans (by repeat (first | with_reducible exact Ext.refl _ | with_reducible refine Ext.alloc ?_ _ | with_reducible refine Ext.drew1 ?_)) hx0
   replace HA:=Lib.hid (HA.out.ext hs)
   replace HB:=Lib.hid (HB.out.ext hs)
   replace HT:=Lib.hid (HT.out.ext hs)
   replace HQF:=Lib.hid (HQF.out.ext hs)
   replace HQG:=Lib.hid (HQG.out.ext hs)
   replace HX1:=Lib.hid (HX1.out.ext hs)
   replace HX2:=Lib.hid (HX2.out.ext hs)
   replace HX3:=Lib.hid (HX3.out.ext hs)
   replace HX4:=Lib.hid (HX4.out.ext hs)
   have hx1:=hx.trans hs
   clear hx hs hx0
   have hx:=hx1
   clear hx1
   rw [decide_eq_true rfl]
   go_wp2_with fail
   refine (HAW.out _ (hx.trans (by repeat (first | with_reducible exact Ext.refl _ | with_reducible refine Ext.alloc ?_ _ | with_reducible refine Ext.drew1 ?_)))).mono ?_
   rintro e u11 ⟨rfl,hx0⟩
   have hs:Ext u10 u11:=Ext.trans (by repeat (first | with_reducible exact Ext.refl _ | with_reducible refine Ext.alloc ?_ _ | with_reducible refine Ext.drew1 ?_)) hx0
   replace HA:=Lib.hid (HA.out.ext hs)
   replace HB:=Lib.hid (HB.out.ext hs)
   replace HT:=Lib.hid (HT.out.ext hs)
   replace HQF:=Lib.hid (HQF.out.ext hs)
   replace HQG:=Lib.hid (HQG.out.ext hs)
   replace HX1:=Lib.hid (HX1.out.ext hs)
   replace HX2:=Lib.hid (HX2.out.ext hs)
   replace HX3:=Lib.hid (HX3.out.ext hs)
   replace HX4:=Lib.hid (HX4.out.ext hs)
   have hx1:=hx.trans hs
   clear hx hs hx0
   have hx:=hx1
   clear hx1
   dsimp only
   go_wp2_with fail
   (go_ret;refine Ret.mk ?_ ?_;(focus (rfl;done));(focus (exact EX;done)))
end Go.Proofs.YtfmgnaigcibcaaaGreatDoor
