import Derived.Test.YtfmgnaigcibcaaaGreatDoorTJq
import Derived.Test.YtfmgnaigcibcaaaGreatDoorTWa
import Derived.Test.YtfmgnaigcibcaaaGreatDoorTWd
import Derived.Test.YtfmgnaigcibcaaaGreatDoorTJp
set_option linter.unusedSimpArgs false
set_option linter.unusedVariables false
namespace Go.Proofs.YtfmgnaigcibcaaaGreatDoor
open Go Go.RowKit
attribute [local go_sem ↓] Go.wp_at_zero Go.wp_at_succ
set_option maxHeartbeats 16000000 in
set_option maxRecDepth 100000 in
theorem seqapply_walk (A B:Option Addr) (n cA m cB:Nat) (t:List Pf) (l:List Qp) (w:World) (hg:Glob w) (ht:Trs w A t) (hn:t.length=n) (h:Qs w (fun _=>True) B l) (hm:l.length=m) (hcap:n≤cA) (b1:n≤10000000000000) (b2:m≤1152921504606846976) (hz:∀ f∈t,f.path.size≤140737488355328∧f.data.size≤140737488355328) (mk:∀ q∈l,q.Meek):
 Calls Tryz.prog 4 #[.slice A n cA,.slice B m cB] w (Ret (.bool true) w):=by
 have HT:=Lib.hid ht
 have HL:=Lib.hid h
 have HN:=Lib.hid hn
 have HM:=Lib.hid hm
 have HG:=Lib.hid hg
 have HAW:=Lib.hid (fun W (hW:Ext w W)=>awake14_any W (hg.ext hW))
 have HGR:=Lib.hid (fun W (hW:Ext w W)=>lawgreatT_any A B n cA m cB t l W (ht.ext hW) hn (h.ext hW) hm b1 b2 hz (fun q hq=>⟨(mk q hq).old,(mk q hq).new⟩))
 have HMK:Hid (Small l→∀ q∈l,q.Neat):=Lib.hid fun s q hq=>⟨s.2 q hq,(mk q hq).olds,(mk q hq).news⟩
 clear h ht hn hm mk hg hz
 go_enter Tryz.func4,Tryz.ntmps4
 have hx:=Ext.refl w
 go_wp2_with fail
 refine (HGR.out _ hx).mono ?_
 rintro e u1 ⟨v,rfl,hsm,hx0⟩
 have hs:Ext w u1:=Ext.trans (by repeat (first | with_reducible exact Ext.refl _ | with_reducible refine Ext.alloc ?_ _ | with_reducible refine Ext.drew1 ?_)) hx0
 replace HL:=Lib.hid (HL.out.ext hs)
 replace HT:=Lib.hid (HT.out.ext hs)
 have hx1:=hx.trans hs
 clear hx hs hx0
 have hx:=hx1
 clear hx1
 dsimp only
 have HS:=Lib.hid hsm
 clear hsm HGR
 cases v
 rotate_left
 ·go_wp2_with fail
  refine (HAW.out _ (hx.trans (by repeat (first | with_reducible exact Ext.refl _ | with_reducible refine Ext.alloc ?_ _ | with_reducible refine Ext.drew1 ?_)))).mono ?_
  rintro e u2 ⟨rfl,hx0⟩
  have hs:Ext u1 u2:=Ext.trans (by repeat (first | with_reducible exact Ext.refl _ | with_reducible refine Ext.alloc ?_ _ | with_reducible refine Ext.drew1 ?_)) hx0
  replace HL:=Lib.hid (HL.out.ext hs)
  replace HT:=Lib.hid (HT.out.ext hs)
  have hx1:=hx.trans hs
  clear hx hs hx0
  have hx:=hx1
  clear hx1
  dsimp only
  go_wp2_with fail
  (go_ret;refine Ret.mk ?_ ?_;(focus (rfl;done));(focus (exact EX;done)))
 have S1:Small l:=HS.out rfl
 have F1:=Lib.hid S1.fits
 have m8:m≤8:=by have :=S1.1;have:=HM.out;omega
 have HNE:=Lib.hid (HMK.out S1)
 clear HS S1 HMK
 have HLN:Hid ((Um.apply t l).2.2=0→(Um.apply t l).1.length≤200):=Lib.hid apply_all_len
 have HLE:Hid ((Um.apply t l).2.2≠0→(Um.apply t l).1=[]):=Lib.hid apply_all_err
 have HA1:=Lib.hid (fun W (hT:Trs W A t) (hQ:Qs W (fun _=>True) B l) (hG:Glob W)=>seqapply_any A B n cA m cB t l W hG hT HN.out hQ HM.out b1 (by omega) F1.out)
 have HA2:=Lib.hid (fun W (hT:Trs W A t) (hQ:Qs W (fun _=>True) B l)=>rseqapply_any A B n cA m cB t l W hT HN.out hcap hQ HM.out b1 (by omega) HNE.out)
 generalize Um.apply t l=R1 at HA1 HA2 HLN HLE
 obtain ⟨r1,k1,e1⟩:=R1
 dsimp only at HLN HLE
 have HL1:Hid (r1.length≤200):=Lib.hid ((Decidable.em (e1=0)).elim (fun z=>HLN.out z) (fun z=>by rw [HLE.out z];exact Nat.zero_le _))
 go_wp2_with fail
 refine (HA1.out _ (HT.out.ext (by repeat (first | with_reducible exact Ext.refl _ | with_reducible refine Ext.alloc ?_ _ | with_reducible refine Ext.drew1 ?_))) (HL.out.ext (by repeat (first | with_reducible exact Ext.refl _ | with_reducible refine Ext.alloc ?_ _ | with_reducible refine Ext.drew1 ?_))) (HG.out.ext (hx.trans (by repeat (first | with_reducible exact Ext.refl _ | with_reducible refine Ext.alloc ?_ _ | with_reducible refine Ext.drew1 ?_))))).mono ?_
 rintro e u2 ⟨X1,nx1,cx1,rfl,hnx1,hX1,hx0⟩
 have hs:Ext u1 u2:=Ext.trans (by repeat (first | with_reducible exact Ext.refl _ | with_reducible refine Ext.alloc ?_ _ | with_reducible refine Ext.drew1 ?_)) hx0
 replace HL:=Lib.hid (HL.out.ext hs)
 replace HT:=Lib.hid (HT.out.ext hs)
 have hx1:=hx.trans hs
 clear hx hs hx0
 have hx:=hx1
 clear hx1
 dsimp only
 have HX1:=hX1
 have HN1:=Lib.hid hnx1
 clear hX1 hnx1 HA1
 go_wp2_with fail
 refine (HA2.out _ (HT.out.ext (by repeat (first | with_reducible exact Ext.refl _ | with_reducible refine Ext.alloc ?_ _ | with_reducible refine Ext.drew1 ?_))) (HL.out.ext (by repeat (first | with_reducible exact Ext.refl _ | with_reducible refine Ext.alloc ?_ _ | with_reducible refine Ext.drew1 ?_)))).mono ?_
 rintro e u3 ⟨X2,nx2,cx2,rfl,hnx2,hX2,hx0⟩
 have hs:Ext u2 u3:=Ext.trans (by repeat (first | with_reducible exact Ext.refl _ | with_reducible refine Ext.alloc ?_ _ | with_reducible refine Ext.drew1 ?_)) hx0
 replace HL:=Lib.hid (HL.out.ext hs)
 replace HT:=Lib.hid (HT.out.ext hs)
 replace HX1:=Lib.hid (HX1.out.ext hs)
 have hx1:=hx.trans hs
 clear hx hs hx0
 have hx:=hx1
 clear hx1
 dsimp only
 have HX2:=hX2
 have HN2:=Lib.hid hnx2
 clear hX2 hnx2 HA2
 have HS1:Hid (nx1≤200):=Lib.hid (by have :=HL1.out;have:=HN1.out;dsimp only at *;omega)
 have HS2:Hid (nx2≤200):=Lib.hid (by have :=HL1.out;have:=HN2.out;dsimp only at *;omega)
 go_wp2_with fail
 refine (seqinvert_ex B m cB l _ (HG.out.ext (hx.trans (by repeat (first | with_reducible exact Ext.refl _ | with_reducible refine Ext.alloc ?_ _ | with_reducible refine Ext.drew1 ?_)))) (HL.out.ext (by repeat (first | with_reducible exact Ext.refl _ | with_reducible refine Ext.alloc ?_ _ | with_reducible refine Ext.drew1 ?_))) HM.out (by omega) F1.out).mono ?_
 rintro e u4 ⟨hres,hx0⟩
 have hs:Ext u3 u4:=Ext.trans (by repeat (first | with_reducible exact Ext.refl _ | with_reducible refine Ext.alloc ?_ _ | with_reducible refine Ext.drew1 ?_)) hx0
 replace HL:=Lib.hid (HL.out.ext hs)
 replace HT:=Lib.hid (HT.out.ext hs)
 replace HX1:=Lib.hid (HX1.out.ext hs)
 replace HX2:=Lib.hid (HX2.out.ext hs)
 have hx1:=hx.trans hs
 clear hx hs hx0
 have hx:=hx1
 clear hx1
 rcases hres with ⟨hno,hne,rfl⟩ | ⟨hok,C,cC,rfl,hQ⟩
 ·have HNO:=Lib.hid hno
  clear hno
  go_wp2_with fail
  refine (rseqinvert_any B m cB l _ (HL.out.ext (by repeat (first | with_reducible exact Ext.refl _ | with_reducible refine Ext.alloc ?_ _ | with_reducible refine Ext.drew1 ?_))) HM.out (by omega) HNE.out).mono ?_
  rintro e u5 ⟨hres,hx0⟩
  have hs:Ext u4 u5:=Ext.trans (by repeat (first | with_reducible exact Ext.refl _ | with_reducible refine Ext.alloc ?_ _ | with_reducible refine Ext.drew1 ?_)) hx0
  replace HL:=Lib.hid (HL.out.ext hs)
  replace HT:=Lib.hid (HT.out.ext hs)
  replace HX1:=Lib.hid (HX1.out.ext hs)
  replace HX2:=Lib.hid (HX2.out.ext hs)
  have hx1:=hx.trans hs
  clear hx hs hx0
  have hx:=hx1
  clear hx1
  rcases hres with ⟨_,_,rfl⟩ | ⟨hok,_⟩
  rotate_left
  ·exact (HNO.out hok).elim
  generalize Sq.invErr l=ke at *
  go_wp2_with fail
  refine (sametree_any X1 X2 nx1 nx2 cx1 cx2 r1 r1 _ (HX1.out.ext (by repeat (first | with_reducible exact Ext.refl _ | with_reducible refine Ext.alloc ?_ _ | with_reducible refine Ext.drew1 ?_))) (HX2.out.ext (by repeat (first | with_reducible exact Ext.refl _ | with_reducible refine Ext.alloc ?_ _ | with_reducible refine Ext.drew1 ?_))) HN1.out.symm HN2.out.symm (by have :=HS1.out;omega) (by have :=HS2.out;omega)).mono ?_
  rintro e u6 ⟨rfl,hx0⟩
  have hs:Ext u5 u6:=Ext.trans (by repeat (first | with_reducible exact Ext.refl _ | with_reducible refine Ext.alloc ?_ _ | with_reducible refine Ext.drew1 ?_)) hx0
  replace HL:=Lib.hid (HL.out.ext hs)
  replace HT:=Lib.hid (HT.out.ext hs)
  replace HX1:=Lib.hid (HX1.out.ext hs)
  replace HX2:=Lib.hid (HX2.out.ext hs)
  have hx1:=hx.trans hs
  clear hx hs hx0
  have hx:=hx1
  clear hx1
  rw [decide_eq_true rfl]
  go_wp2_with fail
  refine (samelist_true none none 0 0 0 [] _ (Qs.nil _ (fun _=>True) none) (Qs.nil _ (fun _=>True) none) rfl (by omega) (by simp)).mono ?_
  rintro e u7 ⟨rfl,hx0⟩
  have hs:Ext u6 u7:=Ext.trans (by repeat (first | with_reducible exact Ext.refl _ | with_reducible refine Ext.alloc ?_ _ | with_reducible refine Ext.drew1 ?_)) hx0
  replace HL:=Lib.hid (HL.out.ext hs)
  replace HT:=Lib.hid (HT.out.ext hs)
  replace HX1:=Lib.hid (HX1.out.ext hs)
  replace HX2:=Lib.hid (HX2.out.ext hs)
  have hx1:=hx.trans hs
  clear hx hs hx0
  have hx:=hx1
  clear hx1
  dsimp only
  go_wp2_with fail
  refine (HAW.out _ (hx.trans (by repeat (first | with_reducible exact Ext.refl _ | with_reducible refine Ext.alloc ?_ _ | with_reducible refine Ext.drew1 ?_)))).mono ?_
  rintro e u8 ⟨rfl,hx0⟩
  have hs:Ext u7 u8:=Ext.trans (by repeat (first | with_reducible exact Ext.refl _ | with_reducible refine Ext.alloc ?_ _ | with_reducible refine Ext.drew1 ?_)) hx0
  replace HL:=Lib.hid (HL.out.ext hs)
  replace HT:=Lib.hid (HT.out.ext hs)
  replace HX1:=Lib.hid (HX1.out.ext hs)
  replace HX2:=Lib.hid (HX2.out.ext hs)
  have hx1:=hx.trans hs
  clear hx hs hx0
  have hx:=hx1
  clear hx1
  dsimp only
  go_wp2_with fail
  (go_ret;refine Ret.mk ?_ ?_;(focus (rfl;done));(focus (exact EX;done)))
 ·have HQC:=hQ
  have HOK:=Lib.hid hok
  have HML:Hid ((Sq.invert l).length=m):=Lib.hid (by unfold Sq.invert;rw [List.length_reverse,List.length_map,HM.out])
  have HIO:=Lib.hid (Um.invert_ok hok)
  clear hQ hok
  go_wp2_with fail
  refine (rseqinvert_any B m cB l _ (HL.out.ext (by repeat (first | with_reducible exact Ext.refl _ | with_reducible refine Ext.alloc ?_ _ | with_reducible refine Ext.drew1 ?_))) HM.out (by omega) HNE.out).mono ?_
  rintro e u5 ⟨hres,hx0⟩
  have hs:Ext u4 u5:=Ext.trans (by repeat (first | with_reducible exact Ext.refl _ | with_reducible refine Ext.alloc ?_ _ | with_reducible refine Ext.drew1 ?_)) hx0
  replace HL:=Lib.hid (HL.out.ext hs)
  replace HT:=Lib.hid (HT.out.ext hs)
  replace HX1:=Lib.hid (HX1.out.ext hs)
  replace HX2:=Lib.hid (HX2.out.ext hs)
  replace HQC:=Lib.hid (HQC.out.ext hs)
  have hx1:=hx.trans hs
  clear hx hs hx0
  have hx:=hx1
  clear hx1
  rcases hres with ⟨hno,_⟩ | ⟨_,D,cD,rfl,hQ⟩
  ·exact (hno HOK.out).elim
  have HQD:=hQ
  clear hQ
  go_wp2_with fail
  refine (sametree_any X1 X2 nx1 nx2 cx1 cx2 r1 r1 _ (HX1.out.ext (by repeat (first | with_reducible exact Ext.refl _ | with_reducible refine Ext.alloc ?_ _ | with_reducible refine Ext.drew1 ?_))) (HX2.out.ext (by repeat (first | with_reducible exact Ext.refl _ | with_reducible refine Ext.alloc ?_ _ | with_reducible refine Ext.drew1 ?_))) HN1.out.symm HN2.out.symm (by have :=HS1.out;omega) (by have :=HS2.out;omega)).mono ?_
  rintro e u6 ⟨rfl,hx0⟩
  have hs:Ext u5 u6:=Ext.trans (by repeat (first | with_reducible exact Ext.refl _ | with_reducible refine Ext.alloc ?_ _ | with_reducible refine Ext.drew1 ?_)) hx0
  replace HL:=Lib.hid (HL.out.ext hs)
  replace HT:=Lib.hid (HT.out.ext hs)
  replace HX1:=Lib.hid (HX1.out.ext hs)
  replace HX2:=Lib.hid (HX2.out.ext hs)
  replace HQC:=Lib.hid (HQC.out.ext hs)
  replace HQD:=Lib.hid (HQD.out.ext hs)
  have hx1:=hx.trans hs
  clear hx hs hx0
  have hx:=hx1
  clear hx1
  rw [decide_eq_true rfl]
  go_wp2_with fail
  refine (samelist_true C D m cC cD (Sq.invert l) _ (HQC.out.ext (by repeat (first | with_reducible exact Ext.refl _ | with_reducible refine Ext.alloc ?_ _ | with_reducible refine Ext.drew1 ?_))) (HQD.out.ext (by repeat (first | with_reducible exact Ext.refl _ | with_reducible refine Ext.alloc ?_ _ | with_reducible refine Ext.drew1 ?_))) HML.out (by omega) (fun q hq=>check_fits (HIO.out q hq))).mono ?_
  rintro e u7 ⟨rfl,hx0⟩
  have hs:Ext u6 u7:=Ext.trans (by repeat (first | with_reducible exact Ext.refl _ | with_reducible refine Ext.alloc ?_ _ | with_reducible refine Ext.drew1 ?_)) hx0
  replace HL:=Lib.hid (HL.out.ext hs)
  replace HT:=Lib.hid (HT.out.ext hs)
  replace HX1:=Lib.hid (HX1.out.ext hs)
  replace HX2:=Lib.hid (HX2.out.ext hs)
  replace HQC:=Lib.hid (HQC.out.ext hs)
  replace HQD:=Lib.hid (HQD.out.ext hs)
  have hx1:=hx.trans hs
  clear hx hs hx0
  have hx:=hx1
  clear hx1
  dsimp only
  go_wp2_with fail
  refine (HAW.out _ (hx.trans (by repeat (first | with_reducible exact Ext.refl _ | with_reducible refine Ext.alloc ?_ _ | with_reducible refine Ext.drew1 ?_)))).mono ?_
  rintro e u8 ⟨rfl,hx0⟩
  have hs:Ext u7 u8:=Ext.trans (by repeat (first | with_reducible exact Ext.refl _ | with_reducible refine Ext.alloc ?_ _ | with_reducible refine Ext.drew1 ?_)) hx0
  replace HL:=Lib.hid (HL.out.ext hs)
  replace HT:=Lib.hid (HT.out.ext hs)
  replace HX1:=Lib.hid (HX1.out.ext hs)
  replace HX2:=Lib.hid (HX2.out.ext hs)
  replace HQC:=Lib.hid (HQC.out.ext hs)
  replace HQD:=Lib.hid (HQD.out.ext hs)
  have hx1:=hx.trans hs
  clear hx hs hx0
  have hx:=hx1
  clear hx1
  dsimp only
  go_wp2_with fail
  (go_ret;refine Ret.mk ?_ ?_;(focus (rfl;done));(focus (exact EX;done)))
end Go.Proofs.YtfmgnaigcibcaaaGreatDoor
