import Derived.Test.YtlbhaimfjfdppaaGreatDoorJR
set_option linter.unusedSimpArgs false
set_option linter.unusedVariables false
namespace Go.Proofs.YtlbhaimfjfdppaaGreatDoor
open Go.RowKit Pa
set_option maxHeartbeats 16000000 in
set_option maxRecDepth 100000 in
theorem rex2k (p p':Pv) (a b:Qp) (w:World) {F:Nat→Prop} (ha:Is w F p a) (hb:Is w F p' b) (hca:a.check=0) (hcb:b.check=0) (h4:Rq.ok4 a b=true) (h5:Rq.ok5 a b=true) (h6:Rq.ok6 a b=false) (hkb:(b.kind == 4)=true):
 Calls Tryz.prog 70 #[p.v,p'.v] w (GivesIf F (a.run b) w):=by
 have HA:=Lib.hid ha
 have HB:=Lib.hid hb
 obtain ⟨A1,c1,A2,c2,rfl,fa⟩:=ha
 obtain ⟨B1,d1,B2,d2,rfl,fb⟩:=hb
 have sa:=Qp.bounds hca
 have sb:=Qp.bounds hcb
 have si:=Qp.inv_bounds hca
 have na:=Qp.small hca
 have nb:=Qp.small hcb
 have la:=lines_small hca
 have lb:=lines_small hcb
 have ka:=(check_parts hca).1
 obtain ⟨sa1,sa2,sa3,sa4,sa5,sa6⟩:=sa
 obtain ⟨sb1,sb2,sb3,sb4,sb5,sb6⟩:=sb
 have hI:∀ W,Ext w W→Calls Tryz.prog 59 #[(a.pv A1 c1 A2 c2).v] W (Ret (.tuple #[(a.inv.pv A2 c2 A1 c1).v,.int .i64 0]) W):=fun W hW=>by
  rw [← rinv_pv hca A1 c1 A2 c2]
  exact rinv_any _ W ka (fun W' hW'=>by
   have h:=rcheck_q _ a W' (HA.out.ext (hW.trans hW')) (by omega) (by omega) (by omega) (by omega) la.1 la.2
   rw [hca] at h
   exact h)
 have hM1:∀ W,Calls Tryz.prog 89 #[(b.pv B1 d1 B2 d2).v,(a.inv.pv A2 c2 A1 c1).v] W (Ret (.tuple #[((Rq.moved b a.inv).1.pv B1 d1 B2 d2).v,.bool (Rq.moved b a.inv).2]) W):=fun W=>by
  have h:=rmoved_any (b.pv B1 d1 B2 d2) (a.inv.pv A2 c2 A1 c1) W (by show a.inv.path.size≤_;omega) (by show a.inv.to_.size≤_;omega) (by show b.path.size≤_;omega) (by show b.to_.size≤_;omega)
  rw [rmoved_pv] at h
  exact h
 have hok:=rok_run hca hcb
 have hval:=ok_run hca hcb
 unfold Rq.ok at hok hval
 unfold Rq.ok4 at h4
 unfold Rq.ok5 at h5
 unfold Rq.ok6 at h6
 have szC:=rmoved_small b a.inv 200 (by omega) (by omega) (by omega)
 have oC:(Rq.moved b a.inv).1.old=b.old∧(Rq.moved b a.inv).1.new=b.new∧(Rq.moved b a.inv).1.at_=b.at_∧(Rq.moved b a.inv).1.kind=b.kind:=⟨rfl,rfl,rfl,rfl⟩
 generalize Rq.moved b a.inv=C at hM1 hok hval szC oC h4 h5 h6
 have hM2:∀ W,Calls Tryz.prog 89 #[(a.pv A1 c1 A2 c2).v,(C.1.pv B1 d1 B2 d2).v] W (Ret (.tuple #[((Rq.moved a C.1).1.pv A1 c1 A2 c2).v,.bool (Rq.moved a C.1).2]) W):=fun W=>by
  have h:=rmoved_any (a.pv A1 c1 A2 c2) (C.1.pv B1 d1 B2 d2) W (by show C.1.path.size≤_;omega) (by show C.1.to_.size≤_;omega) (by show a.path.size≤_;omega) (by show a.to_.size≤_;omega)
  rw [rmoved_pv] at h
  exact h
 have szD:=rmoved_small a C.1 600 (by omega) (by omega) (by omega)
 have oD:(Rq.moved a C.1).1.old=a.old∧(Rq.moved a C.1).1.new=a.new∧(Rq.moved a C.1).1.at_=a.at_∧(Rq.moved a C.1).1.kind=a.kind:=⟨rfl,rfl,rfl,rfl⟩
 have hx:Qm.adds a.kind=false→Qm.eqB a.path C.1.path=true→b.kind=2→(Rq.moved a C.1).2=true→6≤a.kind:=fun h1 h2 h3 h4=>by
  rw [removal_met h1 (by rw [oC.2.2.2,h3]) h2] at h4
  cases h4
 generalize Rq.moved a C.1=D at hM2 hok hval szD oD hx h5
 obtain ⟨C,k1⟩:=C
 obtain ⟨D,k2⟩:=D
 dsimp only at hM1 hM2 hok hval szC oC szD oD hx h4 h5 h6
 have hcp:=contents_pv a b C D A1 c1 A2 c2 B1 d1 B2 d2 ⟨oC.1,oC.2.1,oC.2.2.1⟩ ⟨oD.1,oD.2.1,oD.2.2.1⟩
 have hcs:=contents_same a b C D
 have hX:k2=true→∀ W,Calls Tryz.prog 92 #[(a.pv A1 c1 A2 c2).v,(b.pv B1 d1 B2 d2).v,(C.pv B1 d1 B2 d2).v,(D.pv A1 c1 A2 c2).v] W (Ret (.tuple #[(Pv.xcontents (a.pv A1 c1 A2 c2) (b.pv B1 d1 B2 d2) (C.pv B1 d1 B2 d2) (D.pv A1 c1 A2 c2)).1.v,(Pv.xcontents (a.pv A1 c1 A2 c2) (b.pv B1 d1 B2 d2) (C.pv B1 d1 B2 d2) (D.pv A1 c1 A2 c2)).2.1.v,.bool (Pv.xcontents (a.pv A1 c1 A2 c2) (b.pv B1 d1 B2 d2) (C.pv B1 d1 B2 d2) (D.pv A1 c1 A2 c2)).2.2]) W):=
  fun h W=>rxcontent_any _ _ _ _ W ka (fun h1 h2 h3=>hx h1 h2 h3 h) sa3 sa4 sb3 sb4 sa5 sa6 sb5 sb6 ⟨by show a.old.length≤_;omega,by show a.new.length≤_;omega⟩ ⟨by show b.old.length≤_;omega,by show b.new.length≤_;omega⟩
 generalize Pv.xcontents (a.pv A1 c1 A2 c2) (b.pv B1 d1 B2 d2) (C.pv B1 d1 B2 d2) (D.pv A1 c1 A2 c2)=Y at hX hcp
 generalize Qp.contents a b C D=E at hcp hcs hok hval
 obtain ⟨E1,E2,e6⟩:=E
 obtain ⟨Y1,Y2,k6⟩:=Y
 dsimp only at hcp hcs hX hok hval
 obtain ⟨hcp0,hcp1⟩:=hcp
 subst hcp0
 have iC:Is w F (C.pv B1 d1 B2 d2) C:=⟨B1,d1,B2,d2,rfl,by rw [oC.1,oC.2.1];exact fb⟩
 have ie1:Is w F (E1.pv B1 d1 B2 d2) E1:=by
  refine ⟨B1,d1,B2,d2,rfl,?_⟩
  rw [hcs.1.1,hcs.1.2.1,oC.1,oC.2.1]
  exact fb
 have ie2:Is w F (E2.pv A1 c1 A2 c2) E2:=by
  refine ⟨A1,c1,A2,c2,rfl,?_⟩
  rw [hcs.2.1,hcs.2.2.1,oD.1,oD.2.1]
  exact fa
 have q0:∀ W,Ext w W→Calls Tryz.prog 69 #[(C.pv B1 d1 B2 d2).v] W (Ret (.int .i64 C.check) W):=fun W hW=>
  rcheck_q _ C W (iC.ext hW) (by rw [oC.1];omega) (by rw [oC.2.1];omega) (by omega) (by omega) (by rw [oC.1];exact lb.1) (by rw [oC.2.1];exact lb.2)
 have q1:∀ W,Ext w W→Calls Tryz.prog 69 #[(E1.pv B1 d1 B2 d2).v] W (Ret (.int .i64 E1.check) W):=fun W hW=>
  rcheck_q _ E1 W (ie1.ext hW) (by rw [hcs.1.1,oC.1];omega) (by rw [hcs.1.2.1,oC.2.1];omega) (by rw [hcs.1.2.2.1];omega) (by rw [hcs.1.2.2.2];omega) (by rw [hcs.1.1,oC.1];exact lb.1) (by rw [hcs.1.2.1,oC.2.1];exact lb.2)
 have q2:∀ W,Ext w W→Calls Tryz.prog 69 #[(E2.pv A1 c1 A2 c2).v] W (Ret (.int .i64 E2.check) W):=fun W hW=>
  rcheck_q _ E2 W (ie2.ext hW) (by rw [hcs.2.1,oD.1];omega) (by rw [hcs.2.2.1,oD.2.1];omega) (by rw [hcs.2.2.2.1];omega) (by rw [hcs.2.2.2.2];omega) (by rw [hcs.2.1,oD.1];exact la.1) (by rw [hcs.2.2.1,oD.2.1];exact la.2)
 have hFb:∀ W,Calls Tryz.prog 90 #[(b.pv B1 d1 B2 d2).v] W (Ret (.string (Rq.fresh b)) W):=fun W=>rfresh_any _ W
 have hFa:∀ W,Calls Tryz.prog 90 #[(a.pv A1 c1 A2 c2).v] W (Ret (.string (Rq.fresh a)) W):=fun W=>rfresh_any _ W
 have hFC:∀ W,Calls Tryz.prog 90 #[(C.pv B1 d1 B2 d2).v] W (Ret (.string (Rq.fresh C)) W):=fun W=>rfresh_any _ W
 have hFD:∀ W,Calls Tryz.prog 90 #[(D.pv A1 c1 A2 c2).v] W (Ret (.string (Rq.fresh D)) W):=fun W=>rfresh_any _ W
 have hfr:∀ W,Calls Tryz.prog 91 #[(a.pv A1 c1 A2 c2).v] W (Ret (.bool (Qm.frees a.kind)) W):=fun W=>rfrees_any _ W
 have hbe:∀ W,Calls Tryz.prog 85 #[.string a.path,.string C.path] W (Ret (.bool (Qm.below a.path C.path)) W):=fun W=>rbelow_any _ _ W (by omega)
 have hem:Qp.empty a b C=(b.kind != 4 || (!Qm.frees a.kind || !Qm.below a.path C.path)):=rfl
 have hmo:Qp.moves a b=(a.kind != 5 || (b.kind != 5 || !Qm.eqB a.to_ b.path)):=rfl
 generalize Qp.empty a b C=k4 at hok hval hem h6
 generalize Qp.moves a b=k5 at hok hval hmo h6
 generalize Qm.frees a.kind=fr at hok hval hfr hem h4
 generalize Qm.below a.path C.path=be at hbe hem
 generalize Rq.fresh b=nb' at hok hval hFb h4
 generalize Rq.fresh a=na' at hok hval hFa h4
 generalize Rq.fresh C=nC at hok hval hFC h4 h5
 generalize Rq.fresh D=nD at hok hval hFD h5
 have ee:(ByteArray.mk #[]).toList=([]:List UInt8):=by rw [ByteArray.toList_eq]
 obtain ⟨g1,hg1⟩:∃ g1:Bool,g1=(!(nb'.toList == ([]:List UInt8)) && ((fr && (nC.toList == a.path.toList)) || (nb'.toList == na'.toList))):=⟨_,rfl⟩
 obtain ⟨g2,hg2⟩:∃ g2:Bool,g2=(!(nD.toList == ([]:List UInt8)) && (nD.toList == nC.toList)):=⟨_,rfl⟩
 unfold Qm.eqB at hok hval hmo h4 h5
 rw [ee,← hg1,← hg2] at hok hval
 rw [ee,← hg1] at h4
 rw [ee,← hg2] at h5
 generalize a.run b=R at hok hval ⊢
 have HI:=Lib.hid hI
 have H4:=Lib.hid h4
 have H5:=Lib.hid h5
 have H6:=Lib.hid h6
 have HKB:=Lib.hid hkb
 have HM1:=Lib.hid hM1
 have HM2:=Lib.hid hM2
 have HX:=Lib.hid hX
 have Q0:=Lib.hid q0
 have Q1:=Lib.hid q1
 have Q2:=Lib.hid q2
 dsimp only [Pv.v,Qp.pv] at hFb hFa hFC hFD hfr
 have HFb:=Lib.hid hFb
 have HFa:=Lib.hid hFa
 have HFC:=Lib.hid hFC
 have HFD:=Lib.hid hFD
 have HFR:=Lib.hid hfr
 have HBE:=Lib.hid hbe
 have HEM:=Lib.hid hem
 have HMO:=Lib.hid hmo
 have HY:=Lib.hid hcp1
 have HOK:=Lib.hid hok
 have HG1:=Lib.hid hg1
 have HG2:=Lib.hid hg2
 have HVAL:=Lib.hid hval
 have IE1:=Lib.hid ie1
 have IE2:=Lib.hid ie2
 clear h4 h5 h6 hkb ee hg1 hg2 hI hM1 hM2 hX q0 q1 q2 hFb hFa hFC hFD hfr hbe hem hmo hcp1 hok hval ie1 ie2 iC fa fb sa1 sa2 sa3 sa4 sa5 sa6 sb1 sb2 sb3 sb4 sb5 sb6 si na nb la lb ka szC szD oC oD hx hcs hca hcb HA HB
 go_enter Tryz.func70,Tryz.ntmps70
 have hx:=Ext.refl w
 go_wp2_with fail
 refine (HI.out _ EX).mono ?_
 rintro e w1 ⟨rfl,hx0⟩
 have hy:=Ext.trans (a:=w) EX hx0;clear hx;have hx:=hy;clear hy;have hn0:=BB hx0 (w.heap.size);have hn1:=BB hx0 (w.heap.size+1);have hn2:=BB hx0 (w.heap.size+1+1);have hn3:=BB hx0 (w.heap.size+1+1+1);(first | simp [↓heap_drew_at,↓heap_drewN_at,↓heap_alloc_at,↓heap_set_at,ne_two,ne_three,ne_two_left,ne_three_left,↓hb0.eq,hb0.lt,hb0.ne,↓hb1.eq,hb1.lt,hb1.ne,↓hb2.eq,hb2.lt,hb2.ne,↓hb3.eq,hb3.lt,hb3.ne] at hn0 hn1 hn2 hn3 | simp [↓heap_drew_at,↓heap_drewN_at,↓heap_alloc_at,↓heap_set_at,ne_two,ne_three,ne_two_left,ne_three_left] at hn0 hn1 hn2 hn3);(try clear hb0 hc0 hf0 hl0);(try clear hb1 hc1 hf1 hl1);(try clear hb2 hc2 hf2 hl2);(try clear hb3 hc3 hf3 hl3);have hb0:=Blk.mk hn0;clear hn0;obtain ⟨hc0,hf0,hl0⟩:=hb0.all;have hb1:=Blk.mk hn1;clear hn1;obtain ⟨hc1,hf1,hl1⟩:=hb1.all;have hb2:=Blk.mk hn2;clear hn2;obtain ⟨hc2,hf2,hl2⟩:=hb2.all;have hb3:=Blk.mk hn3;clear hn3;obtain ⟨hc3,hf3,hl3⟩:=hb3.all;(try clear hx0)
 go_wp2_with fail
 refine (HM1.out _).mono ?_
 rintro e w2 ⟨rfl,hx0⟩
 have hy:=Ext.trans (a:=w) EX hx0;clear hx;have hx:=hy;clear hy;have hn0:=BB hx0 (w.heap.size);have hn1:=BB hx0 (w.heap.size+1);have hn2:=BB hx0 (w.heap.size+1+1);have hn3:=BB hx0 (w.heap.size+1+1+1);(first | simp [↓heap_drew_at,↓heap_drewN_at,↓heap_alloc_at,↓heap_set_at,ne_two,ne_three,ne_two_left,ne_three_left,↓hb0.eq,hb0.lt,hb0.ne,↓hb1.eq,hb1.lt,hb1.ne,↓hb2.eq,hb2.lt,hb2.ne,↓hb3.eq,hb3.lt,hb3.ne] at hn0 hn1 hn2 hn3 | simp [↓heap_drew_at,↓heap_drewN_at,↓heap_alloc_at,↓heap_set_at,ne_two,ne_three,ne_two_left,ne_three_left] at hn0 hn1 hn2 hn3);(try clear hb0 hc0 hf0 hl0);(try clear hb1 hc1 hf1 hl1);(try clear hb2 hc2 hf2 hl2);(try clear hb3 hc3 hf3 hl3);have hb0:=Blk.mk hn0;clear hn0;obtain ⟨hc0,hf0,hl0⟩:=hb0.all;have hb1:=Blk.mk hn1;clear hn1;obtain ⟨hc1,hf1,hl1⟩:=hb1.all;have hb2:=Blk.mk hn2;clear hn2;obtain ⟨hc2,hf2,hl2⟩:=hb2.all;have hb3:=Blk.mk hn3;clear hn3;obtain ⟨hc3,hf3,hl3⟩:=hb3.all;(try clear hx0)
 cases k1
 ·have h:=H4.out
  simp at h
 have hX4:=hl3
 go_wp2_with fail
 refine (Q0.out _ EX).mono ?_
 rintro e w3 ⟨rfl,hx0⟩
 have hbX:=Blk.ext hx0 (Blk.new' rfl)
 have hy:=Ext.trans (a:=w) EX hx0;clear hx;have hx:=hy;clear hy;have hn0:=BB hx0 (w.heap.size);have hn1:=BB hx0 (w.heap.size+1);have hn2:=BB hx0 (w.heap.size+1+1);have hn3:=BB hx0 (w.heap.size+1+1+1);(first | simp [↓heap_drew_at,↓heap_drewN_at,↓heap_alloc_at,↓heap_set_at,ne_two,ne_three,ne_two_left,ne_three_left,↓hb0.eq,hb0.lt,hb0.ne,↓hb1.eq,hb1.lt,hb1.ne,↓hb2.eq,hb2.lt,hb2.ne,↓hb3.eq,hb3.lt,hb3.ne] at hn0 hn1 hn2 hn3 | simp [↓heap_drew_at,↓heap_drewN_at,↓heap_alloc_at,↓heap_set_at,ne_two,ne_three,ne_two_left,ne_three_left] at hn0 hn1 hn2 hn3);(try clear hb0 hc0 hf0 hl0);(try clear hb1 hc1 hf1 hl1);(try clear hb2 hc2 hf2 hl2);(try clear hb3 hc3 hf3 hl3);have hb0:=Blk.mk hn0;clear hn0;obtain ⟨hc0,hf0,hl0⟩:=hb0.all;have hb1:=Blk.mk hn1;clear hn1;obtain ⟨hc1,hf1,hl1⟩:=hb1.all;have hb2:=Blk.mk hn2;clear hn2;obtain ⟨hc2,hf2,hl2⟩:=hb2.all;have hb3:=Blk.mk hn3;clear hn3;obtain ⟨hc3,hf3,hl3⟩:=hb3.all;(try clear hx0)
 obtain ⟨bX,hbe⟩:∃ n,n=w2.heap.size:=⟨_,rfl⟩
 rw [← hbe] at hbX hX4 ⊢
 have HBX:=Lib.hid hbe
 clear hbe
 have hcX:=hbX.cell
 have hfX:=hbX.frozen
 have hlX2:=hbX.lt
 by_cases zc:C.check=0
 rotate_left
 ·have h:=H4.out
  simp [zc] at h
 have ZC:=Lib.hid zc
 rw [ZC.out]
 clear zc
 go_upto_region 5 with fail
 go_cut [52] (fun u wx=>Ext w3 wx∧u=.bool g1)
 case first=>
  have hg:=HG1.out
  have hgv:g1=false:=by
   have h:=H4.out
   rw [ZC.out] at h
   revert h
   cases g1 <;> simp
  have HC0:=Lib.hid (fun W (hW:Ext w3 W)=>(hb0.ext hW).cell)
  have HC1:=Lib.hid (fun W (hW:Ext w3 W)=>(hb1.ext hW).cell)
  have HC2:=Lib.hid (fun W (hW:Ext w3 W)=>(hbX.ext hW).cell)
  clear HG1 HOK HVAL HM1 HM2 HX HEM HMO HI Q0 Q1 Q2 HY HBE IE1 IE2 HBX hb0 hb1 hb2 hb3 hc0 hc1 hc2 hc3 hf0 hf1 hf2 hf3 hl0 hl1 hl2 hl3 hbX hcX hfX hX4 hlX2 HG2
  cases e1:(nb'.toList == ([]:List UInt8))
  ·cases fr
   ·cases e3:(nb'.toList == na'.toList)
    ·skip
     rw [e1,e3] at hg
     have HG:=Lib.hid hg
     clear hg
     refine wp_region_ext (by kernel_rfl) (by kernel_rfl) ?_
     repeat (first | go_big_quiet_skip | (go_big_quiet_want;first | (go_big_quiet_op;go_big_quiet_on) | (apply quiet_at;intro W hW;have hc0:=HC0.out W hW;have hc1:=HC1.out W hW;have hc2:=HC2.out W hW;go_simp;(first | exact rfl | (simp only [Oper.quietUpon,true_and];first | exact rfl | ((first | (go_at_call 90;first | with_reducible exact quiet_call hW (HFb.out _) (fun _ _ h=>Ret.bcell h) | with_reducible exact quiet_call hW (HFa.out _) (fun _ _ h=>Ret.bcell h) | with_reducible exact quiet_call hW (HFC.out _) (fun _ _ h=>Ret.bcell h)) | (go_at_call 91;with_reducible exact quiet_call hW (HFR.out _) (fun _ _ h=>Ret.bcell h))))) | ((first | (go_at_call 90;first | with_reducible exact quiet_call hW (HFb.out _) (fun _ _ h=>Ret.bcell h) | with_reducible exact quiet_call hW (HFa.out _) (fun _ _ h=>Ret.bcell h) | with_reducible exact quiet_call hW (HFC.out _) (fun _ _ h=>Ret.bcell h)) | (go_at_call 91;with_reducible exact quiet_call hW (HFR.out _) (fun _ _ h=>Ret.bcell h)))));go_big_quiet_on;simp only [Act.put,sA,s0,sS])))
     refine wpQuiet_nil ?_
     intro w9 hx9
     go_wp2_with fail
     go_meet
     exact ⟨hx9,by rw [HG.out];simp⟩
    ·skip
     rw [e1,e3] at hg
     rw [hgv] at hg
     simp at hg
   ·cases e2:(nC.toList == a.path.toList)
    ·cases e3:(nb'.toList == na'.toList)
     ·skip
      rw [e1,e2,e3] at hg
      have HG:=Lib.hid hg
      clear hg
      refine wp_region_ext (by kernel_rfl) (by kernel_rfl) ?_
      repeat (first | go_big_quiet_skip | (go_big_quiet_want;first | (go_big_quiet_op;go_big_quiet_on) | (apply quiet_at;intro W hW;have hc0:=HC0.out W hW;have hc1:=HC1.out W hW;have hc2:=HC2.out W hW;go_simp;(first | exact rfl | (simp only [Oper.quietUpon,true_and];first | exact rfl | ((first | (go_at_call 90;first | with_reducible exact quiet_call hW (HFb.out _) (fun _ _ h=>Ret.bcell h) | with_reducible exact quiet_call hW (HFa.out _) (fun _ _ h=>Ret.bcell h) | with_reducible exact quiet_call hW (HFC.out _) (fun _ _ h=>Ret.bcell h)) | (go_at_call 91;with_reducible exact quiet_call hW (HFR.out _) (fun _ _ h=>Ret.bcell h))))) | ((first | (go_at_call 90;first | with_reducible exact quiet_call hW (HFb.out _) (fun _ _ h=>Ret.bcell h) | with_reducible exact quiet_call hW (HFa.out _) (fun _ _ h=>Ret.bcell h) | with_reducible exact quiet_call hW (HFC.out _) (fun _ _ h=>Ret.bcell h)) | (go_at_call 91;with_reducible exact quiet_call hW (HFR.out _) (fun _ _ h=>Ret.bcell h)))));go_big_quiet_on;simp only [Act.put,sA,s0,sS])))
      refine wpQuiet_nil ?_
      intro w9 hx9
      go_wp2_with fail
      go_meet
      exact ⟨hx9,by rw [HG.out];simp⟩
     ·skip
      rw [e1,e2,e3] at hg
      rw [hgv] at hg
      simp at hg
    ·skip
     rw [e1,e2] at hg
     rw [hgv] at hg
     simp at hg
  ·skip
   rw [e1] at hg
   have HG:=Lib.hid hg
   clear hg
   refine wp_region_ext (by kernel_rfl) (by kernel_rfl) ?_
   repeat (first | go_big_quiet_skip | (go_big_quiet_want;first | (go_big_quiet_op;go_big_quiet_on) | (apply quiet_at;intro W hW;have hc0:=HC0.out W hW;have hc1:=HC1.out W hW;have hc2:=HC2.out W hW;go_simp;(first | exact rfl | (simp only [Oper.quietUpon,true_and];first | exact rfl | ((first | (go_at_call 90;first | with_reducible exact quiet_call hW (HFb.out _) (fun _ _ h=>Ret.bcell h) | with_reducible exact quiet_call hW (HFa.out _) (fun _ _ h=>Ret.bcell h) | with_reducible exact quiet_call hW (HFC.out _) (fun _ _ h=>Ret.bcell h)) | (go_at_call 91;with_reducible exact quiet_call hW (HFR.out _) (fun _ _ h=>Ret.bcell h))))) | ((first | (go_at_call 90;first | with_reducible exact quiet_call hW (HFb.out _) (fun _ _ h=>Ret.bcell h) | with_reducible exact quiet_call hW (HFa.out _) (fun _ _ h=>Ret.bcell h) | with_reducible exact quiet_call hW (HFC.out _) (fun _ _ h=>Ret.bcell h)) | (go_at_call 91;with_reducible exact quiet_call hW (HFR.out _) (fun _ _ h=>Ret.bcell h)))));go_big_quiet_on;simp only [Act.put,sA,s0,sS])))
   refine wpQuiet_nil ?_
   intro w9 hx9
   go_wp2_with fail
   go_meet
   exact ⟨hx9,by rw [HG.out];simp⟩
 case rest=>
  obtain ⟨hx0,rfl⟩:=hcut
  have hy:=Ext.trans (a:=w) EX hx0;clear hx;have hx:=hy;clear hy;have hn0:=BB hx0 (w.heap.size);have hn1:=BB hx0 (w.heap.size+1);have hn2:=BB hx0 (w.heap.size+1+1);have hn3:=BB hx0 (w.heap.size+1+1+1);have hnX:=BB hx0 (bX);(first | simp [↓heap_drew_at,↓heap_drewN_at,↓heap_alloc_at,↓heap_set_at,ne_two,ne_three,ne_two_left,ne_three_left,↓hb0.eq,hb0.lt,hb0.ne,↓hb1.eq,hb1.lt,hb1.ne,↓hb2.eq,hb2.lt,hb2.ne,↓hb3.eq,hb3.lt,hb3.ne,↓hbX.eq,hbX.lt,hbX.ne] at hn0 hn1 hn2 hn3 hnX | simp [↓heap_drew_at,↓heap_drewN_at,↓heap_alloc_at,↓heap_set_at,ne_two,ne_three,ne_two_left,ne_three_left] at hn0 hn1 hn2 hn3 hnX);(try clear hb0 hc0 hf0 hl0);(try clear hb1 hc1 hf1 hl1);(try clear hb2 hc2 hf2 hl2);(try clear hb3 hc3 hf3 hl3);(try clear hbX hcX hfX hlX);have hb0:=Blk.mk hn0;clear hn0;obtain ⟨hc0,hf0,hl0⟩:=hb0.all;have hb1:=Blk.mk hn1;clear hn1;obtain ⟨hc1,hf1,hl1⟩:=hb1.all;have hb2:=Blk.mk hn2;clear hn2;obtain ⟨hc2,hf2,hl2⟩:=hb2.all;have hb3:=Blk.mk hn3;clear hn3;obtain ⟨hc3,hf3,hl3⟩:=hb3.all;have hbX:=Blk.mk hnX;clear hnX;obtain ⟨hcX,hfX,hlX⟩:=hbX.all;(try clear hx0)
  cases g1
  rotate_left
  ·have h:=H4.out
   rw [ZC.out] at h
   simp at h
  go_upto_region 7 with fail
  go_cut [10,11] (fun u10 u11 wx=>∃ gY:Nat,u10=.bool k2∧u11=.pointer (some ⟨gY,0,none⟩)∧ExBlk w bX gY (a.pv A1 c1 A2 c2) (b.pv B1 d1 B2 d2) (C.pv B1 d1 B2 d2) (D.pv A1 c1 A2 c2) wx)
  case first=>
   go_wp2_with fail
   refine (HM2.out _).mono ?_
   rintro e w4 ⟨rfl,hx0⟩
   have hy:=Ext.trans (a:=w) EX hx0;clear hx;have hx:=hy;clear hy;have hn0:=BB hx0 (w.heap.size);have hn1:=BB hx0 (w.heap.size+1);have hn2:=BB hx0 (w.heap.size+1+1);have hn3:=BB hx0 (w.heap.size+1+1+1);have hnX:=BB hx0 (bX);(first | simp [↓heap_drew_at,↓heap_drewN_at,↓heap_alloc_at,↓heap_set_at,ne_two,ne_three,ne_two_left,ne_three_left,↓hb0.eq,hb0.lt,hb0.ne,↓hb1.eq,hb1.lt,hb1.ne,↓hb2.eq,hb2.lt,hb2.ne,↓hb3.eq,hb3.lt,hb3.ne,↓hbX.eq,hbX.lt,hbX.ne] at hn0 hn1 hn2 hn3 hnX | simp [↓heap_drew_at,↓heap_drewN_at,↓heap_alloc_at,↓heap_set_at,ne_two,ne_three,ne_two_left,ne_three_left] at hn0 hn1 hn2 hn3 hnX);(try clear hb0 hc0 hf0 hl0);(try clear hb1 hc1 hf1 hl1);(try clear hb2 hc2 hf2 hl2);(try clear hb3 hc3 hf3 hl3);(try clear hbX hcX hfX hlX);have hb0:=Blk.mk hn0;clear hn0;obtain ⟨hc0,hf0,hl0⟩:=hb0.all;have hb1:=Blk.mk hn1;clear hn1;obtain ⟨hc1,hf1,hl1⟩:=hb1.all;have hb2:=Blk.mk hn2;clear hn2;obtain ⟨hc2,hf2,hl2⟩:=hb2.all;have hb3:=Blk.mk hn3;clear hn3;obtain ⟨hc3,hf3,hl3⟩:=hb3.all;have hbX:=Blk.mk hnX;clear hnX;obtain ⟨hcX,hfX,hlX⟩:=hbX.all;(try clear hx0)
   go_wp2_with fail
   go_meet
   exact ⟨_,rfl,rfl,hx.alloc _,hb0.alloc _,hb1.alloc _,hb2.alloc _,hb3.alloc _,hbX.alloc _,Blk.new' (by simp),hX4,hbX.lt⟩
  case rest=>
   clear hx hX4 hb0 hb1 hb2 hb3 hc0 hc1 hc2 hc3 hf0 hf1 hf2 hf3 hl0 hl1 hl2 hl3 hbX hcX hfX hlX
   obtain ⟨bY,rfl,rfl,hex⟩:=hcut
   have HEX:=Lib.hid hex
   obtain ⟨hx,hb0,hb1,hb2,hb3,hbX,hbY,hX4,hXY⟩:=hex
   obtain ⟨hc0,hf0,hl0⟩:=hb0.all
   obtain ⟨hc1,hf1,hl1⟩:=hb1.all
   obtain ⟨hc2,hf2,hl2⟩:=hb2.all
   obtain ⟨hc3,hf3,hl3⟩:=hb3.all
   obtain ⟨hcX,hfX,hlX⟩:=hbX.all
   obtain ⟨hcY,hfY,hlY⟩:=hbY.all
   obtain ⟨g3,hg3⟩:∃ g:Bool,g=(!k2 || g2):=⟨_,rfl⟩
   have HG3:=Lib.hid hg3
   clear hg3
   go_upto_region 8 with fail
   go_cut [74] (fun u wx=>(ExBlk w bX bY (a.pv A1 c1 A2 c2) (b.pv B1 d1 B2 d2) (C.pv B1 d1 B2 d2) (D.pv A1 c1 A2 c2) wx)∧u=.bool g3)
   case first=>
    have hg:g3=(!k2 || (!(nD.toList == ([]:List UInt8)) && (nD.toList == nC.toList))):=by rw [HG3.out,HG2.out]
    have hgv:g3=false:=by
     have h:=H5.out
     rw [HG3.out]
     revert h
     cases k2 <;> cases g2 <;> simp
    have HC0:=Lib.hid (fun W hW=>(hbX.ext (w':=W) hW).cell)
    have HC1:=Lib.hid (fun W hW=>(hbY.ext (w':=W) hW).cell)
    have HC2:=Lib.hid (fun W hW=>(hbX.ext (w':=W) hW).cell)
    clear HG1 HG2 HG3 HOK HVAL HM1 HM2 HX HEM HMO HI Q0 Q1 Q2 HY HBE IE1 IE2 HBX hb0 hb1 hb2 hb3 hc0 hc1 hc2 hc3 hf0 hf1 hf2 hf3 hl0 hl1 hl2 hl3 hbX hcX hfX hlX hbY hcY hfY hlY
    cases k2
    ·skip
     rw [hgv] at hg
     simp at hg
    ·cases e1:(nD.toList == ([]:List UInt8))
     ·cases e2:(nD.toList == nC.toList)
      ·skip
       rw [e1,e2] at hg
       have HG:=Lib.hid hg
       clear hg
       refine wp_region_ext (by kernel_rfl) (by kernel_rfl) ?_
       repeat (first | go_big_quiet_skip | (go_big_quiet_want;first | (go_big_quiet_op;go_big_quiet_on) | (apply quiet_at;intro W hW;have hc0:=HC0.out W hW;have hc1:=HC1.out W hW;have hc2:=HC2.out W hW;go_simp;(first | exact rfl | (simp only [Oper.quietUpon,true_and];first | exact rfl | ((go_at_call 90;first | with_reducible exact quiet_call hW (HFD.out _) (fun _ _ h=>Ret.bcell h) | with_reducible exact quiet_call hW (HFC.out _) (fun _ _ h=>Ret.bcell h)))) | ((go_at_call 90;first | with_reducible exact quiet_call hW (HFD.out _) (fun _ _ h=>Ret.bcell h) | with_reducible exact quiet_call hW (HFC.out _) (fun _ _ h=>Ret.bcell h))));go_big_quiet_on;simp only [Act.put,sA,s0,sS])))
       refine wpQuiet_nil ?_
       intro w9 hx9
       go_wp2_with fail
       go_meet
       exact ⟨HEX.out.ext hx9,by rw [HG.out];simp⟩
      ·skip
       rw [e1,e2] at hg
       rw [hgv] at hg
       simp at hg
     ·skip
      rw [e1] at hg
      have HG:=Lib.hid hg
      clear hg
      refine wp_region_ext (by kernel_rfl) (by kernel_rfl) ?_
      repeat (first | go_big_quiet_skip | (go_big_quiet_want;first | (go_big_quiet_op;go_big_quiet_on) | (apply quiet_at;intro W hW;have hc0:=HC0.out W hW;have hc1:=HC1.out W hW;have hc2:=HC2.out W hW;go_simp;(first | exact rfl | (simp only [Oper.quietUpon,true_and];first | exact rfl | ((go_at_call 90;first | with_reducible exact quiet_call hW (HFD.out _) (fun _ _ h=>Ret.bcell h) | with_reducible exact quiet_call hW (HFC.out _) (fun _ _ h=>Ret.bcell h)))) | ((go_at_call 90;first | with_reducible exact quiet_call hW (HFD.out _) (fun _ _ h=>Ret.bcell h) | with_reducible exact quiet_call hW (HFC.out _) (fun _ _ h=>Ret.bcell h))));go_big_quiet_on;simp only [Act.put,sA,s0,sS])))
      refine wpQuiet_nil ?_
      intro w9 hx9
      go_wp2_with fail
      go_meet
      exact ⟨HEX.out.ext hx9,by rw [HG.out];simp⟩
   case rest=>
    clear hx hX4 hXY HEX hb0 hb1 hb2 hb3 hc0 hc1 hc2 hc3 hf0 hf1 hf2 hf3 hl0 hl1 hl2 hl3 hbX hcX hfX hlX hbY hcY hfY hlY
    obtain ⟨hex,rfl⟩:=hcut
    have HEX:=Lib.hid hex
    obtain ⟨hx,hb0,hb1,hb2,hb3,hbX,hbY,hX4,hXY⟩:=hex
    obtain ⟨hc0,hf0,hl0⟩:=hb0.all
    obtain ⟨hc1,hf1,hl1⟩:=hb1.all
    obtain ⟨hc2,hf2,hl2⟩:=hb2.all
    obtain ⟨hc3,hf3,hl3⟩:=hb3.all
    obtain ⟨hcX,hfX,hlX⟩:=hbX.all
    obtain ⟨hcY,hfY,hlY⟩:=hbY.all
    cases g3
    rotate_left
    ·have h:=H5.out
     have h2:=HG3.out
     revert h h2
     cases k2 <;> cases g2 <;> simp
    obtain ⟨rfl,rfl⟩:=or_parts HG3.out
    obtain ⟨g4,hg4⟩:∃ g:Bool,g=(k4 && k5):=⟨_,rfl⟩
    have HG4:=Lib.hid hg4
    clear hg4
    go_upto_region 10 with fail
    go_cut [107] (fun u wx=>(ExBlk w bX bY (a.pv A1 c1 A2 c2) (b.pv B1 d1 B2 d2) (C.pv B1 d1 B2 d2) (D.pv A1 c1 A2 c2) wx)∧u=.bool (!g4))
    case first=>
     have hg:g4=((b.kind != 4 || (!fr || !be)) && (a.kind != 5 || (b.kind != 5 || !(a.to_.toList == b.path.toList)))):=by rw [HG4.out,HEM.out,HMO.out]
     have e4:(b.kind == 4)=true:=HKB.out
     have e5:(b.kind == 5)=false:=by
      have h:b.kind=4:=eq_of_beq e4
      rw [h]
      rfl
     have HG:=Lib.hid hg
     clear hg HG1 HG2 HG3 HG4 HOK HVAL HM1 HM2 HX HEM HMO HI Q0 Q1 Q2 HY IE1 IE2 HBX HFa HFb HFC HFD HEX
     go_wp2_with (first
      | (go_at_call 91;refine (HFR.out _).mono ?_;rintro e w5 ⟨rfl,hx0⟩;have hy:=Ext.trans (a:=w) EX hx0;clear hx;have hx:=hy;clear hy;have hn0:=BB hx0 (w.heap.size);have hn1:=BB hx0 (w.heap.size+1);have hn2:=BB hx0 (w.heap.size+1+1);have hn3:=BB hx0 (w.heap.size+1+1+1);have hnX:=BB hx0 (bX);have hnY:=BB hx0 (bY);(first | simp [↓heap_drew_at,↓heap_drewN_at,↓heap_alloc_at,↓heap_set_at,ne_two,ne_three,ne_two_left,ne_three_left,ne_four,ne_five,ne_six,ne_four_left,ne_five_left,ne_six_left,↓hb0.eq,hb0.lt,hb0.ne,↓hb1.eq,hb1.lt,hb1.ne,↓hb2.eq,hb2.lt,hb2.ne,↓hb3.eq,hb3.lt,hb3.ne,↓hbX.eq,hbX.lt,hbX.ne,↓hbY.eq,hbY.lt,hbY.ne] at hn0 hn1 hn2 hn3 hnX hnY | simp [↓heap_drew_at,↓heap_drewN_at,↓heap_alloc_at,↓heap_set_at,ne_two,ne_three,ne_two_left,ne_three_left,ne_four,ne_five,ne_six,ne_four_left,ne_five_left,ne_six_left] at hn0 hn1 hn2 hn3 hnX hnY);(try clear hb0 hc0 hf0 hl0);(try clear hb1 hc1 hf1 hl1);(try clear hb2 hc2 hf2 hl2);(try clear hb3 hc3 hf3 hl3);(try clear hbX hcX hfX hlX);(try clear hbY hcY hfY hlY);have hb0:=Blk.mk hn0;clear hn0;obtain ⟨hc0,hf0,hl0⟩:=hb0.all;have hb1:=Blk.mk hn1;clear hn1;obtain ⟨hc1,hf1,hl1⟩:=hb1.all;have hb2:=Blk.mk hn2;clear hn2;obtain ⟨hc2,hf2,hl2⟩:=hb2.all;have hb3:=Blk.mk hn3;clear hn3;obtain ⟨hc3,hf3,hl3⟩:=hb3.all;have hbX:=Blk.mk hnX;clear hnX;obtain ⟨hcX,hfX,hlX⟩:=hbX.all;have hbY:=Blk.mk hnY;clear hnY;obtain ⟨hcY,hfY,hlY⟩:=hbY.all;(try clear hx0))
      | (go_at_call 85;refine (HBE.out _).mono ?_;rintro e w5 ⟨rfl,hx0⟩;have hy:=Ext.trans (a:=w) EX hx0;clear hx;have hx:=hy;clear hy;have hn0:=BB hx0 (w.heap.size);have hn1:=BB hx0 (w.heap.size+1);have hn2:=BB hx0 (w.heap.size+1+1);have hn3:=BB hx0 (w.heap.size+1+1+1);have hnX:=BB hx0 (bX);have hnY:=BB hx0 (bY);(first | simp [↓heap_drew_at,↓heap_drewN_at,↓heap_alloc_at,↓heap_set_at,ne_two,ne_three,ne_two_left,ne_three_left,ne_four,ne_five,ne_six,ne_four_left,ne_five_left,ne_six_left,↓hb0.eq,hb0.lt,hb0.ne,↓hb1.eq,hb1.lt,hb1.ne,↓hb2.eq,hb2.lt,hb2.ne,↓hb3.eq,hb3.lt,hb3.ne,↓hbX.eq,hbX.lt,hbX.ne,↓hbY.eq,hbY.lt,hbY.ne] at hn0 hn1 hn2 hn3 hnX hnY | simp [↓heap_drew_at,↓heap_drewN_at,↓heap_alloc_at,↓heap_set_at,ne_two,ne_three,ne_two_left,ne_three_left,ne_four,ne_five,ne_six,ne_four_left,ne_five_left,ne_six_left] at hn0 hn1 hn2 hn3 hnX hnY);(try clear hb0 hc0 hf0 hl0);(try clear hb1 hc1 hf1 hl1);(try clear hb2 hc2 hf2 hl2);(try clear hb3 hc3 hf3 hl3);(try clear hbX hcX hfX hlX);(try clear hbY hcY hfY hlY);have hb0:=Blk.mk hn0;clear hn0;obtain ⟨hc0,hf0,hl0⟩:=hb0.all;have hb1:=Blk.mk hn1;clear hn1;obtain ⟨hc1,hf1,hl1⟩:=hb1.all;have hb2:=Blk.mk hn2;clear hn2;obtain ⟨hc2,hf2,hl2⟩:=hb2.all;have hb3:=Blk.mk hn3;clear hn3;obtain ⟨hc3,hf3,hl3⟩:=hb3.all;have hbX:=Blk.mk hnX;clear hnX;obtain ⟨hcX,hfX,hlX⟩:=hbX.all;have hbY:=Blk.mk hnY;clear hnY;obtain ⟨hcY,hfY,hlY⟩:=hbY.all;(try clear hx0)))
     all_goals
      go_meet
      refine ⟨⟨hx,hb0,hb1,hb2,hb3,hbX,hbY,hX4,hXY⟩,?_⟩
      clear hc0 hc1 hc2 hc3 hcX hcY hf0 hf1 hf2 hf3 hfX hfY
      have e4n:b.kind=4:=by simpa using e4
      have e5n:¬ b.kind=5:=by omega
      rw [HG.out]
      simp [*]
    case rest=>
     clear hx hX4 hXY HEX hb0 hb1 hb2 hb3 hc0 hc1 hc2 hc3 hf0 hf1 hf2 hf3 hl0 hl1 hl2 hl3 hbX hcX hfX hlX hbY hcY hfY hlY
     obtain ⟨hex,rfl⟩:=hcut
     have HEX:=Lib.hid hex
     obtain ⟨hx,hb0,hb1,hb2,hb3,hbX,hbY,hX4,hXY⟩:=hex
     obtain ⟨hc0,hf0,hl0⟩:=hb0.all
     obtain ⟨hc1,hf1,hl1⟩:=hb1.all
     obtain ⟨hc2,hf2,hl2⟩:=hb2.all
     obtain ⟨hc3,hf3,hl3⟩:=hb3.all
     obtain ⟨hcX,hfX,hlX⟩:=hbX.all
     obtain ⟨hcY,hfY,hlY⟩:=hbY.all
     cases g4
     ·have HZ:Hid (R.2.2=false):=Lib.hid (by rw [HOK.out];exact and_stop2 HG4.out)
      clear HOK HVAL
      go_wp2_with fail
      have le2:w.heap.size≤w.heap.size+1+1:=by omega
      have le3:w.heap.size≤w.heap.size+1+1+1:=by omega
      have n23:w.heap.size+1+1+1≠w.heap.size+1+1:=by omega
      have m1:w.heap.size+1+1≠bX:=by omega
      have m2:w.heap.size+1+1+1≠bX:=by omega
      have m3:w.heap.size+1+1≠bY:=by omega
      have m4:w.heap.size+1+1+1≠bY:=by omega
      have hv0:=And.intro (hbX.drew.range 0 (parr (C.pv B1 d1 B2 d2)).toList (fun j _=>by rw [Nat.zero_add,Array.getElem?_toList])) (hbY.drew.range 0 (parr (D.pv A1 c1 A2 c2)).toList (fun j _=>by rw [Nat.zero_add,Array.getElem?_toList]))
      have kb2:=hb2.drew
      have kb3:=hb3.drew
      have hy:=hx.drew1
      refine wp_region_noPanic (wp_region_held_drew (S:=fun w'=>w'.rangeAt bX 0 (parr (C.pv B1 d1 B2 d2)).toList∧w'.rangeAt bY 0 (parr (D.pv A1 c1 A2 c2)).toList) (by kernel_rfl) hv0 (fun hH=>?_))
      clear hv0
      refine tl (i:=0) (parr (C.pv B1 d1 B2 d2)).toList rfl rfl rfl rfl rfl Tryz.underlying42 rfl (fun _ h=>h.1) hH ?_
      try simp only [Act.put,sA,s0,sS]
      refine tl (i:=1) (parr (D.pv A1 c1 A2 c2)).toList rfl rfl rfl rfl rfl Tryz.underlying42 rfl (fun _ h=>h.2) hH ?_
      try simp only [Act.put,sA,s0,sS]
      refine two_stores (n:=2) (u:=.bool false) (v1:=parr (C.pv B1 d1 B2 d2)) (v2:=parr (D.pv A1 c1 A2 c2)) (by kernel_rfl) (by kernel_rfl) (by kernel_rfl) (by kernel_rfl) rfl rfl rfl rfl rfl rfl rfl rfl rfl rfl rfl rfl rfl rfl rfl rfl rfl kb2 kb3 rfl rfl n23 (by kernel_rfl) (by kernel_rfl) (by first | rfl | simp [Value.oneCell']) (by first | rfl | simp [Value.oneCell']) ⟨World.rangeAt_setCells_apart hH.1 _ _ _ (.inl m1.symm),World.rangeAt_setCells_apart hH.2 _ _ _ (.inl m3.symm)⟩
       ⟨World.rangeAt_setCells_apart (World.rangeAt_setCells_apart hH.1 _ _ _ (.inl m1.symm)) _ _ _ (.inl m2.symm),World.rangeAt_setCells_apart (World.rangeAt_setCells_apart hH.2 _ _ _ (.inl m3.symm)) _ _ _ (.inl m4.symm)⟩ (fun W k2 k3 hst=>NoPanic.normal ?_) _
      have hxe:=hst.ext w hy le2 le3
      clear hst hH hy kb2 kb3
      clear hx
      have hx:=hxe
      clear hxe
      obtain ⟨hc2,hf2,hl2⟩:=k2.all
      obtain ⟨hc3,hf3,hl3⟩:=k3.all
      try simp only [Act.put,sA,s0,sS]
      go_wp2_with fail
      refine bodyPost_ret (v:=.tuple #[(C.pv B1 d1 B2 d2).v,(D.pv A1 c1 A2 c2).v,.bool false]) ?_ rfl ?_
      ·simp only [results,Tryz.results70]
       go_simp
       (try simp)
      ·exact ⟨_,_,by rw [HZ.out],EX,fun h=>by rw [HZ.out] at h;cases h⟩
     exact absurd (HG4.out.trans H6.out) (by decide)
end Go.Proofs.YtlbhaimfjfdppaaGreatDoor
namespace Go.Proofs.YtlbhaimfjfdppaaGreatDoor
open Go.RowKit Pa
set_option maxHeartbeats 16000000 in
set_option maxRecDepth 100000 in
theorem rex3n (p p':Pv) (a b:Qp) (w:World) {F:Nat→Prop} (ha:Is w F p a) (hb:Is w F p' b) (hca:a.check=0) (hcb:b.check=0) (h4:Rq.ok4 a b=true) (h5:Rq.ok5 a b=true) (h6:Rq.ok6 a b=true) (h7:Rq.ok7 a b=false) (hkb:(b.kind == 4)=false):
 Calls Tryz.prog 70 #[p.v,p'.v] w (GivesIf F (a.run b) w):=by
 have HA:=Lib.hid ha
 have HB:=Lib.hid hb
 obtain ⟨A1,c1,A2,c2,rfl,fa⟩:=ha
 obtain ⟨B1,d1,B2,d2,rfl,fb⟩:=hb
 have sa:=Qp.bounds hca
 have sb:=Qp.bounds hcb
 have si:=Qp.inv_bounds hca
 have na:=Qp.small hca
 have nb:=Qp.small hcb
 have la:=lines_small hca
 have lb:=lines_small hcb
 have ka:=(check_parts hca).1
 obtain ⟨sa1,sa2,sa3,sa4,sa5,sa6⟩:=sa
 obtain ⟨sb1,sb2,sb3,sb4,sb5,sb6⟩:=sb
 have hI:∀ W,Ext w W→Calls Tryz.prog 59 #[(a.pv A1 c1 A2 c2).v] W (Ret (.tuple #[(a.inv.pv A2 c2 A1 c1).v,.int .i64 0]) W):=fun W hW=>by
  rw [← rinv_pv hca A1 c1 A2 c2]
  exact rinv_any _ W ka (fun W' hW'=>by
   have h:=rcheck_q _ a W' (HA.out.ext (hW.trans hW')) (by omega) (by omega) (by omega) (by omega) la.1 la.2
   rw [hca] at h
   exact h)
 have hM1:∀ W,Calls Tryz.prog 89 #[(b.pv B1 d1 B2 d2).v,(a.inv.pv A2 c2 A1 c1).v] W (Ret (.tuple #[((Rq.moved b a.inv).1.pv B1 d1 B2 d2).v,.bool (Rq.moved b a.inv).2]) W):=fun W=>by
  have h:=rmoved_any (b.pv B1 d1 B2 d2) (a.inv.pv A2 c2 A1 c1) W (by show a.inv.path.size≤_;omega) (by show a.inv.to_.size≤_;omega) (by show b.path.size≤_;omega) (by show b.to_.size≤_;omega)
  rw [rmoved_pv] at h
  exact h
 have hok:=rok_run hca hcb
 have hval:=ok_run hca hcb
 unfold Rq.ok at hok hval
 unfold Rq.ok4 at h4
 unfold Rq.ok5 at h5
 unfold Rq.ok6 at h6
 unfold Rq.ok7 at h7
 have szC:=rmoved_small b a.inv 200 (by omega) (by omega) (by omega)
 have oC:(Rq.moved b a.inv).1.old=b.old∧(Rq.moved b a.inv).1.new=b.new∧(Rq.moved b a.inv).1.at_=b.at_∧(Rq.moved b a.inv).1.kind=b.kind:=⟨rfl,rfl,rfl,rfl⟩
 generalize Rq.moved b a.inv=C at hM1 hok hval szC oC h4 h5 h6 h7
 have hM2:∀ W,Calls Tryz.prog 89 #[(a.pv A1 c1 A2 c2).v,(C.1.pv B1 d1 B2 d2).v] W (Ret (.tuple #[((Rq.moved a C.1).1.pv A1 c1 A2 c2).v,.bool (Rq.moved a C.1).2]) W):=fun W=>by
  have h:=rmoved_any (a.pv A1 c1 A2 c2) (C.1.pv B1 d1 B2 d2) W (by show C.1.path.size≤_;omega) (by show C.1.to_.size≤_;omega) (by show a.path.size≤_;omega) (by show a.to_.size≤_;omega)
  rw [rmoved_pv] at h
  exact h
 have szD:=rmoved_small a C.1 600 (by omega) (by omega) (by omega)
 have oD:(Rq.moved a C.1).1.old=a.old∧(Rq.moved a C.1).1.new=a.new∧(Rq.moved a C.1).1.at_=a.at_∧(Rq.moved a C.1).1.kind=a.kind:=⟨rfl,rfl,rfl,rfl⟩
 have hx:Qm.adds a.kind=false→Qm.eqB a.path C.1.path=true→b.kind=2→(Rq.moved a C.1).2=true→6≤a.kind:=fun h1 h2 h3 h4=>by
  rw [removal_met h1 (by rw [oC.2.2.2,h3]) h2] at h4
  cases h4
 generalize Rq.moved a C.1=D at hM2 hok hval szD oD hx h5 h7
 obtain ⟨C,k1⟩:=C
 obtain ⟨D,k2⟩:=D
 dsimp only at hM1 hM2 hok hval szC oC szD oD hx h4 h5 h6 h7
 have hcp:=contents_pv a b C D A1 c1 A2 c2 B1 d1 B2 d2 ⟨oC.1,oC.2.1,oC.2.2.1⟩ ⟨oD.1,oD.2.1,oD.2.2.1⟩
 have hcs:=contents_same a b C D
 have hX:k2=true→∀ W,Calls Tryz.prog 92 #[(a.pv A1 c1 A2 c2).v,(b.pv B1 d1 B2 d2).v,(C.pv B1 d1 B2 d2).v,(D.pv A1 c1 A2 c2).v] W (Ret (.tuple #[(Pv.xcontents (a.pv A1 c1 A2 c2) (b.pv B1 d1 B2 d2) (C.pv B1 d1 B2 d2) (D.pv A1 c1 A2 c2)).1.v,(Pv.xcontents (a.pv A1 c1 A2 c2) (b.pv B1 d1 B2 d2) (C.pv B1 d1 B2 d2) (D.pv A1 c1 A2 c2)).2.1.v,.bool (Pv.xcontents (a.pv A1 c1 A2 c2) (b.pv B1 d1 B2 d2) (C.pv B1 d1 B2 d2) (D.pv A1 c1 A2 c2)).2.2]) W):=
  fun h W=>rxcontent_any _ _ _ _ W ka (fun h1 h2 h3=>hx h1 h2 h3 h) sa3 sa4 sb3 sb4 sa5 sa6 sb5 sb6 ⟨by show a.old.length≤_;omega,by show a.new.length≤_;omega⟩ ⟨by show b.old.length≤_;omega,by show b.new.length≤_;omega⟩
 generalize Pv.xcontents (a.pv A1 c1 A2 c2) (b.pv B1 d1 B2 d2) (C.pv B1 d1 B2 d2) (D.pv A1 c1 A2 c2)=Y at hX hcp
 generalize Qp.contents a b C D=E at hcp hcs hok hval h7
 obtain ⟨E1,E2,e6⟩:=E
 obtain ⟨Y1,Y2,k6⟩:=Y
 dsimp only at hcp hcs hX hok hval h7
 obtain ⟨hcp0,hcp1⟩:=hcp
 subst hcp0
 have iC:Is w F (C.pv B1 d1 B2 d2) C:=⟨B1,d1,B2,d2,rfl,by rw [oC.1,oC.2.1];exact fb⟩
 have ie1:Is w F (E1.pv B1 d1 B2 d2) E1:=by
  refine ⟨B1,d1,B2,d2,rfl,?_⟩
  rw [hcs.1.1,hcs.1.2.1,oC.1,oC.2.1]
  exact fb
 have ie2:Is w F (E2.pv A1 c1 A2 c2) E2:=by
  refine ⟨A1,c1,A2,c2,rfl,?_⟩
  rw [hcs.2.1,hcs.2.2.1,oD.1,oD.2.1]
  exact fa
 have q0:∀ W,Ext w W→Calls Tryz.prog 69 #[(C.pv B1 d1 B2 d2).v] W (Ret (.int .i64 C.check) W):=fun W hW=>
  rcheck_q _ C W (iC.ext hW) (by rw [oC.1];omega) (by rw [oC.2.1];omega) (by omega) (by omega) (by rw [oC.1];exact lb.1) (by rw [oC.2.1];exact lb.2)
 have q1:∀ W,Ext w W→Calls Tryz.prog 69 #[(E1.pv B1 d1 B2 d2).v] W (Ret (.int .i64 E1.check) W):=fun W hW=>
  rcheck_q _ E1 W (ie1.ext hW) (by rw [hcs.1.1,oC.1];omega) (by rw [hcs.1.2.1,oC.2.1];omega) (by rw [hcs.1.2.2.1];omega) (by rw [hcs.1.2.2.2];omega) (by rw [hcs.1.1,oC.1];exact lb.1) (by rw [hcs.1.2.1,oC.2.1];exact lb.2)
 have q2:∀ W,Ext w W→Calls Tryz.prog 69 #[(E2.pv A1 c1 A2 c2).v] W (Ret (.int .i64 E2.check) W):=fun W hW=>
  rcheck_q _ E2 W (ie2.ext hW) (by rw [hcs.2.1,oD.1];omega) (by rw [hcs.2.2.1,oD.2.1];omega) (by rw [hcs.2.2.2.1];omega) (by rw [hcs.2.2.2.2];omega) (by rw [hcs.2.1,oD.1];exact la.1) (by rw [hcs.2.2.1,oD.2.1];exact la.2)
 have hFb:∀ W,Calls Tryz.prog 90 #[(b.pv B1 d1 B2 d2).v] W (Ret (.string (Rq.fresh b)) W):=fun W=>rfresh_any _ W
 have hFa:∀ W,Calls Tryz.prog 90 #[(a.pv A1 c1 A2 c2).v] W (Ret (.string (Rq.fresh a)) W):=fun W=>rfresh_any _ W
 have hFC:∀ W,Calls Tryz.prog 90 #[(C.pv B1 d1 B2 d2).v] W (Ret (.string (Rq.fresh C)) W):=fun W=>rfresh_any _ W
 have hFD:∀ W,Calls Tryz.prog 90 #[(D.pv A1 c1 A2 c2).v] W (Ret (.string (Rq.fresh D)) W):=fun W=>rfresh_any _ W
 have hfr:∀ W,Calls Tryz.prog 91 #[(a.pv A1 c1 A2 c2).v] W (Ret (.bool (Qm.frees a.kind)) W):=fun W=>rfrees_any _ W
 have hbe:∀ W,Calls Tryz.prog 85 #[.string a.path,.string C.path] W (Ret (.bool (Qm.below a.path C.path)) W):=fun W=>rbelow_any _ _ W (by omega)
 have hem:Qp.empty a b C=(b.kind != 4 || (!Qm.frees a.kind || !Qm.below a.path C.path)):=rfl
 have hmo:Qp.moves a b=(a.kind != 5 || (b.kind != 5 || !Qm.eqB a.to_ b.path)):=rfl
 generalize Qp.empty a b C=k4 at hok hval hem h6
 generalize Qp.moves a b=k5 at hok hval hmo h6
 generalize Qm.frees a.kind=fr at hok hval hfr hem h4
 generalize Qm.below a.path C.path=be at hbe hem
 generalize Rq.fresh b=nb' at hok hval hFb h4
 generalize Rq.fresh a=na' at hok hval hFa h4
 generalize Rq.fresh C=nC at hok hval hFC h4 h5
 generalize Rq.fresh D=nD at hok hval hFD h5
 have ee:(ByteArray.mk #[]).toList=([]:List UInt8):=by rw [ByteArray.toList_eq]
 obtain ⟨g1,hg1⟩:∃ g1:Bool,g1=(!(nb'.toList == ([]:List UInt8)) && ((fr && (nC.toList == a.path.toList)) || (nb'.toList == na'.toList))):=⟨_,rfl⟩
 obtain ⟨g2,hg2⟩:∃ g2:Bool,g2=(!(nD.toList == ([]:List UInt8)) && (nD.toList == nC.toList)):=⟨_,rfl⟩
 unfold Qm.eqB at hok hval hmo h4 h5
 rw [ee,← hg1,← hg2] at hok hval
 rw [ee,← hg1] at h4
 rw [ee,← hg2] at h5
 generalize a.run b=R at hok hval ⊢
 have HI:=Lib.hid hI
 have H4:=Lib.hid h4
 have H5:=Lib.hid h5
 have H6:=Lib.hid h6
 have HKB:=Lib.hid hkb
 have H7:=Lib.hid h7
 have HM1:=Lib.hid hM1
 have HM2:=Lib.hid hM2
 have HX:=Lib.hid hX
 have Q0:=Lib.hid q0
 have Q1:=Lib.hid q1
 have Q2:=Lib.hid q2
 dsimp only [Pv.v,Qp.pv] at hFb hFa hFC hFD hfr
 have HFb:=Lib.hid hFb
 have HFa:=Lib.hid hFa
 have HFC:=Lib.hid hFC
 have HFD:=Lib.hid hFD
 have HFR:=Lib.hid hfr
 have HBE:=Lib.hid hbe
 have HEM:=Lib.hid hem
 have HMO:=Lib.hid hmo
 have HY:=Lib.hid hcp1
 have HOK:=Lib.hid hok
 have HG1:=Lib.hid hg1
 have HG2:=Lib.hid hg2
 have HVAL:=Lib.hid hval
 have IE1:=Lib.hid ie1
 have IE2:=Lib.hid ie2
 clear h4 h5 h6 h7 hkb ee hg1 hg2 hI hM1 hM2 hX q0 q1 q2 hFb hFa hFC hFD hfr hbe hem hmo hcp1 hok hval ie1 ie2 iC fa fb sa1 sa2 sa3 sa4 sa5 sa6 sb1 sb2 sb3 sb4 sb5 sb6 si na nb la lb ka szC szD oC oD hx hcs hca hcb HA HB
 go_enter Tryz.func70,Tryz.ntmps70
 have hx:=Ext.refl w
 go_wp2_with fail
 refine (HI.out _ EX).mono ?_
 rintro e w1 ⟨rfl,hx0⟩
 have hy:=Ext.trans (a:=w) EX hx0;clear hx;have hx:=hy;clear hy;have hn0:=BB hx0 (w.heap.size);have hn1:=BB hx0 (w.heap.size+1);have hn2:=BB hx0 (w.heap.size+1+1);have hn3:=BB hx0 (w.heap.size+1+1+1);(first | simp [↓heap_drew_at,↓heap_drewN_at,↓heap_alloc_at,↓heap_set_at,ne_two,ne_three,ne_two_left,ne_three_left,↓hb0.eq,hb0.lt,hb0.ne,↓hb1.eq,hb1.lt,hb1.ne,↓hb2.eq,hb2.lt,hb2.ne,↓hb3.eq,hb3.lt,hb3.ne] at hn0 hn1 hn2 hn3 | simp [↓heap_drew_at,↓heap_drewN_at,↓heap_alloc_at,↓heap_set_at,ne_two,ne_three,ne_two_left,ne_three_left] at hn0 hn1 hn2 hn3);(try clear hb0 hc0 hf0 hl0);(try clear hb1 hc1 hf1 hl1);(try clear hb2 hc2 hf2 hl2);(try clear hb3 hc3 hf3 hl3);have hb0:=Blk.mk hn0;clear hn0;obtain ⟨hc0,hf0,hl0⟩:=hb0.all;have hb1:=Blk.mk hn1;clear hn1;obtain ⟨hc1,hf1,hl1⟩:=hb1.all;have hb2:=Blk.mk hn2;clear hn2;obtain ⟨hc2,hf2,hl2⟩:=hb2.all;have hb3:=Blk.mk hn3;clear hn3;obtain ⟨hc3,hf3,hl3⟩:=hb3.all;(try clear hx0)
 go_wp2_with fail
 refine (HM1.out _).mono ?_
 rintro e w2 ⟨rfl,hx0⟩
 have hy:=Ext.trans (a:=w) EX hx0;clear hx;have hx:=hy;clear hy;have hn0:=BB hx0 (w.heap.size);have hn1:=BB hx0 (w.heap.size+1);have hn2:=BB hx0 (w.heap.size+1+1);have hn3:=BB hx0 (w.heap.size+1+1+1);(first | simp [↓heap_drew_at,↓heap_drewN_at,↓heap_alloc_at,↓heap_set_at,ne_two,ne_three,ne_two_left,ne_three_left,↓hb0.eq,hb0.lt,hb0.ne,↓hb1.eq,hb1.lt,hb1.ne,↓hb2.eq,hb2.lt,hb2.ne,↓hb3.eq,hb3.lt,hb3.ne] at hn0 hn1 hn2 hn3 | simp [↓heap_drew_at,↓heap_drewN_at,↓heap_alloc_at,↓heap_set_at,ne_two,ne_three,ne_two_left,ne_three_left] at hn0 hn1 hn2 hn3);(try clear hb0 hc0 hf0 hl0);(try clear hb1 hc1 hf1 hl1);(try clear hb2 hc2 hf2 hl2);(try clear hb3 hc3 hf3 hl3);have hb0:=Blk.mk hn0;clear hn0;obtain ⟨hc0,hf0,hl0⟩:=hb0.all;have hb1:=Blk.mk hn1;clear hn1;obtain ⟨hc1,hf1,hl1⟩:=hb1.all;have hb2:=Blk.mk hn2;clear hn2;obtain ⟨hc2,hf2,hl2⟩:=hb2.all;have hb3:=Blk.mk hn3;clear hn3;obtain ⟨hc3,hf3,hl3⟩:=hb3.all;(try clear hx0)
 cases k1
 ·have h:=H4.out
  simp at h
 have hX4:=hl3
 go_wp2_with fail
 refine (Q0.out _ EX).mono ?_
 rintro e w3 ⟨rfl,hx0⟩
 have hbX:=Blk.ext hx0 (Blk.new' rfl)
 have hy:=Ext.trans (a:=w) EX hx0;clear hx;have hx:=hy;clear hy;have hn0:=BB hx0 (w.heap.size);have hn1:=BB hx0 (w.heap.size+1);have hn2:=BB hx0 (w.heap.size+1+1);have hn3:=BB hx0 (w.heap.size+1+1+1);(first | simp [↓heap_drew_at,↓heap_drewN_at,↓heap_alloc_at,↓heap_set_at,ne_two,ne_three,ne_two_left,ne_three_left,↓hb0.eq,hb0.lt,hb0.ne,↓hb1.eq,hb1.lt,hb1.ne,↓hb2.eq,hb2.lt,hb2.ne,↓hb3.eq,hb3.lt,hb3.ne] at hn0 hn1 hn2 hn3 | simp [↓heap_drew_at,↓heap_drewN_at,↓heap_alloc_at,↓heap_set_at,ne_two,ne_three,ne_two_left,ne_three_left] at hn0 hn1 hn2 hn3);(try clear hb0 hc0 hf0 hl0);(try clear hb1 hc1 hf1 hl1);(try clear hb2 hc2 hf2 hl2);(try clear hb3 hc3 hf3 hl3);have hb0:=Blk.mk hn0;clear hn0;obtain ⟨hc0,hf0,hl0⟩:=hb0.all;have hb1:=Blk.mk hn1;clear hn1;obtain ⟨hc1,hf1,hl1⟩:=hb1.all;have hb2:=Blk.mk hn2;clear hn2;obtain ⟨hc2,hf2,hl2⟩:=hb2.all;have hb3:=Blk.mk hn3;clear hn3;obtain ⟨hc3,hf3,hl3⟩:=hb3.all;(try clear hx0)
 obtain ⟨bX,hbe⟩:∃ n,n=w2.heap.size:=⟨_,rfl⟩
 rw [← hbe] at hbX hX4 ⊢
 have HBX:=Lib.hid hbe
 clear hbe
 have hcX:=hbX.cell
 have hfX:=hbX.frozen
 have hlX2:=hbX.lt
 by_cases zc:C.check=0
 rotate_left
 ·have h:=H4.out
  simp [zc] at h
 have ZC:=Lib.hid zc
 rw [ZC.out]
 clear zc
 go_upto_region 5 with fail
 go_cut [52] (fun u wx=>Ext w3 wx∧u=.bool g1)
 case first=>
  have hg:=HG1.out
  have hgv:g1=false:=by
   have h:=H4.out
   rw [ZC.out] at h
   revert h
   cases g1 <;> simp
  have HC0:=Lib.hid (fun W (hW:Ext w3 W)=>(hb0.ext hW).cell)
  have HC1:=Lib.hid (fun W (hW:Ext w3 W)=>(hb1.ext hW).cell)
  have HC2:=Lib.hid (fun W (hW:Ext w3 W)=>(hbX.ext hW).cell)
  clear HG1 HOK HVAL HM1 HM2 HX HEM HMO HI Q0 Q1 Q2 HY HBE IE1 IE2 HBX hb0 hb1 hb2 hb3 hc0 hc1 hc2 hc3 hf0 hf1 hf2 hf3 hl0 hl1 hl2 hl3 hbX hcX hfX hX4 hlX2 HG2
  cases e1:(nb'.toList == ([]:List UInt8))
  ·cases fr
   ·cases e3:(nb'.toList == na'.toList)
    ·skip
     rw [e1,e3] at hg
     have HG:=Lib.hid hg
     clear hg
     refine wp_region_ext (by kernel_rfl) (by kernel_rfl) ?_
     repeat (first | go_big_quiet_skip | (go_big_quiet_want;first | (go_big_quiet_op;go_big_quiet_on) | (apply quiet_at;intro W hW;have hc0:=HC0.out W hW;have hc1:=HC1.out W hW;have hc2:=HC2.out W hW;go_simp;(first | exact rfl | (simp only [Oper.quietUpon,true_and];first | exact rfl | ((first | (go_at_call 90;first | with_reducible exact quiet_call hW (HFb.out _) (fun _ _ h=>Ret.bcell h) | with_reducible exact quiet_call hW (HFa.out _) (fun _ _ h=>Ret.bcell h) | with_reducible exact quiet_call hW (HFC.out _) (fun _ _ h=>Ret.bcell h)) | (go_at_call 91;with_reducible exact quiet_call hW (HFR.out _) (fun _ _ h=>Ret.bcell h))))) | ((first | (go_at_call 90;first | with_reducible exact quiet_call hW (HFb.out _) (fun _ _ h=>Ret.bcell h) | with_reducible exact quiet_call hW (HFa.out _) (fun _ _ h=>Ret.bcell h) | with_reducible exact quiet_call hW (HFC.out _) (fun _ _ h=>Ret.bcell h)) | (go_at_call 91;with_reducible exact quiet_call hW (HFR.out _) (fun _ _ h=>Ret.bcell h)))));go_big_quiet_on;simp only [Act.put,sA,s0,sS])))
     refine wpQuiet_nil ?_
     intro w9 hx9
     go_wp2_with fail
     go_meet
     exact ⟨hx9,by rw [HG.out];simp⟩
    ·skip
     rw [e1,e3] at hg
     rw [hgv] at hg
     simp at hg
   ·cases e2:(nC.toList == a.path.toList)
    ·cases e3:(nb'.toList == na'.toList)
     ·skip
      rw [e1,e2,e3] at hg
      have HG:=Lib.hid hg
      clear hg
      refine wp_region_ext (by kernel_rfl) (by kernel_rfl) ?_
      repeat (first | go_big_quiet_skip | (go_big_quiet_want;first | (go_big_quiet_op;go_big_quiet_on) | (apply quiet_at;intro W hW;have hc0:=HC0.out W hW;have hc1:=HC1.out W hW;have hc2:=HC2.out W hW;go_simp;(first | exact rfl | (simp only [Oper.quietUpon,true_and];first | exact rfl | ((first | (go_at_call 90;first | with_reducible exact quiet_call hW (HFb.out _) (fun _ _ h=>Ret.bcell h) | with_reducible exact quiet_call hW (HFa.out _) (fun _ _ h=>Ret.bcell h) | with_reducible exact quiet_call hW (HFC.out _) (fun _ _ h=>Ret.bcell h)) | (go_at_call 91;with_reducible exact quiet_call hW (HFR.out _) (fun _ _ h=>Ret.bcell h))))) | ((first | (go_at_call 90;first | with_reducible exact quiet_call hW (HFb.out _) (fun _ _ h=>Ret.bcell h) | with_reducible exact quiet_call hW (HFa.out _) (fun _ _ h=>Ret.bcell h) | with_reducible exact quiet_call hW (HFC.out _) (fun _ _ h=>Ret.bcell h)) | (go_at_call 91;with_reducible exact quiet_call hW (HFR.out _) (fun _ _ h=>Ret.bcell h)))));go_big_quiet_on;simp only [Act.put,sA,s0,sS])))
      refine wpQuiet_nil ?_
      intro w9 hx9
      go_wp2_with fail
      go_meet
      exact ⟨hx9,by rw [HG.out];simp⟩
     ·skip
      rw [e1,e2,e3] at hg
      rw [hgv] at hg
      simp at hg
    ·skip
     rw [e1,e2] at hg
     rw [hgv] at hg
     simp at hg
  ·skip
   rw [e1] at hg
   have HG:=Lib.hid hg
   clear hg
   refine wp_region_ext (by kernel_rfl) (by kernel_rfl) ?_
   repeat (first | go_big_quiet_skip | (go_big_quiet_want;first | (go_big_quiet_op;go_big_quiet_on) | (apply quiet_at;intro W hW;have hc0:=HC0.out W hW;have hc1:=HC1.out W hW;have hc2:=HC2.out W hW;go_simp;(first | exact rfl | (simp only [Oper.quietUpon,true_and];first | exact rfl | ((first | (go_at_call 90;first | with_reducible exact quiet_call hW (HFb.out _) (fun _ _ h=>Ret.bcell h) | with_reducible exact quiet_call hW (HFa.out _) (fun _ _ h=>Ret.bcell h) | with_reducible exact quiet_call hW (HFC.out _) (fun _ _ h=>Ret.bcell h)) | (go_at_call 91;with_reducible exact quiet_call hW (HFR.out _) (fun _ _ h=>Ret.bcell h))))) | ((first | (go_at_call 90;first | with_reducible exact quiet_call hW (HFb.out _) (fun _ _ h=>Ret.bcell h) | with_reducible exact quiet_call hW (HFa.out _) (fun _ _ h=>Ret.bcell h) | with_reducible exact quiet_call hW (HFC.out _) (fun _ _ h=>Ret.bcell h)) | (go_at_call 91;with_reducible exact quiet_call hW (HFR.out _) (fun _ _ h=>Ret.bcell h)))));go_big_quiet_on;simp only [Act.put,sA,s0,sS])))
   refine wpQuiet_nil ?_
   intro w9 hx9
   go_wp2_with fail
   go_meet
   exact ⟨hx9,by rw [HG.out];simp⟩
 case rest=>
  obtain ⟨hx0,rfl⟩:=hcut
  have hy:=Ext.trans (a:=w) EX hx0;clear hx;have hx:=hy;clear hy;have hn0:=BB hx0 (w.heap.size);have hn1:=BB hx0 (w.heap.size+1);have hn2:=BB hx0 (w.heap.size+1+1);have hn3:=BB hx0 (w.heap.size+1+1+1);have hnX:=BB hx0 (bX);(first | simp [↓heap_drew_at,↓heap_drewN_at,↓heap_alloc_at,↓heap_set_at,ne_two,ne_three,ne_two_left,ne_three_left,↓hb0.eq,hb0.lt,hb0.ne,↓hb1.eq,hb1.lt,hb1.ne,↓hb2.eq,hb2.lt,hb2.ne,↓hb3.eq,hb3.lt,hb3.ne,↓hbX.eq,hbX.lt,hbX.ne] at hn0 hn1 hn2 hn3 hnX | simp [↓heap_drew_at,↓heap_drewN_at,↓heap_alloc_at,↓heap_set_at,ne_two,ne_three,ne_two_left,ne_three_left] at hn0 hn1 hn2 hn3 hnX);(try clear hb0 hc0 hf0 hl0);(try clear hb1 hc1 hf1 hl1);(try clear hb2 hc2 hf2 hl2);(try clear hb3 hc3 hf3 hl3);(try clear hbX hcX hfX hlX);have hb0:=Blk.mk hn0;clear hn0;obtain ⟨hc0,hf0,hl0⟩:=hb0.all;have hb1:=Blk.mk hn1;clear hn1;obtain ⟨hc1,hf1,hl1⟩:=hb1.all;have hb2:=Blk.mk hn2;clear hn2;obtain ⟨hc2,hf2,hl2⟩:=hb2.all;have hb3:=Blk.mk hn3;clear hn3;obtain ⟨hc3,hf3,hl3⟩:=hb3.all;have hbX:=Blk.mk hnX;clear hnX;obtain ⟨hcX,hfX,hlX⟩:=hbX.all;(try clear hx0)
  cases g1
  rotate_left
  ·have h:=H4.out
   rw [ZC.out] at h
   simp at h
  go_upto_region 7 with fail
  go_cut [10,11] (fun u10 u11 wx=>∃ gY:Nat,u10=.bool k2∧u11=.pointer (some ⟨gY,0,none⟩)∧ExBlk w bX gY (a.pv A1 c1 A2 c2) (b.pv B1 d1 B2 d2) (C.pv B1 d1 B2 d2) (D.pv A1 c1 A2 c2) wx)
  case first=>
   go_wp2_with fail
   refine (HM2.out _).mono ?_
   rintro e w4 ⟨rfl,hx0⟩
   have hy:=Ext.trans (a:=w) EX hx0;clear hx;have hx:=hy;clear hy;have hn0:=BB hx0 (w.heap.size);have hn1:=BB hx0 (w.heap.size+1);have hn2:=BB hx0 (w.heap.size+1+1);have hn3:=BB hx0 (w.heap.size+1+1+1);have hnX:=BB hx0 (bX);(first | simp [↓heap_drew_at,↓heap_drewN_at,↓heap_alloc_at,↓heap_set_at,ne_two,ne_three,ne_two_left,ne_three_left,↓hb0.eq,hb0.lt,hb0.ne,↓hb1.eq,hb1.lt,hb1.ne,↓hb2.eq,hb2.lt,hb2.ne,↓hb3.eq,hb3.lt,hb3.ne,↓hbX.eq,hbX.lt,hbX.ne] at hn0 hn1 hn2 hn3 hnX | simp [↓heap_drew_at,↓heap_drewN_at,↓heap_alloc_at,↓heap_set_at,ne_two,ne_three,ne_two_left,ne_three_left] at hn0 hn1 hn2 hn3 hnX);(try clear hb0 hc0 hf0 hl0);(try clear hb1 hc1 hf1 hl1);(try clear hb2 hc2 hf2 hl2);(try clear hb3 hc3 hf3 hl3);(try clear hbX hcX hfX hlX);have hb0:=Blk.mk hn0;clear hn0;obtain ⟨hc0,hf0,hl0⟩:=hb0.all;have hb1:=Blk.mk hn1;clear hn1;obtain ⟨hc1,hf1,hl1⟩:=hb1.all;have hb2:=Blk.mk hn2;clear hn2;obtain ⟨hc2,hf2,hl2⟩:=hb2.all;have hb3:=Blk.mk hn3;clear hn3;obtain ⟨hc3,hf3,hl3⟩:=hb3.all;have hbX:=Blk.mk hnX;clear hnX;obtain ⟨hcX,hfX,hlX⟩:=hbX.all;(try clear hx0)
   go_wp2_with fail
   go_meet
   exact ⟨_,rfl,rfl,hx.alloc _,hb0.alloc _,hb1.alloc _,hb2.alloc _,hb3.alloc _,hbX.alloc _,Blk.new' (by simp),hX4,hbX.lt⟩
  case rest=>
   clear hx hX4 hb0 hb1 hb2 hb3 hc0 hc1 hc2 hc3 hf0 hf1 hf2 hf3 hl0 hl1 hl2 hl3 hbX hcX hfX hlX
   obtain ⟨bY,rfl,rfl,hex⟩:=hcut
   have HEX:=Lib.hid hex
   obtain ⟨hx,hb0,hb1,hb2,hb3,hbX,hbY,hX4,hXY⟩:=hex
   obtain ⟨hc0,hf0,hl0⟩:=hb0.all
   obtain ⟨hc1,hf1,hl1⟩:=hb1.all
   obtain ⟨hc2,hf2,hl2⟩:=hb2.all
   obtain ⟨hc3,hf3,hl3⟩:=hb3.all
   obtain ⟨hcX,hfX,hlX⟩:=hbX.all
   obtain ⟨hcY,hfY,hlY⟩:=hbY.all
   obtain ⟨g3,hg3⟩:∃ g:Bool,g=(!k2 || g2):=⟨_,rfl⟩
   have HG3:=Lib.hid hg3
   clear hg3
   go_upto_region 8 with fail
   go_cut [74] (fun u wx=>(ExBlk w bX bY (a.pv A1 c1 A2 c2) (b.pv B1 d1 B2 d2) (C.pv B1 d1 B2 d2) (D.pv A1 c1 A2 c2) wx)∧u=.bool g3)
   case first=>
    have hg:g3=(!k2 || (!(nD.toList == ([]:List UInt8)) && (nD.toList == nC.toList))):=by rw [HG3.out,HG2.out]
    have hgv:g3=false:=by
     have h:=H5.out
     rw [HG3.out]
     revert h
     cases k2 <;> cases g2 <;> simp
    have HC0:=Lib.hid (fun W hW=>(hbX.ext (w':=W) hW).cell)
    have HC1:=Lib.hid (fun W hW=>(hbY.ext (w':=W) hW).cell)
    have HC2:=Lib.hid (fun W hW=>(hbX.ext (w':=W) hW).cell)
    clear HG1 HG2 HG3 HOK HVAL HM1 HM2 HX HEM HMO HI Q0 Q1 Q2 HY HBE IE1 IE2 HBX hb0 hb1 hb2 hb3 hc0 hc1 hc2 hc3 hf0 hf1 hf2 hf3 hl0 hl1 hl2 hl3 hbX hcX hfX hlX hbY hcY hfY hlY
    cases k2
    ·skip
     rw [hgv] at hg
     simp at hg
    ·cases e1:(nD.toList == ([]:List UInt8))
     ·cases e2:(nD.toList == nC.toList)
      ·skip
       rw [e1,e2] at hg
       have HG:=Lib.hid hg
       clear hg
       refine wp_region_ext (by kernel_rfl) (by kernel_rfl) ?_
       repeat (first | go_big_quiet_skip | (go_big_quiet_want;first | (go_big_quiet_op;go_big_quiet_on) | (apply quiet_at;intro W hW;have hc0:=HC0.out W hW;have hc1:=HC1.out W hW;have hc2:=HC2.out W hW;go_simp;(first | exact rfl | (simp only [Oper.quietUpon,true_and];first | exact rfl | ((go_at_call 90;first | with_reducible exact quiet_call hW (HFD.out _) (fun _ _ h=>Ret.bcell h) | with_reducible exact quiet_call hW (HFC.out _) (fun _ _ h=>Ret.bcell h)))) | ((go_at_call 90;first | with_reducible exact quiet_call hW (HFD.out _) (fun _ _ h=>Ret.bcell h) | with_reducible exact quiet_call hW (HFC.out _) (fun _ _ h=>Ret.bcell h))));go_big_quiet_on;simp only [Act.put,sA,s0,sS])))
       refine wpQuiet_nil ?_
       intro w9 hx9
       go_wp2_with fail
       go_meet
       exact ⟨HEX.out.ext hx9,by rw [HG.out];simp⟩
      ·skip
       rw [e1,e2] at hg
       rw [hgv] at hg
       simp at hg
     ·skip
      rw [e1] at hg
      have HG:=Lib.hid hg
      clear hg
      refine wp_region_ext (by kernel_rfl) (by kernel_rfl) ?_
      repeat (first | go_big_quiet_skip | (go_big_quiet_want;first | (go_big_quiet_op;go_big_quiet_on) | (apply quiet_at;intro W hW;have hc0:=HC0.out W hW;have hc1:=HC1.out W hW;have hc2:=HC2.out W hW;go_simp;(first | exact rfl | (simp only [Oper.quietUpon,true_and];first | exact rfl | ((go_at_call 90;first | with_reducible exact quiet_call hW (HFD.out _) (fun _ _ h=>Ret.bcell h) | with_reducible exact quiet_call hW (HFC.out _) (fun _ _ h=>Ret.bcell h)))) | ((go_at_call 90;first | with_reducible exact quiet_call hW (HFD.out _) (fun _ _ h=>Ret.bcell h) | with_reducible exact quiet_call hW (HFC.out _) (fun _ _ h=>Ret.bcell h))));go_big_quiet_on;simp only [Act.put,sA,s0,sS])))
      refine wpQuiet_nil ?_
      intro w9 hx9
      go_wp2_with fail
      go_meet
      exact ⟨HEX.out.ext hx9,by rw [HG.out];simp⟩
   case rest=>
    clear hx hX4 hXY HEX hb0 hb1 hb2 hb3 hc0 hc1 hc2 hc3 hf0 hf1 hf2 hf3 hl0 hl1 hl2 hl3 hbX hcX hfX hlX hbY hcY hfY hlY
    obtain ⟨hex,rfl⟩:=hcut
    have HEX:=Lib.hid hex
    obtain ⟨hx,hb0,hb1,hb2,hb3,hbX,hbY,hX4,hXY⟩:=hex
    obtain ⟨hc0,hf0,hl0⟩:=hb0.all
    obtain ⟨hc1,hf1,hl1⟩:=hb1.all
    obtain ⟨hc2,hf2,hl2⟩:=hb2.all
    obtain ⟨hc3,hf3,hl3⟩:=hb3.all
    obtain ⟨hcX,hfX,hlX⟩:=hbX.all
    obtain ⟨hcY,hfY,hlY⟩:=hbY.all
    cases g3
    rotate_left
    ·have h:=H5.out
     have h2:=HG3.out
     revert h h2
     cases k2 <;> cases g2 <;> simp
    obtain ⟨rfl,rfl⟩:=or_parts HG3.out
    obtain ⟨g4,hg4⟩:∃ g:Bool,g=(k4 && k5):=⟨_,rfl⟩
    have HG4:=Lib.hid hg4
    clear hg4
    go_upto_region 10 with fail
    go_cut [107] (fun u wx=>(ExBlk w bX bY (a.pv A1 c1 A2 c2) (b.pv B1 d1 B2 d2) (C.pv B1 d1 B2 d2) (D.pv A1 c1 A2 c2) wx)∧u=.bool (!g4))
    case first=>
     have hg:g4=((b.kind != 4 || (!fr || !be)) && (a.kind != 5 || (b.kind != 5 || !(a.to_.toList == b.path.toList)))):=by rw [HG4.out,HEM.out,HMO.out]
     have e4:(b.kind == 4)=false:=HKB.out
     have HG:=Lib.hid hg
     clear hg HG1 HG2 HG3 HG4 HOK HVAL HM1 HM2 HX HEM HMO HI Q0 Q1 Q2 HY IE1 IE2 HBX HFa HFb HFC HFD HEX
     go_wp2_with (first
      | (go_at_call 91;refine (HFR.out _).mono ?_;rintro e w5 ⟨rfl,hx0⟩;have hy:=Ext.trans (a:=w) EX hx0;clear hx;have hx:=hy;clear hy;have hn0:=BB hx0 (w.heap.size);have hn1:=BB hx0 (w.heap.size+1);have hn2:=BB hx0 (w.heap.size+1+1);have hn3:=BB hx0 (w.heap.size+1+1+1);have hnX:=BB hx0 (bX);have hnY:=BB hx0 (bY);(first | simp [↓heap_drew_at,↓heap_drewN_at,↓heap_alloc_at,↓heap_set_at,ne_two,ne_three,ne_two_left,ne_three_left,ne_four,ne_five,ne_six,ne_four_left,ne_five_left,ne_six_left,↓hb0.eq,hb0.lt,hb0.ne,↓hb1.eq,hb1.lt,hb1.ne,↓hb2.eq,hb2.lt,hb2.ne,↓hb3.eq,hb3.lt,hb3.ne,↓hbX.eq,hbX.lt,hbX.ne,↓hbY.eq,hbY.lt,hbY.ne] at hn0 hn1 hn2 hn3 hnX hnY | simp [↓heap_drew_at,↓heap_drewN_at,↓heap_alloc_at,↓heap_set_at,ne_two,ne_three,ne_two_left,ne_three_left,ne_four,ne_five,ne_six,ne_four_left,ne_five_left,ne_six_left] at hn0 hn1 hn2 hn3 hnX hnY);(try clear hb0 hc0 hf0 hl0);(try clear hb1 hc1 hf1 hl1);(try clear hb2 hc2 hf2 hl2);(try clear hb3 hc3 hf3 hl3);(try clear hbX hcX hfX hlX);(try clear hbY hcY hfY hlY);have hb0:=Blk.mk hn0;clear hn0;obtain ⟨hc0,hf0,hl0⟩:=hb0.all;have hb1:=Blk.mk hn1;clear hn1;obtain ⟨hc1,hf1,hl1⟩:=hb1.all;have hb2:=Blk.mk hn2;clear hn2;obtain ⟨hc2,hf2,hl2⟩:=hb2.all;have hb3:=Blk.mk hn3;clear hn3;obtain ⟨hc3,hf3,hl3⟩:=hb3.all;have hbX:=Blk.mk hnX;clear hnX;obtain ⟨hcX,hfX,hlX⟩:=hbX.all;have hbY:=Blk.mk hnY;clear hnY;obtain ⟨hcY,hfY,hlY⟩:=hbY.all;(try clear hx0))
      | (go_at_call 85;refine (HBE.out _).mono ?_;rintro e w5 ⟨rfl,hx0⟩;have hy:=Ext.trans (a:=w) EX hx0;clear hx;have hx:=hy;clear hy;have hn0:=BB hx0 (w.heap.size);have hn1:=BB hx0 (w.heap.size+1);have hn2:=BB hx0 (w.heap.size+1+1);have hn3:=BB hx0 (w.heap.size+1+1+1);have hnX:=BB hx0 (bX);have hnY:=BB hx0 (bY);(first | simp [↓heap_drew_at,↓heap_drewN_at,↓heap_alloc_at,↓heap_set_at,ne_two,ne_three,ne_two_left,ne_three_left,ne_four,ne_five,ne_six,ne_four_left,ne_five_left,ne_six_left,↓hb0.eq,hb0.lt,hb0.ne,↓hb1.eq,hb1.lt,hb1.ne,↓hb2.eq,hb2.lt,hb2.ne,↓hb3.eq,hb3.lt,hb3.ne,↓hbX.eq,hbX.lt,hbX.ne,↓hbY.eq,hbY.lt,hbY.ne] at hn0 hn1 hn2 hn3 hnX hnY | simp [↓heap_drew_at,↓heap_drewN_at,↓heap_alloc_at,↓heap_set_at,ne_two,ne_three,ne_two_left,ne_three_left,ne_four,ne_five,ne_six,ne_four_left,ne_five_left,ne_six_left] at hn0 hn1 hn2 hn3 hnX hnY);(try clear hb0 hc0 hf0 hl0);(try clear hb1 hc1 hf1 hl1);(try clear hb2 hc2 hf2 hl2);(try clear hb3 hc3 hf3 hl3);(try clear hbX hcX hfX hlX);(try clear hbY hcY hfY hlY);have hb0:=Blk.mk hn0;clear hn0;obtain ⟨hc0,hf0,hl0⟩:=hb0.all;have hb1:=Blk.mk hn1;clear hn1;obtain ⟨hc1,hf1,hl1⟩:=hb1.all;have hb2:=Blk.mk hn2;clear hn2;obtain ⟨hc2,hf2,hl2⟩:=hb2.all;have hb3:=Blk.mk hn3;clear hn3;obtain ⟨hc3,hf3,hl3⟩:=hb3.all;have hbX:=Blk.mk hnX;clear hnX;obtain ⟨hcX,hfX,hlX⟩:=hbX.all;have hbY:=Blk.mk hnY;clear hnY;obtain ⟨hcY,hfY,hlY⟩:=hbY.all;(try clear hx0)))
     all_goals
      go_meet
      refine ⟨⟨hx,hb0,hb1,hb2,hb3,hbX,hbY,hX4,hXY⟩,?_⟩
      clear hc0 hc1 hc2 hc3 hcX hcY hf0 hf1 hf2 hf3 hfX hfY
      have e4n:¬ b.kind=4:=by simpa using e4
      rw [HG.out]
      simp [*]
    case rest=>
     clear hx hX4 hXY HEX hb0 hb1 hb2 hb3 hc0 hc1 hc2 hc3 hf0 hf1 hf2 hf3 hl0 hl1 hl2 hl3 hbX hcX hfX hlX hbY hcY hfY hlY
     obtain ⟨hex,rfl⟩:=hcut
     have HEX:=Lib.hid hex
     obtain ⟨hx,hb0,hb1,hb2,hb3,hbX,hbY,hX4,hXY⟩:=hex
     obtain ⟨hc0,hf0,hl0⟩:=hb0.all
     obtain ⟨hc1,hf1,hl1⟩:=hb1.all
     obtain ⟨hc2,hf2,hl2⟩:=hb2.all
     obtain ⟨hc3,hf3,hl3⟩:=hb3.all
     obtain ⟨hcX,hfX,hlX⟩:=hbX.all
     obtain ⟨hcY,hfY,hlY⟩:=hbY.all
     cases g4
     ·exact absurd (HG4.out.trans H6.out) (by decide)
     obtain ⟨rfl,rfl⟩:=and_parts HG4.out
     go_upto_region 12 with fail
     go_cut [10] (fun u wx=>ExBlk w bX bY (a.pv A1 c1 A2 c2) (b.pv B1 d1 B2 d2) Y1 Y2 wx∧u=.bool k6)
     case first=>
      go_wp2_with fail
      refine (HX.out (by simp) _).mono ?_
      rintro e w4 ⟨rfl,hx0⟩
      have hy:=Ext.trans (a:=w) EX hx0;clear hx;have hx:=hy;clear hy;have hn0:=BB hx0 (w.heap.size);have hn1:=BB hx0 (w.heap.size+1);have hn2:=BB hx0 (w.heap.size+1+1);have hn3:=BB hx0 (w.heap.size+1+1+1);have hnX:=BB hx0 (bX);have hnY:=BB hx0 (bY);(first | simp [↓heap_drew_at,↓heap_drewN_at,↓heap_alloc_at,↓heap_set_at,ne_two,ne_three,ne_two_left,ne_three_left,ne_four,ne_five,ne_six,ne_four_left,ne_five_left,ne_six_left,↓hb0.eq,hb0.lt,hb0.ne,↓hb1.eq,hb1.lt,hb1.ne,↓hb2.eq,hb2.lt,hb2.ne,↓hb3.eq,hb3.lt,hb3.ne,↓hbX.eq,hbX.lt,hbX.ne,↓hbY.eq,hbY.lt,hbY.ne] at hn0 hn1 hn2 hn3 hnX hnY | simp [↓heap_drew_at,↓heap_drewN_at,↓heap_alloc_at,↓heap_set_at,ne_two,ne_three,ne_two_left,ne_three_left,ne_four,ne_five,ne_six,ne_four_left,ne_five_left,ne_six_left] at hn0 hn1 hn2 hn3 hnX hnY);(try clear hb0 hc0 hf0 hl0);(try clear hb1 hc1 hf1 hl1);(try clear hb2 hc2 hf2 hl2);(try clear hb3 hc3 hf3 hl3);(try clear hbX hcX hfX hlX);(try clear hbY hcY hfY hlY);have hb0:=Blk.mk hn0;clear hn0;obtain ⟨hc0,hf0,hl0⟩:=hb0.all;have hb1:=Blk.mk hn1;clear hn1;obtain ⟨hc1,hf1,hl1⟩:=hb1.all;have hb2:=Blk.mk hn2;clear hn2;obtain ⟨hc2,hf2,hl2⟩:=hb2.all;have hb3:=Blk.mk hn3;clear hn3;obtain ⟨hc3,hf3,hl3⟩:=hb3.all;have hbX:=Blk.mk hnX;clear hnX;obtain ⟨hcX,hfX,hlX⟩:=hbX.all;have hbY:=Blk.mk hnY;clear hnY;obtain ⟨hcY,hfY,hlY⟩:=hbY.all;(try clear hx0)
      go_wp2_with fail
      go_meet
      have nx0:(w.heap.size=bX)=False:=eq_false (by omega)
      have ny0:(w.heap.size=bY)=False:=eq_false (by omega)
      have nx1:(w.heap.size+1=bX)=False:=eq_false (by omega)
      have ny1:(w.heap.size+1=bY)=False:=eq_false (by omega)
      have nx2:(w.heap.size+1+1=bX)=False:=eq_false (by omega)
      have ny2:(w.heap.size+1+1=bY)=False:=eq_false (by omega)
      have nx3:(w.heap.size+1+1+1=bX)=False:=eq_false (by omega)
      have ny3:(w.heap.size+1+1+1=bY)=False:=eq_false (by omega)
      have nxy:(bX=bY)=False:=eq_false (by omega)
      have nyx:(bY=bX)=False:=eq_false (by omega)
      refine ⟨⟨?_,?_,?_,?_,?_,?_,?_,hX4,hXY⟩,rfl⟩
      ·exact EX
      ·exact Blk.mk (by simp [↓heap_drew_at,↓heap_drewN_at,↓heap_alloc_at,↓heap_set_at,nx0,nx1,nx2,nx3,ny0,ny1,ny2,ny3,nxy,nyx,↓hb0.eq,hb0.lt,hb0.ne,↓hb1.eq,hb1.lt,hb1.ne,↓hb2.eq,hb2.lt,hb2.ne,↓hb3.eq,hb3.lt,hb3.ne,↓hbX.eq,hbX.lt,hbX.ne,↓hbY.eq,hbY.lt,hbY.ne])
      ·exact Blk.mk (by simp [↓heap_drew_at,↓heap_drewN_at,↓heap_alloc_at,↓heap_set_at,nx0,nx1,nx2,nx3,ny0,ny1,ny2,ny3,nxy,nyx,↓hb0.eq,hb0.lt,hb0.ne,↓hb1.eq,hb1.lt,hb1.ne,↓hb2.eq,hb2.lt,hb2.ne,↓hb3.eq,hb3.lt,hb3.ne,↓hbX.eq,hbX.lt,hbX.ne,↓hbY.eq,hbY.lt,hbY.ne])
      ·exact Blk.mk (by simp [↓heap_drew_at,↓heap_drewN_at,↓heap_alloc_at,↓heap_set_at,nx0,nx1,nx2,nx3,ny0,ny1,ny2,ny3,nxy,nyx,↓hb0.eq,hb0.lt,hb0.ne,↓hb1.eq,hb1.lt,hb1.ne,↓hb2.eq,hb2.lt,hb2.ne,↓hb3.eq,hb3.lt,hb3.ne,↓hbX.eq,hbX.lt,hbX.ne,↓hbY.eq,hbY.lt,hbY.ne])
      ·exact Blk.mk (by simp [↓heap_drew_at,↓heap_drewN_at,↓heap_alloc_at,↓heap_set_at,nx0,nx1,nx2,nx3,ny0,ny1,ny2,ny3,nxy,nyx,↓hb0.eq,hb0.lt,hb0.ne,↓hb1.eq,hb1.lt,hb1.ne,↓hb2.eq,hb2.lt,hb2.ne,↓hb3.eq,hb3.lt,hb3.ne,↓hbX.eq,hbX.lt,hbX.ne,↓hbY.eq,hbY.lt,hbY.ne])
      ·exact Blk.mk (by simp [↓heap_drew_at,↓heap_drewN_at,↓heap_alloc_at,↓heap_set_at,nx0,nx1,nx2,nx3,ny0,ny1,ny2,ny3,nxy,nyx,↓hb0.eq,hb0.lt,hb0.ne,↓hb1.eq,hb1.lt,hb1.ne,↓hb2.eq,hb2.lt,hb2.ne,↓hb3.eq,hb3.lt,hb3.ne,↓hbX.eq,hbX.lt,hbX.ne,↓hbY.eq,hbY.lt,hbY.ne])
      ·exact Blk.mk (by simp [↓heap_drew_at,↓heap_drewN_at,↓heap_alloc_at,↓heap_set_at,nx0,nx1,nx2,nx3,ny0,ny1,ny2,ny3,nxy,nyx,↓hb0.eq,hb0.lt,hb0.ne,↓hb1.eq,hb1.lt,hb1.ne,↓hb2.eq,hb2.lt,hb2.ne,↓hb3.eq,hb3.lt,hb3.ne,↓hbX.eq,hbX.lt,hbX.ne,↓hbY.eq,hbY.lt,hbY.ne])
     case rest=>
      clear hx hX4 hXY HEX hb0 hb1 hb2 hb3 hc0 hc1 hc2 hc3 hf0 hf1 hf2 hf3 hl0 hl1 hl2 hl3 hbX hcX hfX hlX hbY hcY hfY hlY
      obtain ⟨hex,rfl⟩:=hcut
      have HEX:=Lib.hid hex
      obtain ⟨hx,hb0,hb1,hb2,hb3,hbX,hbY,hX4,hXY⟩:=hex
      cases k6
      ·have HZ:Hid (R.2.2=false):=Lib.hid (by rw [HOK.out];simp)
       clear HOK HVAL HM1 HM2 HX HEM HMO HI Q0 Q1 Q2 HBE HBX HFa HFb HFC HFD HFR HG1 HG2 HG3 HG4
       obtain ⟨hc0,hf0,hl0⟩:=hb0.all
       obtain ⟨hc1,hf1,hl1⟩:=hb1.all
       obtain ⟨hc2,hf2,hl2⟩:=hb2.all
       obtain ⟨hc3,hf3,hl3⟩:=hb3.all
       obtain ⟨hcX,hfX,hlX⟩:=hbX.all
       obtain ⟨hcY,hfY,hlY⟩:=hbY.all
       go_upto_region 13 with fail
       have le2:w.heap.size≤w.heap.size+1+1:=by omega
       have le3:w.heap.size≤w.heap.size+1+1+1:=by omega
       have n23:w.heap.size+1+1+1≠w.heap.size+1+1:=by omega
       have m1:w.heap.size+1+1≠bX:=by omega
       have m2:w.heap.size+1+1+1≠bX:=by omega
       have m3:w.heap.size+1+1≠bY:=by omega
       have m4:w.heap.size+1+1+1≠bY:=by omega
       have hv0:=And.intro (hbX.drew.range 0 (parr Y1).toList (fun j _=>by rw [Nat.zero_add,Array.getElem?_toList])) (hbY.drew.range 0 (parr Y2).toList (fun j _=>by rw [Nat.zero_add,Array.getElem?_toList]))
       have kb2:=hb2.drew
       have kb3:=hb3.drew
       have hy:=hx.drew1
       refine wp_region_noPanic (wp_region_held_drew (S:=fun w'=>w'.rangeAt bX 0 (parr Y1).toList∧w'.rangeAt bY 0 (parr Y2).toList) (by kernel_rfl) hv0 (fun hH=>?_))
       clear hv0
       refine tl (i:=0) (parr Y1).toList rfl rfl rfl rfl rfl Tryz.underlying42 rfl (fun _ h=>h.1) hH ?_
       try simp only [Act.put,sA,s0,sS]
       refine tl (i:=1) (parr Y2).toList rfl rfl rfl rfl rfl Tryz.underlying42 rfl (fun _ h=>h.2) hH ?_
       try simp only [Act.put,sA,s0,sS]
       refine tf (i:=2) (v:=.bool false) rfl rfl (fun _=>rfl) hH ?_
       try simp only [Act.put,sA,s0,sS]
       refine tf (i:=3) (v:=.bool false) rfl rfl (fun _=>rfl) hH ?_
       try simp only [Act.put,sA,s0,sS]
       refine tk (i:=4) rfl rfl hH ?_
       try simp only [Act.put,sA,s0,sS]
       refine tk (i:=5) rfl rfl hH ?_
       try simp only [Act.put,sA,s0,sS]
       refine tk (i:=6) rfl rfl hH ?_
       try simp only [Act.put,sA,s0,sS]
       refine tf (i:=7) (v:=.bool false) rfl rfl (fun _=>rfl) hH ?_
       try simp only [Act.put,sA,s0,sS]
       refine tf (i:=8) (v:=.bool false) rfl rfl (fun _=>rfl) hH ?_
       try simp only [Act.put,sA,s0,sS]
       refine tk (i:=9) rfl rfl hH ?_
       try simp only [Act.put,sA,s0,sS]
       refine tk (i:=10) rfl rfl hH ?_
       try simp only [Act.put,sA,s0,sS]
       refine tk (i:=11) rfl rfl hH ?_
       try simp only [Act.put,sA,s0,sS]
       refine tf (i:=12) (v:=.bool false) rfl rfl (fun _=>rfl) hH ?_
       try simp only [Act.put,sA,s0,sS]
       refine two_stores (n:=13) (u:=.bool false) (v1:=parr Y1) (v2:=parr Y2) (by kernel_rfl) (by kernel_rfl) (by kernel_rfl) (by kernel_rfl) rfl rfl rfl rfl rfl rfl rfl rfl rfl rfl rfl rfl rfl rfl rfl rfl rfl kb2 kb3 rfl rfl n23 (by kernel_rfl) (by kernel_rfl) (by first | rfl | simp [Value.oneCell']) (by first | rfl | simp [Value.oneCell']) ⟨World.rangeAt_setCells_apart hH.1 _ _ _ (.inl m1.symm),World.rangeAt_setCells_apart hH.2 _ _ _ (.inl m3.symm)⟩
        ⟨World.rangeAt_setCells_apart (World.rangeAt_setCells_apart hH.1 _ _ _ (.inl m1.symm)) _ _ _ (.inl m2.symm),World.rangeAt_setCells_apart (World.rangeAt_setCells_apart hH.2 _ _ _ (.inl m3.symm)) _ _ _ (.inl m4.symm)⟩ (fun W k2 k3 hst=>NoPanic.normal ?_) _
       have hxe:=hst.ext w hy le2 le3
       clear hst hH hy kb2 kb3
       clear hx
       have hx:=hxe
       clear hxe
       obtain ⟨hc2,hf2,hl2⟩:=k2.all
       obtain ⟨hc3,hf3,hl3⟩:=k3.all
       try simp only [Act.put,sA,s0,sS]
       go_wp2_with fail
       refine bodyPost_ret (v:=.tuple #[Y1.v,Y2.v,.bool false]) ?_ rfl ?_
       ·simp only [results,Tryz.results70]
        go_simp
        (try simp)
       ·exact ⟨_,_,by rw [HZ.out],EX,fun h=>by rw [HZ.out] at h;cases h⟩
      exact absurd H7.out (by decide)
end Go.Proofs.YtlbhaimfjfdppaaGreatDoor
namespace Go.Proofs.YtlbhaimfjfdppaaGreatDoor
open Go.RowKit Pa
set_option maxHeartbeats 16000000 in
set_option maxRecDepth 100000 in
theorem rex3k (p p':Pv) (a b:Qp) (w:World) {F:Nat→Prop} (ha:Is w F p a) (hb:Is w F p' b) (hca:a.check=0) (hcb:b.check=0) (h4:Rq.ok4 a b=true) (h5:Rq.ok5 a b=true) (h6:Rq.ok6 a b=true) (h7:Rq.ok7 a b=false) (hkb:(b.kind == 4)=true):
 Calls Tryz.prog 70 #[p.v,p'.v] w (GivesIf F (a.run b) w):=by
 have HA:=Lib.hid ha
 have HB:=Lib.hid hb
 obtain ⟨A1,c1,A2,c2,rfl,fa⟩:=ha
 obtain ⟨B1,d1,B2,d2,rfl,fb⟩:=hb
 have sa:=Qp.bounds hca
 have sb:=Qp.bounds hcb
 have si:=Qp.inv_bounds hca
 have na:=Qp.small hca
 have nb:=Qp.small hcb
 have la:=lines_small hca
 have lb:=lines_small hcb
 have ka:=(check_parts hca).1
 obtain ⟨sa1,sa2,sa3,sa4,sa5,sa6⟩:=sa
 obtain ⟨sb1,sb2,sb3,sb4,sb5,sb6⟩:=sb
 have hI:∀ W,Ext w W→Calls Tryz.prog 59 #[(a.pv A1 c1 A2 c2).v] W (Ret (.tuple #[(a.inv.pv A2 c2 A1 c1).v,.int .i64 0]) W):=fun W hW=>by
  rw [← rinv_pv hca A1 c1 A2 c2]
  exact rinv_any _ W ka (fun W' hW'=>by
   have h:=rcheck_q _ a W' (HA.out.ext (hW.trans hW')) (by omega) (by omega) (by omega) (by omega) la.1 la.2
   rw [hca] at h
   exact h)
 have hM1:∀ W,Calls Tryz.prog 89 #[(b.pv B1 d1 B2 d2).v,(a.inv.pv A2 c2 A1 c1).v] W (Ret (.tuple #[((Rq.moved b a.inv).1.pv B1 d1 B2 d2).v,.bool (Rq.moved b a.inv).2]) W):=fun W=>by
  have h:=rmoved_any (b.pv B1 d1 B2 d2) (a.inv.pv A2 c2 A1 c1) W (by show a.inv.path.size≤_;omega) (by show a.inv.to_.size≤_;omega) (by show b.path.size≤_;omega) (by show b.to_.size≤_;omega)
  rw [rmoved_pv] at h
  exact h
 have hok:=rok_run hca hcb
 have hval:=ok_run hca hcb
 unfold Rq.ok at hok hval
 unfold Rq.ok4 at h4
 unfold Rq.ok5 at h5
 unfold Rq.ok6 at h6
 unfold Rq.ok7 at h7
 have szC:=rmoved_small b a.inv 200 (by omega) (by omega) (by omega)
 have oC:(Rq.moved b a.inv).1.old=b.old∧(Rq.moved b a.inv).1.new=b.new∧(Rq.moved b a.inv).1.at_=b.at_∧(Rq.moved b a.inv).1.kind=b.kind:=⟨rfl,rfl,rfl,rfl⟩
 generalize Rq.moved b a.inv=C at hM1 hok hval szC oC h4 h5 h6 h7
 have hM2:∀ W,Calls Tryz.prog 89 #[(a.pv A1 c1 A2 c2).v,(C.1.pv B1 d1 B2 d2).v] W (Ret (.tuple #[((Rq.moved a C.1).1.pv A1 c1 A2 c2).v,.bool (Rq.moved a C.1).2]) W):=fun W=>by
  have h:=rmoved_any (a.pv A1 c1 A2 c2) (C.1.pv B1 d1 B2 d2) W (by show C.1.path.size≤_;omega) (by show C.1.to_.size≤_;omega) (by show a.path.size≤_;omega) (by show a.to_.size≤_;omega)
  rw [rmoved_pv] at h
  exact h
 have szD:=rmoved_small a C.1 600 (by omega) (by omega) (by omega)
 have oD:(Rq.moved a C.1).1.old=a.old∧(Rq.moved a C.1).1.new=a.new∧(Rq.moved a C.1).1.at_=a.at_∧(Rq.moved a C.1).1.kind=a.kind:=⟨rfl,rfl,rfl,rfl⟩
 have hx:Qm.adds a.kind=false→Qm.eqB a.path C.1.path=true→b.kind=2→(Rq.moved a C.1).2=true→6≤a.kind:=fun h1 h2 h3 h4=>by
  rw [removal_met h1 (by rw [oC.2.2.2,h3]) h2] at h4
  cases h4
 generalize Rq.moved a C.1=D at hM2 hok hval szD oD hx h5 h7
 obtain ⟨C,k1⟩:=C
 obtain ⟨D,k2⟩:=D
 dsimp only at hM1 hM2 hok hval szC oC szD oD hx h4 h5 h6 h7
 have hcp:=contents_pv a b C D A1 c1 A2 c2 B1 d1 B2 d2 ⟨oC.1,oC.2.1,oC.2.2.1⟩ ⟨oD.1,oD.2.1,oD.2.2.1⟩
 have hcs:=contents_same a b C D
 have hX:k2=true→∀ W,Calls Tryz.prog 92 #[(a.pv A1 c1 A2 c2).v,(b.pv B1 d1 B2 d2).v,(C.pv B1 d1 B2 d2).v,(D.pv A1 c1 A2 c2).v] W (Ret (.tuple #[(Pv.xcontents (a.pv A1 c1 A2 c2) (b.pv B1 d1 B2 d2) (C.pv B1 d1 B2 d2) (D.pv A1 c1 A2 c2)).1.v,(Pv.xcontents (a.pv A1 c1 A2 c2) (b.pv B1 d1 B2 d2) (C.pv B1 d1 B2 d2) (D.pv A1 c1 A2 c2)).2.1.v,.bool (Pv.xcontents (a.pv A1 c1 A2 c2) (b.pv B1 d1 B2 d2) (C.pv B1 d1 B2 d2) (D.pv A1 c1 A2 c2)).2.2]) W):=
  fun h W=>rxcontent_any _ _ _ _ W ka (fun h1 h2 h3=>hx h1 h2 h3 h) sa3 sa4 sb3 sb4 sa5 sa6 sb5 sb6 ⟨by show a.old.length≤_;omega,by show a.new.length≤_;omega⟩ ⟨by show b.old.length≤_;omega,by show b.new.length≤_;omega⟩
 generalize Pv.xcontents (a.pv A1 c1 A2 c2) (b.pv B1 d1 B2 d2) (C.pv B1 d1 B2 d2) (D.pv A1 c1 A2 c2)=Y at hX hcp
 generalize Qp.contents a b C D=E at hcp hcs hok hval h7
 obtain ⟨E1,E2,e6⟩:=E
 obtain ⟨Y1,Y2,k6⟩:=Y
 dsimp only at hcp hcs hX hok hval h7
 obtain ⟨hcp0,hcp1⟩:=hcp
 subst hcp0
 have iC:Is w F (C.pv B1 d1 B2 d2) C:=⟨B1,d1,B2,d2,rfl,by rw [oC.1,oC.2.1];exact fb⟩
 have ie1:Is w F (E1.pv B1 d1 B2 d2) E1:=by
  refine ⟨B1,d1,B2,d2,rfl,?_⟩
  rw [hcs.1.1,hcs.1.2.1,oC.1,oC.2.1]
  exact fb
 have ie2:Is w F (E2.pv A1 c1 A2 c2) E2:=by
  refine ⟨A1,c1,A2,c2,rfl,?_⟩
  rw [hcs.2.1,hcs.2.2.1,oD.1,oD.2.1]
  exact fa
 have q0:∀ W,Ext w W→Calls Tryz.prog 69 #[(C.pv B1 d1 B2 d2).v] W (Ret (.int .i64 C.check) W):=fun W hW=>
  rcheck_q _ C W (iC.ext hW) (by rw [oC.1];omega) (by rw [oC.2.1];omega) (by omega) (by omega) (by rw [oC.1];exact lb.1) (by rw [oC.2.1];exact lb.2)
 have q1:∀ W,Ext w W→Calls Tryz.prog 69 #[(E1.pv B1 d1 B2 d2).v] W (Ret (.int .i64 E1.check) W):=fun W hW=>
  rcheck_q _ E1 W (ie1.ext hW) (by rw [hcs.1.1,oC.1];omega) (by rw [hcs.1.2.1,oC.2.1];omega) (by rw [hcs.1.2.2.1];omega) (by rw [hcs.1.2.2.2];omega) (by rw [hcs.1.1,oC.1];exact lb.1) (by rw [hcs.1.2.1,oC.2.1];exact lb.2)
 have q2:∀ W,Ext w W→Calls Tryz.prog 69 #[(E2.pv A1 c1 A2 c2).v] W (Ret (.int .i64 E2.check) W):=fun W hW=>
  rcheck_q _ E2 W (ie2.ext hW) (by rw [hcs.2.1,oD.1];omega) (by rw [hcs.2.2.1,oD.2.1];omega) (by rw [hcs.2.2.2.1];omega) (by rw [hcs.2.2.2.2];omega) (by rw [hcs.2.1,oD.1];exact la.1) (by rw [hcs.2.2.1,oD.2.1];exact la.2)
 have hFb:∀ W,Calls Tryz.prog 90 #[(b.pv B1 d1 B2 d2).v] W (Ret (.string (Rq.fresh b)) W):=fun W=>rfresh_any _ W
 have hFa:∀ W,Calls Tryz.prog 90 #[(a.pv A1 c1 A2 c2).v] W (Ret (.string (Rq.fresh a)) W):=fun W=>rfresh_any _ W
 have hFC:∀ W,Calls Tryz.prog 90 #[(C.pv B1 d1 B2 d2).v] W (Ret (.string (Rq.fresh C)) W):=fun W=>rfresh_any _ W
 have hFD:∀ W,Calls Tryz.prog 90 #[(D.pv A1 c1 A2 c2).v] W (Ret (.string (Rq.fresh D)) W):=fun W=>rfresh_any _ W
 have hfr:∀ W,Calls Tryz.prog 91 #[(a.pv A1 c1 A2 c2).v] W (Ret (.bool (Qm.frees a.kind)) W):=fun W=>rfrees_any _ W
 have hbe:∀ W,Calls Tryz.prog 85 #[.string a.path,.string C.path] W (Ret (.bool (Qm.below a.path C.path)) W):=fun W=>rbelow_any _ _ W (by omega)
 have hem:Qp.empty a b C=(b.kind != 4 || (!Qm.frees a.kind || !Qm.below a.path C.path)):=rfl
 have hmo:Qp.moves a b=(a.kind != 5 || (b.kind != 5 || !Qm.eqB a.to_ b.path)):=rfl
 generalize Qp.empty a b C=k4 at hok hval hem h6
 generalize Qp.moves a b=k5 at hok hval hmo h6
 generalize Qm.frees a.kind=fr at hok hval hfr hem h4
 generalize Qm.below a.path C.path=be at hbe hem
 generalize Rq.fresh b=nb' at hok hval hFb h4
 generalize Rq.fresh a=na' at hok hval hFa h4
 generalize Rq.fresh C=nC at hok hval hFC h4 h5
 generalize Rq.fresh D=nD at hok hval hFD h5
 have ee:(ByteArray.mk #[]).toList=([]:List UInt8):=by rw [ByteArray.toList_eq]
 obtain ⟨g1,hg1⟩:∃ g1:Bool,g1=(!(nb'.toList == ([]:List UInt8)) && ((fr && (nC.toList == a.path.toList)) || (nb'.toList == na'.toList))):=⟨_,rfl⟩
 obtain ⟨g2,hg2⟩:∃ g2:Bool,g2=(!(nD.toList == ([]:List UInt8)) && (nD.toList == nC.toList)):=⟨_,rfl⟩
 unfold Qm.eqB at hok hval hmo h4 h5
 rw [ee,← hg1,← hg2] at hok hval
 rw [ee,← hg1] at h4
 rw [ee,← hg2] at h5
 generalize a.run b=R at hok hval ⊢
 have HI:=Lib.hid hI
 have H4:=Lib.hid h4
 have H5:=Lib.hid h5
 have H6:=Lib.hid h6
 have HKB:=Lib.hid hkb
 have H7:=Lib.hid h7
 have HM1:=Lib.hid hM1
 have HM2:=Lib.hid hM2
 have HX:=Lib.hid hX
 have Q0:=Lib.hid q0
 have Q1:=Lib.hid q1
 have Q2:=Lib.hid q2
 dsimp only [Pv.v,Qp.pv] at hFb hFa hFC hFD hfr
 have HFb:=Lib.hid hFb
 have HFa:=Lib.hid hFa
 have HFC:=Lib.hid hFC
 have HFD:=Lib.hid hFD
 have HFR:=Lib.hid hfr
 have HBE:=Lib.hid hbe
 have HEM:=Lib.hid hem
 have HMO:=Lib.hid hmo
 have HY:=Lib.hid hcp1
 have HOK:=Lib.hid hok
 have HG1:=Lib.hid hg1
 have HG2:=Lib.hid hg2
 have HVAL:=Lib.hid hval
 have IE1:=Lib.hid ie1
 have IE2:=Lib.hid ie2
 clear h4 h5 h6 h7 hkb ee hg1 hg2 hI hM1 hM2 hX q0 q1 q2 hFb hFa hFC hFD hfr hbe hem hmo hcp1 hok hval ie1 ie2 iC fa fb sa1 sa2 sa3 sa4 sa5 sa6 sb1 sb2 sb3 sb4 sb5 sb6 si na nb la lb ka szC szD oC oD hx hcs hca hcb HA HB
 go_enter Tryz.func70,Tryz.ntmps70
 have hx:=Ext.refl w
 go_wp2_with fail
 refine (HI.out _ EX).mono ?_
 rintro e w1 ⟨rfl,hx0⟩
 have hy:=Ext.trans (a:=w) EX hx0;clear hx;have hx:=hy;clear hy;have hn0:=BB hx0 (w.heap.size);have hn1:=BB hx0 (w.heap.size+1);have hn2:=BB hx0 (w.heap.size+1+1);have hn3:=BB hx0 (w.heap.size+1+1+1);(first | simp [↓heap_drew_at,↓heap_drewN_at,↓heap_alloc_at,↓heap_set_at,ne_two,ne_three,ne_two_left,ne_three_left,↓hb0.eq,hb0.lt,hb0.ne,↓hb1.eq,hb1.lt,hb1.ne,↓hb2.eq,hb2.lt,hb2.ne,↓hb3.eq,hb3.lt,hb3.ne] at hn0 hn1 hn2 hn3 | simp [↓heap_drew_at,↓heap_drewN_at,↓heap_alloc_at,↓heap_set_at,ne_two,ne_three,ne_two_left,ne_three_left] at hn0 hn1 hn2 hn3);(try clear hb0 hc0 hf0 hl0);(try clear hb1 hc1 hf1 hl1);(try clear hb2 hc2 hf2 hl2);(try clear hb3 hc3 hf3 hl3);have hb0:=Blk.mk hn0;clear hn0;obtain ⟨hc0,hf0,hl0⟩:=hb0.all;have hb1:=Blk.mk hn1;clear hn1;obtain ⟨hc1,hf1,hl1⟩:=hb1.all;have hb2:=Blk.mk hn2;clear hn2;obtain ⟨hc2,hf2,hl2⟩:=hb2.all;have hb3:=Blk.mk hn3;clear hn3;obtain ⟨hc3,hf3,hl3⟩:=hb3.all;(try clear hx0)
 go_wp2_with fail
 refine (HM1.out _).mono ?_
 rintro e w2 ⟨rfl,hx0⟩
 have hy:=Ext.trans (a:=w) EX hx0;clear hx;have hx:=hy;clear hy;have hn0:=BB hx0 (w.heap.size);have hn1:=BB hx0 (w.heap.size+1);have hn2:=BB hx0 (w.heap.size+1+1);have hn3:=BB hx0 (w.heap.size+1+1+1);(first | simp [↓heap_drew_at,↓heap_drewN_at,↓heap_alloc_at,↓heap_set_at,ne_two,ne_three,ne_two_left,ne_three_left,↓hb0.eq,hb0.lt,hb0.ne,↓hb1.eq,hb1.lt,hb1.ne,↓hb2.eq,hb2.lt,hb2.ne,↓hb3.eq,hb3.lt,hb3.ne] at hn0 hn1 hn2 hn3 | simp [↓heap_drew_at,↓heap_drewN_at,↓heap_alloc_at,↓heap_set_at,ne_two,ne_three,ne_two_left,ne_three_left] at hn0 hn1 hn2 hn3);(try clear hb0 hc0 hf0 hl0);(try clear hb1 hc1 hf1 hl1);(try clear hb2 hc2 hf2 hl2);(try clear hb3 hc3 hf3 hl3);have hb0:=Blk.mk hn0;clear hn0;obtain ⟨hc0,hf0,hl0⟩:=hb0.all;have hb1:=Blk.mk hn1;clear hn1;obtain ⟨hc1,hf1,hl1⟩:=hb1.all;have hb2:=Blk.mk hn2;clear hn2;obtain ⟨hc2,hf2,hl2⟩:=hb2.all;have hb3:=Blk.mk hn3;clear hn3;obtain ⟨hc3,hf3,hl3⟩:=hb3.all;(try clear hx0)
 cases k1
 ·have h:=H4.out
  simp at h
 have hX4:=hl3
 go_wp2_with fail
 refine (Q0.out _ EX).mono ?_
 rintro e w3 ⟨rfl,hx0⟩
 have hbX:=Blk.ext hx0 (Blk.new' rfl)
 have hy:=Ext.trans (a:=w) EX hx0;clear hx;have hx:=hy;clear hy;have hn0:=BB hx0 (w.heap.size);have hn1:=BB hx0 (w.heap.size+1);have hn2:=BB hx0 (w.heap.size+1+1);have hn3:=BB hx0 (w.heap.size+1+1+1);(first | simp [↓heap_drew_at,↓heap_drewN_at,↓heap_alloc_at,↓heap_set_at,ne_two,ne_three,ne_two_left,ne_three_left,↓hb0.eq,hb0.lt,hb0.ne,↓hb1.eq,hb1.lt,hb1.ne,↓hb2.eq,hb2.lt,hb2.ne,↓hb3.eq,hb3.lt,hb3.ne] at hn0 hn1 hn2 hn3 | simp [↓heap_drew_at,↓heap_drewN_at,↓heap_alloc_at,↓heap_set_at,ne_two,ne_three,ne_two_left,ne_three_left] at hn0 hn1 hn2 hn3);(try clear hb0 hc0 hf0 hl0);(try clear hb1 hc1 hf1 hl1);(try clear hb2 hc2 hf2 hl2);(try clear hb3 hc3 hf3 hl3);have hb0:=Blk.mk hn0;clear hn0;obtain ⟨hc0,hf0,hl0⟩:=hb0.all;have hb1:=Blk.mk hn1;clear hn1;obtain ⟨hc1,hf1,hl1⟩:=hb1.all;have hb2:=Blk.mk hn2;clear hn2;obtain ⟨hc2,hf2,hl2⟩:=hb2.all;have hb3:=Blk.mk hn3;clear hn3;obtain ⟨hc3,hf3,hl3⟩:=hb3.all;(try clear hx0)
 obtain ⟨bX,hbe⟩:∃ n,n=w2.heap.size:=⟨_,rfl⟩
 rw [← hbe] at hbX hX4 ⊢
 have HBX:=Lib.hid hbe
 clear hbe
 have hcX:=hbX.cell
 have hfX:=hbX.frozen
 have hlX2:=hbX.lt
 by_cases zc:C.check=0
 rotate_left
 ·have h:=H4.out
  simp [zc] at h
 have ZC:=Lib.hid zc
 rw [ZC.out]
 clear zc
 go_upto_region 5 with fail
 go_cut [52] (fun u wx=>Ext w3 wx∧u=.bool g1)
 case first=>
  have hg:=HG1.out
  have hgv:g1=false:=by
   have h:=H4.out
   rw [ZC.out] at h
   revert h
   cases g1 <;> simp
  have HC0:=Lib.hid (fun W (hW:Ext w3 W)=>(hb0.ext hW).cell)
  have HC1:=Lib.hid (fun W (hW:Ext w3 W)=>(hb1.ext hW).cell)
  have HC2:=Lib.hid (fun W (hW:Ext w3 W)=>(hbX.ext hW).cell)
  clear HG1 HOK HVAL HM1 HM2 HX HEM HMO HI Q0 Q1 Q2 HY HBE IE1 IE2 HBX hb0 hb1 hb2 hb3 hc0 hc1 hc2 hc3 hf0 hf1 hf2 hf3 hl0 hl1 hl2 hl3 hbX hcX hfX hX4 hlX2 HG2
  cases e1:(nb'.toList == ([]:List UInt8))
  ·cases fr
   ·cases e3:(nb'.toList == na'.toList)
    ·skip
     rw [e1,e3] at hg
     have HG:=Lib.hid hg
     clear hg
     refine wp_region_ext (by kernel_rfl) (by kernel_rfl) ?_
     repeat (first | go_big_quiet_skip | (go_big_quiet_want;first | (go_big_quiet_op;go_big_quiet_on) | (apply quiet_at;intro W hW;have hc0:=HC0.out W hW;have hc1:=HC1.out W hW;have hc2:=HC2.out W hW;go_simp;(first | exact rfl | (simp only [Oper.quietUpon,true_and];first | exact rfl | ((first | (go_at_call 90;first | with_reducible exact quiet_call hW (HFb.out _) (fun _ _ h=>Ret.bcell h) | with_reducible exact quiet_call hW (HFa.out _) (fun _ _ h=>Ret.bcell h) | with_reducible exact quiet_call hW (HFC.out _) (fun _ _ h=>Ret.bcell h)) | (go_at_call 91;with_reducible exact quiet_call hW (HFR.out _) (fun _ _ h=>Ret.bcell h))))) | ((first | (go_at_call 90;first | with_reducible exact quiet_call hW (HFb.out _) (fun _ _ h=>Ret.bcell h) | with_reducible exact quiet_call hW (HFa.out _) (fun _ _ h=>Ret.bcell h) | with_reducible exact quiet_call hW (HFC.out _) (fun _ _ h=>Ret.bcell h)) | (go_at_call 91;with_reducible exact quiet_call hW (HFR.out _) (fun _ _ h=>Ret.bcell h)))));go_big_quiet_on;simp only [Act.put,sA,s0,sS])))
     refine wpQuiet_nil ?_
     intro w9 hx9
     go_wp2_with fail
     go_meet
     exact ⟨hx9,by rw [HG.out];simp⟩
    ·skip
     rw [e1,e3] at hg
     rw [hgv] at hg
     simp at hg
   ·cases e2:(nC.toList == a.path.toList)
    ·cases e3:(nb'.toList == na'.toList)
     ·skip
      rw [e1,e2,e3] at hg
      have HG:=Lib.hid hg
      clear hg
      refine wp_region_ext (by kernel_rfl) (by kernel_rfl) ?_
      repeat (first | go_big_quiet_skip | (go_big_quiet_want;first | (go_big_quiet_op;go_big_quiet_on) | (apply quiet_at;intro W hW;have hc0:=HC0.out W hW;have hc1:=HC1.out W hW;have hc2:=HC2.out W hW;go_simp;(first | exact rfl | (simp only [Oper.quietUpon,true_and];first | exact rfl | ((first | (go_at_call 90;first | with_reducible exact quiet_call hW (HFb.out _) (fun _ _ h=>Ret.bcell h) | with_reducible exact quiet_call hW (HFa.out _) (fun _ _ h=>Ret.bcell h) | with_reducible exact quiet_call hW (HFC.out _) (fun _ _ h=>Ret.bcell h)) | (go_at_call 91;with_reducible exact quiet_call hW (HFR.out _) (fun _ _ h=>Ret.bcell h))))) | ((first | (go_at_call 90;first | with_reducible exact quiet_call hW (HFb.out _) (fun _ _ h=>Ret.bcell h) | with_reducible exact quiet_call hW (HFa.out _) (fun _ _ h=>Ret.bcell h) | with_reducible exact quiet_call hW (HFC.out _) (fun _ _ h=>Ret.bcell h)) | (go_at_call 91;with_reducible exact quiet_call hW (HFR.out _) (fun _ _ h=>Ret.bcell h)))));go_big_quiet_on;simp only [Act.put,sA,s0,sS])))
      refine wpQuiet_nil ?_
      intro w9 hx9
      go_wp2_with fail
      go_meet
      exact ⟨hx9,by rw [HG.out];simp⟩
     ·skip
      rw [e1,e2,e3] at hg
      rw [hgv] at hg
      simp at hg
    ·skip
     rw [e1,e2] at hg
     rw [hgv] at hg
     simp at hg
  ·skip
   rw [e1] at hg
   have HG:=Lib.hid hg
   clear hg
   refine wp_region_ext (by kernel_rfl) (by kernel_rfl) ?_
   repeat (first | go_big_quiet_skip | (go_big_quiet_want;first | (go_big_quiet_op;go_big_quiet_on) | (apply quiet_at;intro W hW;have hc0:=HC0.out W hW;have hc1:=HC1.out W hW;have hc2:=HC2.out W hW;go_simp;(first | exact rfl | (simp only [Oper.quietUpon,true_and];first | exact rfl | ((first | (go_at_call 90;first | with_reducible exact quiet_call hW (HFb.out _) (fun _ _ h=>Ret.bcell h) | with_reducible exact quiet_call hW (HFa.out _) (fun _ _ h=>Ret.bcell h) | with_reducible exact quiet_call hW (HFC.out _) (fun _ _ h=>Ret.bcell h)) | (go_at_call 91;with_reducible exact quiet_call hW (HFR.out _) (fun _ _ h=>Ret.bcell h))))) | ((first | (go_at_call 90;first | with_reducible exact quiet_call hW (HFb.out _) (fun _ _ h=>Ret.bcell h) | with_reducible exact quiet_call hW (HFa.out _) (fun _ _ h=>Ret.bcell h) | with_reducible exact quiet_call hW (HFC.out _) (fun _ _ h=>Ret.bcell h)) | (go_at_call 91;with_reducible exact quiet_call hW (HFR.out _) (fun _ _ h=>Ret.bcell h)))));go_big_quiet_on;simp only [Act.put,sA,s0,sS])))
   refine wpQuiet_nil ?_
   intro w9 hx9
   go_wp2_with fail
   go_meet
   exact ⟨hx9,by rw [HG.out];simp⟩
 case rest=>
  obtain ⟨hx0,rfl⟩:=hcut
  have hy:=Ext.trans (a:=w) EX hx0;clear hx;have hx:=hy;clear hy;have hn0:=BB hx0 (w.heap.size);have hn1:=BB hx0 (w.heap.size+1);have hn2:=BB hx0 (w.heap.size+1+1);have hn3:=BB hx0 (w.heap.size+1+1+1);have hnX:=BB hx0 (bX);(first | simp [↓heap_drew_at,↓heap_drewN_at,↓heap_alloc_at,↓heap_set_at,ne_two,ne_three,ne_two_left,ne_three_left,↓hb0.eq,hb0.lt,hb0.ne,↓hb1.eq,hb1.lt,hb1.ne,↓hb2.eq,hb2.lt,hb2.ne,↓hb3.eq,hb3.lt,hb3.ne,↓hbX.eq,hbX.lt,hbX.ne] at hn0 hn1 hn2 hn3 hnX | simp [↓heap_drew_at,↓heap_drewN_at,↓heap_alloc_at,↓heap_set_at,ne_two,ne_three,ne_two_left,ne_three_left] at hn0 hn1 hn2 hn3 hnX);(try clear hb0 hc0 hf0 hl0);(try clear hb1 hc1 hf1 hl1);(try clear hb2 hc2 hf2 hl2);(try clear hb3 hc3 hf3 hl3);(try clear hbX hcX hfX hlX);have hb0:=Blk.mk hn0;clear hn0;obtain ⟨hc0,hf0,hl0⟩:=hb0.all;have hb1:=Blk.mk hn1;clear hn1;obtain ⟨hc1,hf1,hl1⟩:=hb1.all;have hb2:=Blk.mk hn2;clear hn2;obtain ⟨hc2,hf2,hl2⟩:=hb2.all;have hb3:=Blk.mk hn3;clear hn3;obtain ⟨hc3,hf3,hl3⟩:=hb3.all;have hbX:=Blk.mk hnX;clear hnX;obtain ⟨hcX,hfX,hlX⟩:=hbX.all;(try clear hx0)
  cases g1
  rotate_left
  ·have h:=H4.out
   rw [ZC.out] at h
   simp at h
  go_upto_region 7 with fail
  go_cut [10,11] (fun u10 u11 wx=>∃ gY:Nat,u10=.bool k2∧u11=.pointer (some ⟨gY,0,none⟩)∧ExBlk w bX gY (a.pv A1 c1 A2 c2) (b.pv B1 d1 B2 d2) (C.pv B1 d1 B2 d2) (D.pv A1 c1 A2 c2) wx)
  case first=>
   go_wp2_with fail
   refine (HM2.out _).mono ?_
   rintro e w4 ⟨rfl,hx0⟩
   have hy:=Ext.trans (a:=w) EX hx0;clear hx;have hx:=hy;clear hy;have hn0:=BB hx0 (w.heap.size);have hn1:=BB hx0 (w.heap.size+1);have hn2:=BB hx0 (w.heap.size+1+1);have hn3:=BB hx0 (w.heap.size+1+1+1);have hnX:=BB hx0 (bX);(first | simp [↓heap_drew_at,↓heap_drewN_at,↓heap_alloc_at,↓heap_set_at,ne_two,ne_three,ne_two_left,ne_three_left,↓hb0.eq,hb0.lt,hb0.ne,↓hb1.eq,hb1.lt,hb1.ne,↓hb2.eq,hb2.lt,hb2.ne,↓hb3.eq,hb3.lt,hb3.ne,↓hbX.eq,hbX.lt,hbX.ne] at hn0 hn1 hn2 hn3 hnX | simp [↓heap_drew_at,↓heap_drewN_at,↓heap_alloc_at,↓heap_set_at,ne_two,ne_three,ne_two_left,ne_three_left] at hn0 hn1 hn2 hn3 hnX);(try clear hb0 hc0 hf0 hl0);(try clear hb1 hc1 hf1 hl1);(try clear hb2 hc2 hf2 hl2);(try clear hb3 hc3 hf3 hl3);(try clear hbX hcX hfX hlX);have hb0:=Blk.mk hn0;clear hn0;obtain ⟨hc0,hf0,hl0⟩:=hb0.all;have hb1:=Blk.mk hn1;clear hn1;obtain ⟨hc1,hf1,hl1⟩:=hb1.all;have hb2:=Blk.mk hn2;clear hn2;obtain ⟨hc2,hf2,hl2⟩:=hb2.all;have hb3:=Blk.mk hn3;clear hn3;obtain ⟨hc3,hf3,hl3⟩:=hb3.all;have hbX:=Blk.mk hnX;clear hnX;obtain ⟨hcX,hfX,hlX⟩:=hbX.all;(try clear hx0)
   go_wp2_with fail
   go_meet
   exact ⟨_,rfl,rfl,hx.alloc _,hb0.alloc _,hb1.alloc _,hb2.alloc _,hb3.alloc _,hbX.alloc _,Blk.new' (by simp),hX4,hbX.lt⟩
  case rest=>
   clear hx hX4 hb0 hb1 hb2 hb3 hc0 hc1 hc2 hc3 hf0 hf1 hf2 hf3 hl0 hl1 hl2 hl3 hbX hcX hfX hlX
   obtain ⟨bY,rfl,rfl,hex⟩:=hcut
   have HEX:=Lib.hid hex
   obtain ⟨hx,hb0,hb1,hb2,hb3,hbX,hbY,hX4,hXY⟩:=hex
   obtain ⟨hc0,hf0,hl0⟩:=hb0.all
   obtain ⟨hc1,hf1,hl1⟩:=hb1.all
   obtain ⟨hc2,hf2,hl2⟩:=hb2.all
   obtain ⟨hc3,hf3,hl3⟩:=hb3.all
   obtain ⟨hcX,hfX,hlX⟩:=hbX.all
   obtain ⟨hcY,hfY,hlY⟩:=hbY.all
   obtain ⟨g3,hg3⟩:∃ g:Bool,g=(!k2 || g2):=⟨_,rfl⟩
   have HG3:=Lib.hid hg3
   clear hg3
   go_upto_region 8 with fail
   go_cut [74] (fun u wx=>(ExBlk w bX bY (a.pv A1 c1 A2 c2) (b.pv B1 d1 B2 d2) (C.pv B1 d1 B2 d2) (D.pv A1 c1 A2 c2) wx)∧u=.bool g3)
   case first=>
    have hg:g3=(!k2 || (!(nD.toList == ([]:List UInt8)) && (nD.toList == nC.toList))):=by rw [HG3.out,HG2.out]
    have hgv:g3=false:=by
     have h:=H5.out
     rw [HG3.out]
     revert h
     cases k2 <;> cases g2 <;> simp
    have HC0:=Lib.hid (fun W hW=>(hbX.ext (w':=W) hW).cell)
    have HC1:=Lib.hid (fun W hW=>(hbY.ext (w':=W) hW).cell)
    have HC2:=Lib.hid (fun W hW=>(hbX.ext (w':=W) hW).cell)
    clear HG1 HG2 HG3 HOK HVAL HM1 HM2 HX HEM HMO HI Q0 Q1 Q2 HY HBE IE1 IE2 HBX hb0 hb1 hb2 hb3 hc0 hc1 hc2 hc3 hf0 hf1 hf2 hf3 hl0 hl1 hl2 hl3 hbX hcX hfX hlX hbY hcY hfY hlY
    cases k2
    ·skip
     rw [hgv] at hg
     simp at hg
    ·cases e1:(nD.toList == ([]:List UInt8))
     ·cases e2:(nD.toList == nC.toList)
      ·skip
       rw [e1,e2] at hg
       have HG:=Lib.hid hg
       clear hg
       refine wp_region_ext (by kernel_rfl) (by kernel_rfl) ?_
       repeat (first | go_big_quiet_skip | (go_big_quiet_want;first | (go_big_quiet_op;go_big_quiet_on) | (apply quiet_at;intro W hW;have hc0:=HC0.out W hW;have hc1:=HC1.out W hW;have hc2:=HC2.out W hW;go_simp;(first | exact rfl | (simp only [Oper.quietUpon,true_and];first | exact rfl | ((go_at_call 90;first | with_reducible exact quiet_call hW (HFD.out _) (fun _ _ h=>Ret.bcell h) | with_reducible exact quiet_call hW (HFC.out _) (fun _ _ h=>Ret.bcell h)))) | ((go_at_call 90;first | with_reducible exact quiet_call hW (HFD.out _) (fun _ _ h=>Ret.bcell h) | with_reducible exact quiet_call hW (HFC.out _) (fun _ _ h=>Ret.bcell h))));go_big_quiet_on;simp only [Act.put,sA,s0,sS])))
       refine wpQuiet_nil ?_
       intro w9 hx9
       go_wp2_with fail
       go_meet
       exact ⟨HEX.out.ext hx9,by rw [HG.out];simp⟩
      ·skip
       rw [e1,e2] at hg
       rw [hgv] at hg
       simp at hg
     ·skip
      rw [e1] at hg
      have HG:=Lib.hid hg
      clear hg
      refine wp_region_ext (by kernel_rfl) (by kernel_rfl) ?_
      repeat (first | go_big_quiet_skip | (go_big_quiet_want;first | (go_big_quiet_op;go_big_quiet_on) | (apply quiet_at;intro W hW;have hc0:=HC0.out W hW;have hc1:=HC1.out W hW;have hc2:=HC2.out W hW;go_simp;(first | exact rfl | (simp only [Oper.quietUpon,true_and];first | exact rfl | ((go_at_call 90;first | with_reducible exact quiet_call hW (HFD.out _) (fun _ _ h=>Ret.bcell h) | with_reducible exact quiet_call hW (HFC.out _) (fun _ _ h=>Ret.bcell h)))) | ((go_at_call 90;first | with_reducible exact quiet_call hW (HFD.out _) (fun _ _ h=>Ret.bcell h) | with_reducible exact quiet_call hW (HFC.out _) (fun _ _ h=>Ret.bcell h))));go_big_quiet_on;simp only [Act.put,sA,s0,sS])))
      refine wpQuiet_nil ?_
      intro w9 hx9
      go_wp2_with fail
      go_meet
      exact ⟨HEX.out.ext hx9,by rw [HG.out];simp⟩
   case rest=>
    clear hx hX4 hXY HEX hb0 hb1 hb2 hb3 hc0 hc1 hc2 hc3 hf0 hf1 hf2 hf3 hl0 hl1 hl2 hl3 hbX hcX hfX hlX hbY hcY hfY hlY
    obtain ⟨hex,rfl⟩:=hcut
    have HEX:=Lib.hid hex
    obtain ⟨hx,hb0,hb1,hb2,hb3,hbX,hbY,hX4,hXY⟩:=hex
    obtain ⟨hc0,hf0,hl0⟩:=hb0.all
    obtain ⟨hc1,hf1,hl1⟩:=hb1.all
    obtain ⟨hc2,hf2,hl2⟩:=hb2.all
    obtain ⟨hc3,hf3,hl3⟩:=hb3.all
    obtain ⟨hcX,hfX,hlX⟩:=hbX.all
    obtain ⟨hcY,hfY,hlY⟩:=hbY.all
    cases g3
    rotate_left
    ·have h:=H5.out
     have h2:=HG3.out
     revert h h2
     cases k2 <;> cases g2 <;> simp
    obtain ⟨rfl,rfl⟩:=or_parts HG3.out
    obtain ⟨g4,hg4⟩:∃ g:Bool,g=(k4 && k5):=⟨_,rfl⟩
    have HG4:=Lib.hid hg4
    clear hg4
    go_upto_region 10 with fail
    go_cut [107] (fun u wx=>(ExBlk w bX bY (a.pv A1 c1 A2 c2) (b.pv B1 d1 B2 d2) (C.pv B1 d1 B2 d2) (D.pv A1 c1 A2 c2) wx)∧u=.bool (!g4))
    case first=>
     have hg:g4=((b.kind != 4 || (!fr || !be)) && (a.kind != 5 || (b.kind != 5 || !(a.to_.toList == b.path.toList)))):=by rw [HG4.out,HEM.out,HMO.out]
     have e4:(b.kind == 4)=true:=HKB.out
     have e5:(b.kind == 5)=false:=by
      have h:b.kind=4:=eq_of_beq e4
      rw [h]
      rfl
     have HG:=Lib.hid hg
     clear hg HG1 HG2 HG3 HG4 HOK HVAL HM1 HM2 HX HEM HMO HI Q0 Q1 Q2 HY IE1 IE2 HBX HFa HFb HFC HFD HEX
     go_wp2_with (first
      | (go_at_call 91;refine (HFR.out _).mono ?_;rintro e w5 ⟨rfl,hx0⟩;have hy:=Ext.trans (a:=w) EX hx0;clear hx;have hx:=hy;clear hy;have hn0:=BB hx0 (w.heap.size);have hn1:=BB hx0 (w.heap.size+1);have hn2:=BB hx0 (w.heap.size+1+1);have hn3:=BB hx0 (w.heap.size+1+1+1);have hnX:=BB hx0 (bX);have hnY:=BB hx0 (bY);(first | simp [↓heap_drew_at,↓heap_drewN_at,↓heap_alloc_at,↓heap_set_at,ne_two,ne_three,ne_two_left,ne_three_left,ne_four,ne_five,ne_six,ne_four_left,ne_five_left,ne_six_left,↓hb0.eq,hb0.lt,hb0.ne,↓hb1.eq,hb1.lt,hb1.ne,↓hb2.eq,hb2.lt,hb2.ne,↓hb3.eq,hb3.lt,hb3.ne,↓hbX.eq,hbX.lt,hbX.ne,↓hbY.eq,hbY.lt,hbY.ne] at hn0 hn1 hn2 hn3 hnX hnY | simp [↓heap_drew_at,↓heap_drewN_at,↓heap_alloc_at,↓heap_set_at,ne_two,ne_three,ne_two_left,ne_three_left,ne_four,ne_five,ne_six,ne_four_left,ne_five_left,ne_six_left] at hn0 hn1 hn2 hn3 hnX hnY);(try clear hb0 hc0 hf0 hl0);(try clear hb1 hc1 hf1 hl1);(try clear hb2 hc2 hf2 hl2);(try clear hb3 hc3 hf3 hl3);(try clear hbX hcX hfX hlX);(try clear hbY hcY hfY hlY);have hb0:=Blk.mk hn0;clear hn0;obtain ⟨hc0,hf0,hl0⟩:=hb0.all;have hb1:=Blk.mk hn1;clear hn1;obtain ⟨hc1,hf1,hl1⟩:=hb1.all;have hb2:=Blk.mk hn2;clear hn2;obtain ⟨hc2,hf2,hl2⟩:=hb2.all;have hb3:=Blk.mk hn3;clear hn3;obtain ⟨hc3,hf3,hl3⟩:=hb3.all;have hbX:=Blk.mk hnX;clear hnX;obtain ⟨hcX,hfX,hlX⟩:=hbX.all;have hbY:=Blk.mk hnY;clear hnY;obtain ⟨hcY,hfY,hlY⟩:=hbY.all;(try clear hx0))
      | (go_at_call 85;refine (HBE.out _).mono ?_;rintro e w5 ⟨rfl,hx0⟩;have hy:=Ext.trans (a:=w) EX hx0;clear hx;have hx:=hy;clear hy;have hn0:=BB hx0 (w.heap.size);have hn1:=BB hx0 (w.heap.size+1);have hn2:=BB hx0 (w.heap.size+1+1);have hn3:=BB hx0 (w.heap.size+1+1+1);have hnX:=BB hx0 (bX);have hnY:=BB hx0 (bY);(first | simp [↓heap_drew_at,↓heap_drewN_at,↓heap_alloc_at,↓heap_set_at,ne_two,ne_three,ne_two_left,ne_three_left,ne_four,ne_five,ne_six,ne_four_left,ne_five_left,ne_six_left,↓hb0.eq,hb0.lt,hb0.ne,↓hb1.eq,hb1.lt,hb1.ne,↓hb2.eq,hb2.lt,hb2.ne,↓hb3.eq,hb3.lt,hb3.ne,↓hbX.eq,hbX.lt,hbX.ne,↓hbY.eq,hbY.lt,hbY.ne] at hn0 hn1 hn2 hn3 hnX hnY | simp [↓heap_drew_at,↓heap_drewN_at,↓heap_alloc_at,↓heap_set_at,ne_two,ne_three,ne_two_left,ne_three_left,ne_four,ne_five,ne_six,ne_four_left,ne_five_left,ne_six_left] at hn0 hn1 hn2 hn3 hnX hnY);(try clear hb0 hc0 hf0 hl0);(try clear hb1 hc1 hf1 hl1);(try clear hb2 hc2 hf2 hl2);(try clear hb3 hc3 hf3 hl3);(try clear hbX hcX hfX hlX);(try clear hbY hcY hfY hlY);have hb0:=Blk.mk hn0;clear hn0;obtain ⟨hc0,hf0,hl0⟩:=hb0.all;have hb1:=Blk.mk hn1;clear hn1;obtain ⟨hc1,hf1,hl1⟩:=hb1.all;have hb2:=Blk.mk hn2;clear hn2;obtain ⟨hc2,hf2,hl2⟩:=hb2.all;have hb3:=Blk.mk hn3;clear hn3;obtain ⟨hc3,hf3,hl3⟩:=hb3.all;have hbX:=Blk.mk hnX;clear hnX;obtain ⟨hcX,hfX,hlX⟩:=hbX.all;have hbY:=Blk.mk hnY;clear hnY;obtain ⟨hcY,hfY,hlY⟩:=hbY.all;(try clear hx0)))
     all_goals
      go_meet
      refine ⟨⟨hx,hb0,hb1,hb2,hb3,hbX,hbY,hX4,hXY⟩,?_⟩
      clear hc0 hc1 hc2 hc3 hcX hcY hf0 hf1 hf2 hf3 hfX hfY
      have e4n:b.kind=4:=by simpa using e4
      have e5n:¬ b.kind=5:=by omega
      rw [HG.out]
      simp [*]
    case rest=>
     clear hx hX4 hXY HEX hb0 hb1 hb2 hb3 hc0 hc1 hc2 hc3 hf0 hf1 hf2 hf3 hl0 hl1 hl2 hl3 hbX hcX hfX hlX hbY hcY hfY hlY
     obtain ⟨hex,rfl⟩:=hcut
     have HEX:=Lib.hid hex
     obtain ⟨hx,hb0,hb1,hb2,hb3,hbX,hbY,hX4,hXY⟩:=hex
     obtain ⟨hc0,hf0,hl0⟩:=hb0.all
     obtain ⟨hc1,hf1,hl1⟩:=hb1.all
     obtain ⟨hc2,hf2,hl2⟩:=hb2.all
     obtain ⟨hc3,hf3,hl3⟩:=hb3.all
     obtain ⟨hcX,hfX,hlX⟩:=hbX.all
     obtain ⟨hcY,hfY,hlY⟩:=hbY.all
     cases g4
     ·exact absurd (HG4.out.trans H6.out) (by decide)
     obtain ⟨rfl,rfl⟩:=and_parts HG4.out
     go_upto_region 12 with fail
     go_cut [10] (fun u wx=>ExBlk w bX bY (a.pv A1 c1 A2 c2) (b.pv B1 d1 B2 d2) Y1 Y2 wx∧u=.bool k6)
     case first=>
      go_wp2_with fail
      refine (HX.out (by simp) _).mono ?_
      rintro e w4 ⟨rfl,hx0⟩
      have hy:=Ext.trans (a:=w) EX hx0;clear hx;have hx:=hy;clear hy;have hn0:=BB hx0 (w.heap.size);have hn1:=BB hx0 (w.heap.size+1);have hn2:=BB hx0 (w.heap.size+1+1);have hn3:=BB hx0 (w.heap.size+1+1+1);have hnX:=BB hx0 (bX);have hnY:=BB hx0 (bY);(first | simp [↓heap_drew_at,↓heap_drewN_at,↓heap_alloc_at,↓heap_set_at,ne_two,ne_three,ne_two_left,ne_three_left,ne_four,ne_five,ne_six,ne_four_left,ne_five_left,ne_six_left,↓hb0.eq,hb0.lt,hb0.ne,↓hb1.eq,hb1.lt,hb1.ne,↓hb2.eq,hb2.lt,hb2.ne,↓hb3.eq,hb3.lt,hb3.ne,↓hbX.eq,hbX.lt,hbX.ne,↓hbY.eq,hbY.lt,hbY.ne] at hn0 hn1 hn2 hn3 hnX hnY | simp [↓heap_drew_at,↓heap_drewN_at,↓heap_alloc_at,↓heap_set_at,ne_two,ne_three,ne_two_left,ne_three_left,ne_four,ne_five,ne_six,ne_four_left,ne_five_left,ne_six_left] at hn0 hn1 hn2 hn3 hnX hnY);(try clear hb0 hc0 hf0 hl0);(try clear hb1 hc1 hf1 hl1);(try clear hb2 hc2 hf2 hl2);(try clear hb3 hc3 hf3 hl3);(try clear hbX hcX hfX hlX);(try clear hbY hcY hfY hlY);have hb0:=Blk.mk hn0;clear hn0;obtain ⟨hc0,hf0,hl0⟩:=hb0.all;have hb1:=Blk.mk hn1;clear hn1;obtain ⟨hc1,hf1,hl1⟩:=hb1.all;have hb2:=Blk.mk hn2;clear hn2;obtain ⟨hc2,hf2,hl2⟩:=hb2.all;have hb3:=Blk.mk hn3;clear hn3;obtain ⟨hc3,hf3,hl3⟩:=hb3.all;have hbX:=Blk.mk hnX;clear hnX;obtain ⟨hcX,hfX,hlX⟩:=hbX.all;have hbY:=Blk.mk hnY;clear hnY;obtain ⟨hcY,hfY,hlY⟩:=hbY.all;(try clear hx0)
      go_wp2_with fail
      go_meet
      have nx0:(w.heap.size=bX)=False:=eq_false (by omega)
      have ny0:(w.heap.size=bY)=False:=eq_false (by omega)
      have nx1:(w.heap.size+1=bX)=False:=eq_false (by omega)
      have ny1:(w.heap.size+1=bY)=False:=eq_false (by omega)
      have nx2:(w.heap.size+1+1=bX)=False:=eq_false (by omega)
      have ny2:(w.heap.size+1+1=bY)=False:=eq_false (by omega)
      have nx3:(w.heap.size+1+1+1=bX)=False:=eq_false (by omega)
      have ny3:(w.heap.size+1+1+1=bY)=False:=eq_false (by omega)
      have nxy:(bX=bY)=False:=eq_false (by omega)
      have nyx:(bY=bX)=False:=eq_false (by omega)
      refine ⟨⟨?_,?_,?_,?_,?_,?_,?_,hX4,hXY⟩,rfl⟩
      ·exact EX
      ·exact Blk.mk (by simp [↓heap_drew_at,↓heap_drewN_at,↓heap_alloc_at,↓heap_set_at,nx0,nx1,nx2,nx3,ny0,ny1,ny2,ny3,nxy,nyx,↓hb0.eq,hb0.lt,hb0.ne,↓hb1.eq,hb1.lt,hb1.ne,↓hb2.eq,hb2.lt,hb2.ne,↓hb3.eq,hb3.lt,hb3.ne,↓hbX.eq,hbX.lt,hbX.ne,↓hbY.eq,hbY.lt,hbY.ne])
      ·exact Blk.mk (by simp [↓heap_drew_at,↓heap_drewN_at,↓heap_alloc_at,↓heap_set_at,nx0,nx1,nx2,nx3,ny0,ny1,ny2,ny3,nxy,nyx,↓hb0.eq,hb0.lt,hb0.ne,↓hb1.eq,hb1.lt,hb1.ne,↓hb2.eq,hb2.lt,hb2.ne,↓hb3.eq,hb3.lt,hb3.ne,↓hbX.eq,hbX.lt,hbX.ne,↓hbY.eq,hbY.lt,hbY.ne])
      ·exact Blk.mk (by simp [↓heap_drew_at,↓heap_drewN_at,↓heap_alloc_at,↓heap_set_at,nx0,nx1,nx2,nx3,ny0,ny1,ny2,ny3,nxy,nyx,↓hb0.eq,hb0.lt,hb0.ne,↓hb1.eq,hb1.lt,hb1.ne,↓hb2.eq,hb2.lt,hb2.ne,↓hb3.eq,hb3.lt,hb3.ne,↓hbX.eq,hbX.lt,hbX.ne,↓hbY.eq,hbY.lt,hbY.ne])
      ·exact Blk.mk (by simp [↓heap_drew_at,↓heap_drewN_at,↓heap_alloc_at,↓heap_set_at,nx0,nx1,nx2,nx3,ny0,ny1,ny2,ny3,nxy,nyx,↓hb0.eq,hb0.lt,hb0.ne,↓hb1.eq,hb1.lt,hb1.ne,↓hb2.eq,hb2.lt,hb2.ne,↓hb3.eq,hb3.lt,hb3.ne,↓hbX.eq,hbX.lt,hbX.ne,↓hbY.eq,hbY.lt,hbY.ne])
      ·exact Blk.mk (by simp [↓heap_drew_at,↓heap_drewN_at,↓heap_alloc_at,↓heap_set_at,nx0,nx1,nx2,nx3,ny0,ny1,ny2,ny3,nxy,nyx,↓hb0.eq,hb0.lt,hb0.ne,↓hb1.eq,hb1.lt,hb1.ne,↓hb2.eq,hb2.lt,hb2.ne,↓hb3.eq,hb3.lt,hb3.ne,↓hbX.eq,hbX.lt,hbX.ne,↓hbY.eq,hbY.lt,hbY.ne])
      ·exact Blk.mk (by simp [↓heap_drew_at,↓heap_drewN_at,↓heap_alloc_at,↓heap_set_at,nx0,nx1,nx2,nx3,ny0,ny1,ny2,ny3,nxy,nyx,↓hb0.eq,hb0.lt,hb0.ne,↓hb1.eq,hb1.lt,hb1.ne,↓hb2.eq,hb2.lt,hb2.ne,↓hb3.eq,hb3.lt,hb3.ne,↓hbX.eq,hbX.lt,hbX.ne,↓hbY.eq,hbY.lt,hbY.ne])
     case rest=>
      clear hx hX4 hXY HEX hb0 hb1 hb2 hb3 hc0 hc1 hc2 hc3 hf0 hf1 hf2 hf3 hl0 hl1 hl2 hl3 hbX hcX hfX hlX hbY hcY hfY hlY
      obtain ⟨hex,rfl⟩:=hcut
      have HEX:=Lib.hid hex
      obtain ⟨hx,hb0,hb1,hb2,hb3,hbX,hbY,hX4,hXY⟩:=hex
      cases k6
      ·have HZ:Hid (R.2.2=false):=Lib.hid (by rw [HOK.out];simp)
       clear HOK HVAL HM1 HM2 HX HEM HMO HI Q0 Q1 Q2 HBE HBX HFa HFb HFC HFD HFR HG1 HG2 HG3 HG4
       obtain ⟨hc0,hf0,hl0⟩:=hb0.all
       obtain ⟨hc1,hf1,hl1⟩:=hb1.all
       obtain ⟨hc2,hf2,hl2⟩:=hb2.all
       obtain ⟨hc3,hf3,hl3⟩:=hb3.all
       obtain ⟨hcX,hfX,hlX⟩:=hbX.all
       obtain ⟨hcY,hfY,hlY⟩:=hbY.all
       go_upto_region 13 with fail
       have le2:w.heap.size≤w.heap.size+1+1:=by omega
       have le3:w.heap.size≤w.heap.size+1+1+1:=by omega
       have n23:w.heap.size+1+1+1≠w.heap.size+1+1:=by omega
       have m1:w.heap.size+1+1≠bX:=by omega
       have m2:w.heap.size+1+1+1≠bX:=by omega
       have m3:w.heap.size+1+1≠bY:=by omega
       have m4:w.heap.size+1+1+1≠bY:=by omega
       have hv0:=And.intro (hbX.drew.range 0 (parr Y1).toList (fun j _=>by rw [Nat.zero_add,Array.getElem?_toList])) (hbY.drew.range 0 (parr Y2).toList (fun j _=>by rw [Nat.zero_add,Array.getElem?_toList]))
       have kb2:=hb2.drew
       have kb3:=hb3.drew
       have hy:=hx.drew1
       refine wp_region_noPanic (wp_region_held_drew (S:=fun w'=>w'.rangeAt bX 0 (parr Y1).toList∧w'.rangeAt bY 0 (parr Y2).toList) (by kernel_rfl) hv0 (fun hH=>?_))
       clear hv0
       refine tl (i:=0) (parr Y1).toList rfl rfl rfl rfl rfl Tryz.underlying42 rfl (fun _ h=>h.1) hH ?_
       try simp only [Act.put,sA,s0,sS]
       refine tl (i:=1) (parr Y2).toList rfl rfl rfl rfl rfl Tryz.underlying42 rfl (fun _ h=>h.2) hH ?_
       try simp only [Act.put,sA,s0,sS]
       refine tf (i:=2) (v:=.bool false) rfl rfl (fun _=>rfl) hH ?_
       try simp only [Act.put,sA,s0,sS]
       refine tf (i:=3) (v:=.bool false) rfl rfl (fun _=>rfl) hH ?_
       try simp only [Act.put,sA,s0,sS]
       refine tk (i:=4) rfl rfl hH ?_
       try simp only [Act.put,sA,s0,sS]
       refine tk (i:=5) rfl rfl hH ?_
       try simp only [Act.put,sA,s0,sS]
       refine tk (i:=6) rfl rfl hH ?_
       try simp only [Act.put,sA,s0,sS]
       refine tf (i:=7) (v:=.bool false) rfl rfl (fun _=>rfl) hH ?_
       try simp only [Act.put,sA,s0,sS]
       refine tf (i:=8) (v:=.bool false) rfl rfl (fun _=>rfl) hH ?_
       try simp only [Act.put,sA,s0,sS]
       refine tk (i:=9) rfl rfl hH ?_
       try simp only [Act.put,sA,s0,sS]
       refine tk (i:=10) rfl rfl hH ?_
       try simp only [Act.put,sA,s0,sS]
       refine tk (i:=11) rfl rfl hH ?_
       try simp only [Act.put,sA,s0,sS]
       refine tf (i:=12) (v:=.bool false) rfl rfl (fun _=>rfl) hH ?_
       try simp only [Act.put,sA,s0,sS]
       refine two_stores (n:=13) (u:=.bool false) (v1:=parr Y1) (v2:=parr Y2) (by kernel_rfl) (by kernel_rfl) (by kernel_rfl) (by kernel_rfl) rfl rfl rfl rfl rfl rfl rfl rfl rfl rfl rfl rfl rfl rfl rfl rfl rfl kb2 kb3 rfl rfl n23 (by kernel_rfl) (by kernel_rfl) (by first | rfl | simp [Value.oneCell']) (by first | rfl | simp [Value.oneCell']) ⟨World.rangeAt_setCells_apart hH.1 _ _ _ (.inl m1.symm),World.rangeAt_setCells_apart hH.2 _ _ _ (.inl m3.symm)⟩
        ⟨World.rangeAt_setCells_apart (World.rangeAt_setCells_apart hH.1 _ _ _ (.inl m1.symm)) _ _ _ (.inl m2.symm),World.rangeAt_setCells_apart (World.rangeAt_setCells_apart hH.2 _ _ _ (.inl m3.symm)) _ _ _ (.inl m4.symm)⟩ (fun W k2 k3 hst=>NoPanic.normal ?_) _
       have hxe:=hst.ext w hy le2 le3
       clear hst hH hy kb2 kb3
       clear hx
       have hx:=hxe
       clear hxe
       obtain ⟨hc2,hf2,hl2⟩:=k2.all
       obtain ⟨hc3,hf3,hl3⟩:=k3.all
       try simp only [Act.put,sA,s0,sS]
       go_wp2_with fail
       refine bodyPost_ret (v:=.tuple #[Y1.v,Y2.v,.bool false]) ?_ rfl ?_
       ·simp only [results,Tryz.results70]
        go_simp
        (try simp)
       ·exact ⟨_,_,by rw [HZ.out],EX,fun h=>by rw [HZ.out] at h;cases h⟩
      exact absurd H7.out (by decide)
end Go.Proofs.YtlbhaimfjfdppaaGreatDoor
