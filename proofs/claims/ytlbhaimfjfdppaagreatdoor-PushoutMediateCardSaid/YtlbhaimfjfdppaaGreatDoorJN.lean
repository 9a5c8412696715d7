import Derived.Test.YtlbhaimfjfdppaaGreatDoorJE
import Derived.Test.YtlbhaimfjfdppaaGreatDoorJM
import Derived.Test.YtlbhaimfjfdppaaGreatDoorOp
import Derived.Test.YtlbhaimfjfdppaaGreatDoorCards
import Derived.Test.YtlbhaimfjfdppaaGreatDoorTie
import Derived.ProofKit
import Derived.Deep.DeepHandedRow
import Derived.Lay
set_option linter.unusedSimpArgs false
set_option linter.unusedVariables false
namespace Go.Proofs.YtlbhaimfjfdppaaGreatDoor
open Go Go.RowKit
attribute [local go_sem ↓] Go.wp_at_zero Go.wp_at_succ
namespace Sq
theorem withoutAll_fits {f:List Qp}:∀ {c m:List Qp},withoutAll c f=some m→(∀ q∈c,q.Fits)→∀ q∈m,q.Fits:=by
 induction f with
 | nil=>
   intro c m h hf
   obtain rfl:=Option.some.inj h
   exact hf
 | cons p f ih=>
   intro c m h hf
   obtain ⟨r,h1,h2⟩:=Option.bind_eq_some_iff.1 h
   exact ih h2 (without_fits h1 hf)
theorem withoutAll_len {f:List Qp}:∀ {c m:List Qp},withoutAll c f=some m→m.length≤c.length:=by
 induction f with
 | nil=>
   intro c m h
   obtain rfl:=Option.some.inj h
   exact Nat.le_refl _
 | cons p f ih=>
   intro c m h
   obtain ⟨r,h1,h2⟩:=Option.bind_eq_some_iff.1 h
   refine Nat.le_trans (ih h2) ?_
   cases c with
   | nil=>cases h1
   | cons y l=>rcases without_length h1 with h | h <;> simp only [List.length_cons] at h ⊢ <;> omega
theorem mediate_fits {a b c d m:List Qp} (h:mediate a b c d=some m) (fc:∀ q∈c,q.Fits):(∀ q∈m,q.Fits)∧m.length≤c.length:=by
 unfold mediate at h
 split at h
 ·cases h
 ·obtain ⟨x,h1,h2⟩:=Option.bind_eq_some_iff.1 h
  split at h2
  ·obtain rfl:=Option.some.inj h2
   exact ⟨withoutAll_fits h1 fc,withoutAll_len h1⟩
  ·cases h2
end Sq
set_option maxHeartbeats 16000000 in
set_option maxRecDepth 100000 in
theorem mediate_walk (A B C D:Option Addr) (n cA m cB k cC j cD:Nat) (a s c d:List Qp) (w:World) (hg:Glob w) (ha:Qs w (fun _=>True) A a) (hb:Qs w (fun _=>True) B s) (hc:Qs w (fun _=>True) C c) (hd:Qs w (fun _=>True) D d) (hn:a.length=n) (hm:s.length=m) (hk:c.length=k) (hj:d.length=j) (hB:B=none→cB=0) (hmB:m≤cB) (hkC:k≤cC) (hjD:j≤cD)
 (b1:n≤1152921504606846976) (b2:m≤1152921504606846976) (b3:k≤1152921504606846976) (b4:j≤1152921504606846976) (t1:∀ q∈a,q.Tame) (t2:∀ q∈s,q.Tame) (t3:∀ q∈c,q.Tame) (t4:∀ q∈d,q.Tame):
 Calls Tryz.prog 4 #[.agg #[.slice A n cA,.slice B m cB,.slice C k cC,.slice D j cD]] w (Ret (.bool true) w):=by
 have HA:=Lib.hid (fun W (hW:Ext w W)=>ha.ext hW)
 have HB:=Lib.hid (fun W (hW:Ext w W)=>hb.ext hW)
 have HC:=Lib.hid (fun W (hW:Ext w W)=>hc.ext hW)
 have HD:=Lib.hid (fun W (hW:Ext w W)=>hd.ext hW)
 have HN:=Lib.hid hn
 have HM:=Lib.hid hm
 have HK:=Lib.hid hk
 have HJ:=Lib.hid hj
 have T1:=Lib.hid t1
 have T2:=Lib.hid t2
 have T3:=Lib.hid t3
 have T4:=Lib.hid t4
 have HAW:=Lib.hid (fun W (hW:Ext w W)=>awake15_any W (hg.ext hW))
 have HBn:Hid (B=none→m=0∧cB=0):=Lib.hid fun e=>⟨by have :=hB e;omega,hB e⟩
 have HG:=Lib.hid (fun W (hW:Ext w W)=>hg.ext hW)
 have HGR:Hid (∀ W g t,Ext w W→Blk W g t #[.slice A n cA,.slice B m cB,.slice C k cC,.slice D j cD]→Calls Tryz.prog 12 #[.slice (some ⟨g,0,none⟩) 4 4] W (Tells (Seqs.small [(A,a,cA),(B,s,cB),(C,c,cC),(D,d,cD)]) W)):=Lib.hid fun W g t hW h=>lawgreat15_any g t [(A,a,cA),(B,s,cB),(C,c,cC),(D,d,cD)] 4 W (by unfold Seqs.cells;simpa [hn,hm,hk,hj] using h) rfl (fun x hx=>by
  rcases List.mem_cons.1 hx with rfl | hx
  ·exact ⟨⟨_,ha.ext hW⟩,by dsimp only;omega,fun q hq=>⟨(t1 q hq).1.1,(t1 q hq).1.2.1⟩⟩
  rcases List.mem_cons.1 hx with rfl | hx
  ·exact ⟨⟨_,hb.ext hW⟩,by dsimp only;omega,fun q hq=>⟨(t2 q hq).1.1,(t2 q hq).1.2.1⟩⟩
  rcases List.mem_cons.1 hx with rfl | hx
  ·exact ⟨⟨_,hc.ext hW⟩,by dsimp only;omega,fun q hq=>⟨(t3 q hq).1.1,(t3 q hq).1.2.1⟩⟩
  ·obtain rfl:x=(D,d,cD):=by simpa using hx
   exact ⟨⟨_,hd.ext hW⟩,by dsimp only;omega,fun q hq=>⟨(t4 q hq).1.1,(t4 q hq).1.2.1⟩⟩) (by omega)
 clear ha hb hc hd hn hm hk hj t1 t2 t3 t4 hB hg
 go_enter Tryz.func4,Tryz.ntmps4
 have hx:=Ext.refl w
 go_wp2_with fail
 refine (HGR.out _ _ _ (((Ext.refl w).alloc _).alloc _) (Blk.new' (by simp))).mono ?_
 rintro e u1 ⟨v,rfl,hsm,hx0⟩
 have hbx:=(((Blk.new' (w:=w) rfl).alloc _).ext hx0:Blk u1 w.heap.size 28 #[.slice A n cA,.slice B m cB,.slice C k cC,.slice D j cD])
 have hs:Ext w u1:=Ext.trans (((Ext.refl w).alloc _).alloc _) hx0
 clear hx hx0 HGR
 have hx:=hs
 clear hs
 dsimp only
 have HS:=Lib.hid hsm
 clear hsm
 cases v
 rotate_left
 ·clear hbx
  go_wp2_with fail
  refine (HAW.out _ hx).mono ?_
  rintro e u2 ⟨rfl,hx0⟩
  have hx1:=hx.trans hx0
  clear hx hx0
  have hx:=hx1
  clear hx1
  (try dsimp only)
  go_wp2_with fail
  (go_ret;refine Ret.mk ?_ ?_;(focus (rfl;done));(focus (exact EX;done)))
 have S1:Small a:=HS.out rfl (A,a,cA) (by simp)
 have S2:Small s:=HS.out rfl (B,s,cB) (by simp)
 have S3:Small c:=HS.out rfl (C,c,cC) (by simp)
 have S4:Small d:=HS.out rfl (D,d,cD) (by simp)
 have F1:=Lib.hid S1.fits
 have F2:=Lib.hid S2.fits
 have F3:=Lib.hid S3.fits
 have F4:=Lib.hid S4.fits
 have n8:n≤8:=by have :=S1.1;have:=HN.out;omega
 have m8:m≤8:=by have :=S2.1;have:=HM.out;omega
 have k8:k≤8:=by have :=S3.1;have:=HK.out;omega
 have j8:j≤8:=by have :=S4.1;have:=HJ.out;omega
 clear HS S1 S2 S3 S4
 have HMD:=Lib.hid (fun W (hW:Ext w W)=>mediate_any A B C D n cA m cB k cC j cD a s c d W (HG.out _ hW) (HA.out _ hW) (HB.out _ hW) (HC.out _ hW) (HD.out _ hW) HN.out HM.out HK.out HJ.out HBn.out (by omega) (by omega) (by omega) (by omega) F1.out F2.out F3.out F4.out)
 have HRM:=Lib.hid (fun W (hW:Ext w W)=>rmediate_any A B C D n cA m cB k cC j cD a s c d W (HA.out _ hW) (HB.out _ hW) (HC.out _ hW) (HD.out _ hW) HN.out HM.out HK.out HJ.out hmB hkC hjD (by omega) (by omega) (by omega) (by omega) T1.out T2.out T3.out T4.out)
 have HSQ:=Lib.hid (fun W (hW:Ext w W)=>psquare_two A B C D n cA m cB k cC j cD a s c d W (HG.out _ hW) (HA.out _ hW) (HB.out _ hW) (HC.out _ hW) (HD.out _ hW) HN.out HM.out HK.out HJ.out (by omega) (by omega) (by omega) (by omega) F1.out F2.out F3.out F4.out)
 have HRS:=Lib.hid (fun W (hW:Ext w W)=>rsquare_any A B C D n cA m cB k cC j cD a s c d W (HA.out _ hW) (HB.out _ hW) (HC.out _ hW) (HD.out _ hW) HN.out HM.out HK.out HJ.out (by omega) (by omega) (by omega) (by omega) T1.out T2.out T3.out T4.out)
 have HMF:=Lib.hid (fun l (h:Sq.mediate a s c d=some l)=>Sq.mediate_fits h F3.out)
 generalize Sq.same (a ++ c) (s ++ d)=sq at HSQ HRS
 generalize Sq.mediate a s c d=M at HMD HRM HMF
 clear HA HB HC HD HG HN HM HJ HBn F1 F2 F3 F4 T1 T2 T3 T4
 have hc0:=hbx.cell
 have hl0:=hbx.lt
 go_wp2_with fail
 clear hc0 hl0
 refine (HMD.out _ hx).mono ?_
 rintro e u2 ⟨hres,hx0⟩
 replace hbx:=hbx.ext hx0
 have hx1:=hx.trans hx0
 clear hx hx0
 have hx:=hx1
 clear hx1
 (try dsimp only)
 clear HMD
 have hc0:=hbx.cell
 have hl0:=hbx.lt
 cases M with
 | none=>
   rcases hres with ⟨_,rfl⟩ | ⟨l,E,q,cE,hq,_⟩
   rotate_left
   ·cases hq
   go_wp2_with fail
   clear hc0 hl0
   refine (HRM.out _ hx).mono ?_
   rintro e u3 ⟨hres,hx0⟩
   replace hbx:=hbx.ext hx0
   have hx1:=hx.trans hx0
   clear hx hx0
   have hx:=hx1
   clear hx1
   (try dsimp only)
   clear HRM
   rcases hres with ⟨_,C2,c2,rfl⟩ | ⟨l,E,q,cE,hq,_⟩
   rotate_left
   ·cases hq
   have P1:=Lib.hid (fun W (hW:Ext u3 W)=>HSQ.out W (hx.trans hW))
   have P2:=Lib.hid (fun W (hW:Ext u3 W)=>HRS.out W (hx.trans hW))
   have P3:=Lib.hid (fun W (hW:Ext u3 W)=>rsame_true none C2 0 0 c2 [] W (Qs.nil _ (fun _=>True) _) (Qs.nil _ (fun _=>True) _) rfl (by omega) (fun q hq=>by cases hq))
   have P4:=Lib.hid (fun W (hW:Ext u3 W)=>HAW.out W (hx.trans hW))
   have HC0:=Lib.hid (fun W (hW:Ext u3 W)=>(hbx.ext hW).cell)
   have HC1:=Lib.hid (fun W (hW:Ext u3 W)=>(hbx.ext hW).cell)
   have hc0:=hbx.cell
   have hl0:=hbx.lt
   go_upto_region 5 with fail
   clear hc0 hl0 hbx HSQ HRS HAW
   cases sq
   all_goals
    refine wp_region_ext (by kernel_rfl) (by kernel_rfl) ?_
    repeat (first | go_big_quiet_skip | (go_big_quiet_want;first | (go_big_quiet_op;go_big_quiet_on) | (apply quiet_at;intro W hW;have hc0:=HC0.out W hW;have hc1:=HC1.out W hW;go_simp;(first | exact rfl | (simp only [Oper.quietUpon,true_and];first | exact rfl | ((first | (go_at_call 16;with_reducible exact quiet_call hW (P1.out _ hW) (fun _ _ h=>Ret.bcell h)) | (go_at_call 17;with_reducible exact quiet_call hW (P2.out _ hW) (fun _ _ h=>Ret.bcell h)) | (go_at_call 18;with_reducible exact quiet_call hW (P3.out _ hW) (fun _ _ h=>Ret.bcell h)) | (go_at_call 13;with_reducible exact quiet_call hW (P4.out _ hW) (fun _ _ h=>Ret.bcell h))))) | ((first | (go_at_call 16;with_reducible exact quiet_call hW (P1.out _ hW) (fun _ _ h=>Ret.bcell h)) | (go_at_call 17;with_reducible exact quiet_call hW (P2.out _ hW) (fun _ _ h=>Ret.bcell h)) | (go_at_call 18;with_reducible exact quiet_call hW (P3.out _ hW) (fun _ _ h=>Ret.bcell h)) | (go_at_call 13;with_reducible exact quiet_call hW (P4.out _ hW) (fun _ _ h=>Ret.bcell h)))));go_big_quiet_on;simp only [Act.put,sA,s0,sS])))
    refine wpQuiet_nil ?_
    intro w9 hx9
    have hy:=hx.trans hx9
    clear hx hx9 P1 P2 P3 P4 HC0 HC1
    have hx:=hy
    clear hy
    go_wp2_with fail
    (go_ret;refine Ret.mk ?_ ?_;(focus (rfl;done));(focus (exact EX;done)))
 | some l=>
   obtain ⟨fl,ll⟩:=HMF.out l rfl
   have FL:=Lib.hid fl
   have l8:l.length≤8:=by have :=HK.out;omega
   rcases hres with ⟨hq,_⟩ | ⟨l',E,q,cE,hq,hlq,rfl,HE⟩
   ·cases hq
   obtain rfl:=Option.some.inj hq
   have HLQ:=Lib.hid hlq
   clear hq fl ll hlq
   go_wp2_with fail
   clear hc0 hl0
   refine (HRM.out _ hx).mono ?_
   rintro e u3 ⟨hres,hx0⟩
   replace hbx:=hbx.ext hx0
   have HE2:=Lib.hid (HE.out.ext hx0)
   have hx1:=hx.trans hx0
   clear hx hx0
   have hx:=hx1
   clear hx1
   (try dsimp only)
   clear HRM HE
   rcases hres with ⟨hq,_⟩ | ⟨l',E',q',cE',hq,hlq,rfl,HE'⟩
   ·cases hq
   obtain rfl:=Option.some.inj hq
   obtain rfl:=HLQ.out.symm.trans hlq
   clear hq hlq
   have P1:=Lib.hid (fun W (hW:Ext u3 W)=>HSQ.out W (hx.trans hW))
   have P2:=Lib.hid (fun W (hW:Ext u3 W)=>HRS.out W (hx.trans hW))
   have P3:=Lib.hid (fun W (hW:Ext u3 W)=>rsame_true E E' q cE cE' l W (HE2.out.ext hW) (HE'.out.ext hW) HLQ.out (by have :=HLQ.out;omega) FL.out)
   have P4:=Lib.hid (fun W (hW:Ext u3 W)=>HAW.out W (hx.trans hW))
   have HC0:=Lib.hid (fun W (hW:Ext u3 W)=>(hbx.ext hW).cell)
   have HC1:=Lib.hid (fun W (hW:Ext u3 W)=>(hbx.ext hW).cell)
   have hc0:=hbx.cell
   have hl0:=hbx.lt
   go_upto_region 5 with fail
   clear hc0 hl0 hbx HSQ HRS HAW
   cases sq
   all_goals
    refine wp_region_ext (by kernel_rfl) (by kernel_rfl) ?_
    repeat (first | go_big_quiet_skip | (go_big_quiet_want;first | (go_big_quiet_op;go_big_quiet_on) | (apply quiet_at;intro W hW;have hc0:=HC0.out W hW;have hc1:=HC1.out W hW;go_simp;(first | exact rfl | (simp only [Oper.quietUpon,true_and];first | exact rfl | ((first | (go_at_call 16;with_reducible exact quiet_call hW (P1.out _ hW) (fun _ _ h=>Ret.bcell h)) | (go_at_call 17;with_reducible exact quiet_call hW (P2.out _ hW) (fun _ _ h=>Ret.bcell h)) | (go_at_call 18;with_reducible exact quiet_call hW (P3.out _ hW) (fun _ _ h=>Ret.bcell h)) | (go_at_call 13;with_reducible exact quiet_call hW (P4.out _ hW) (fun _ _ h=>Ret.bcell h))))) | ((first | (go_at_call 16;with_reducible exact quiet_call hW (P1.out _ hW) (fun _ _ h=>Ret.bcell h)) | (go_at_call 17;with_reducible exact quiet_call hW (P2.out _ hW) (fun _ _ h=>Ret.bcell h)) | (go_at_call 18;with_reducible exact quiet_call hW (P3.out _ hW) (fun _ _ h=>Ret.bcell h)) | (go_at_call 13;with_reducible exact quiet_call hW (P4.out _ hW) (fun _ _ h=>Ret.bcell h)))));go_big_quiet_on;simp only [Act.put,sA,s0,sS])))
    refine wpQuiet_nil ?_
    intro w9 hx9
    have hy:=hx.trans hx9
    clear hx hx9 P1 P2 P3 P4 HC0 HC1
    have hx:=hy
    clear hy
    go_wp2_with fail
    (go_ret;refine Ret.mk ?_ ?_;(focus (rfl;done));(focus (exact EX;done)))
end Go.Proofs.YtlbhaimfjfdppaaGreatDoor
namespace Go.Proofs.YtlbhaimfjfdppaaGreatDoor.PushoutMediate
open Go.ChangeShapes Go.WideShapes Go.ChangeAt Go.RowKit Go.Deep
theorem own:ownKnob Tryz.prog.godebug=none:=by kernel_rfl
theorem listIn:28 < Tryz.prog.types.size:=of_decide_eq_true (by kernel_rfl)
theorem glob {W:World} (h:W.ShapedOpen Tryz.prog):Glob W:=
 cell_of_shapedOpen_int (zero:=#[.int .i64 0]) (t:=3) h (of_decide_eq_true (by kernel_rfl)) (by kernel_rfl) rfl (by kernel_rfl) (by kernel_rfl) Tryz.underlying3
theorem cFour:Tryz.prog.cellsOf 28=4:=by kernel_rfl
theorem cPrims:Tryz.prog.cellsOf 22=1:=by kernel_rfl
structure Came (W:World) (A:Option Addr) (l:List Qp) (c:Nat):Prop where
 qs:Qs W (fun _=>True) A l
 le:l.length≤c
 ub:c≤879609302195
 nn:A=none→c=0
 meek:∀ q∈l,q.Meek
theorem Came.sz {W:World} {A:Option Addr} {l:List Qp} {c:Nat} (h:Came W A l c):∀ q∈l,q.old.length≤1152921504606846976∧q.new.length≤1152921504606846976:=fun q hq=>⟨(h.meek q hq).old,(h.meek q hq).new⟩
set_option maxHeartbeats 2000000 in
set_option maxRecDepth 100000 in
theorem open_four {H:Type} {enc:TypeId × Value→H} {W:World} {held:Bool} {b0:Nat} {v:Value} {d:DataW H} {ps:List MemPlace} (hval:Value.okWide Tryz.prog W .any b0 28 v) (hd:DataW.Trod enc Tryz.prog W 0 (fun _=>true) held 28 v d ps) (hw:∀ n∈d.weights Tryz.prog 28,n≤reachBytes):
 ∃ A0 l0 c0 A1 l1 c1 A2 l2 c2 A3 l3 c3,v=.agg #[.slice A0 l0.length c0,.slice A1 l1.length c1,.slice A2 l2.length c2,.slice A3 l3.length c3]∧Came W A0 l0 c0∧Came W A1 l1 c1∧Came W A2 l2 c2∧Came W A3 l3 c3:=by
 obtain ⟨cs,rfl,hcs⟩:=okWide_struct Tryz.underlying28 hval
 rw [cFour] at hcs
 obtain ⟨fuel,h⟩:=hd
 obtain ⟨l⟩:=cs
 match l,hcs with
 | [v0,v1,v2,v3],_=>
   obtain ⟨xs,n,_,hx,_,hxl,hf⟩:=DataW.trod_struct Tryz.underlying28 h
   have hxl3:xs.length=4:=hxl
   match xs,hxl3 with
   | [y0,y1,y2,y3],_=>
     have e0:DataW.trod enc Tryz.prog W 0 (fun _=>true) held n 22 (([v0,v1,v2,v3].drop 0).take (Tryz.prog.cellsOf 22))=some y0:=hf 0 _ rfl
     rw [cPrims] at e0
     have e0:DataW.trod enc Tryz.prog W 0 (fun _=>true) held n 22 [v0]=some y0:=e0
     have e1:DataW.trod enc Tryz.prog W 0 (fun _=>true) held n 22 (([v0,v1,v2,v3].drop 1).take (Tryz.prog.cellsOf 22))=some y1:=hf 1 _ rfl
     rw [cPrims] at e1
     have e1:DataW.trod enc Tryz.prog W 0 (fun _=>true) held n 22 [v1]=some y1:=e1
     have e2:DataW.trod enc Tryz.prog W 0 (fun _=>true) held n 22 (([v0,v1,v2,v3].drop 2).take (Tryz.prog.cellsOf 22))=some y2:=hf 2 _ rfl
     rw [cPrims] at e2
     have e2:DataW.trod enc Tryz.prog W 0 (fun _=>true) held n 22 [v2]=some y2:=e2
     have e3:DataW.trod enc Tryz.prog W 0 (fun _=>true) held n 22 (([v0,v1,v2,v3].drop 3).take (Tryz.prog.cellsOf 22))=some y3:=hf 3 _ rfl
     rw [cPrims] at e3
     have e3:DataW.trod enc Tryz.prog W 0 (fun _=>true) held n 22 [v3]=some y3:=e3
     have ed:d=.agg ([y0,y1,y2,y3].map (·.1)):=congrArg Prod.fst hx
     subst ed
     have hu:Tryz.prog.underlying 28=some (.struct _):=Tryz.underlying28
     simp only [DataW.weights,hu] at hw
     obtain ⟨A0,l0,c0,rfl,q0,a0,b0,n0,m0⟩:=open_prims e0 (weights_mem (j:=0) hw rfl rfl)
     obtain ⟨A1,l1,c1,rfl,q1,a1,b1,n1,m1⟩:=open_prims e1 (weights_mem (j:=1) hw rfl rfl)
     obtain ⟨A2,l2,c2,rfl,q2,a2,b2,n2,m2⟩:=open_prims e2 (weights_mem (j:=2) hw rfl rfl)
     obtain ⟨A3,l3,c3,rfl,q3,a3,b3,n3,m3⟩:=open_prims e3 (weights_mem (j:=3) hw rfl rfl)
     exact ⟨A0,l0,c0,A1,l1,c1,A2,l2,c2,A3,l3,c3,rfl,⟨q0,a0,b0,n0,m0⟩,⟨q1,a1,b1,n1,m1⟩,⟨q2,a2,b2,n2,m2⟩,⟨q3,a3,b3,n3,m3⟩⟩
set_option maxHeartbeats 2000000 in
set_option maxRecDepth 100000 in
theorem contract (H:Type) (enc:TypeId × Value→H) (W:World) (base:Nat) (args:Array Value) (ds gs:List (DataW H)) (before:List MemPlace)
 (hval:∀ (j:Nat) t v,Tryz.f4.params[j]?=some t→args[j]?=some v→Value.okWide Tryz.prog W .any base t v)
 (hW:DataW.Whole enc Tryz.prog Tryz.f4.params.toList Rows.pushoutMediateSpec.vars false W args.toList ds gs before)
 (hwt:∀ n∈DataW.weightsEach Tryz.prog (Tryz.f4.params.toList ++ (OpenSpec.ofChange Rows.pushoutMediateSpec).bare.plain.varTypes Tryz.prog) (ds ++ gs),n≤reachBytes) (hS:W.ShapedOpen Tryz.prog):
 Calls Tryz.prog 4 args W fun e W'=>∃ v,e=.returned v∧Rows.pushoutMediateSpec.post enc Tryz.prog Tryz.f4 false true false false W args v W':=by
 have hW':=hW
 obtain ⟨p,q,hA0,hV,rfl,hfz,hnd⟩:=hW
 have hA:DataW.TrodAll enc Tryz.prog W 0 (fun _=>true) true Tryz.f4.params.toList args.toList ds p:=hA0
 rw [Tryz.params4] at hA hval hwt
 obtain ⟨v0,vs0,d0,ds0,p0,q0,hargs,rfl,rfl,h0,r0⟩:=trodAll_cons hA
 obtain ⟨rfl,rfl,rfl⟩:=trodAll_nil r0
 obtain rfl:args=#[v0]:=by cases args;simp_all
 obtain ⟨rfl,rfl⟩:=trodVars_none hV
 obtain ⟨A0,l0,c0,A1,l1,c1,A2,l2,c2,A3,l3,c3,rfl,o0,o1,o2,o3⟩:=open_four (hval 0 28 v0 rfl rfl) h0 (weights_mem (j:=0) hwt rfl rfl)
 clear hA0
 have mks:∀ {A:Option Addr} {l:List Qp} {c:Nat},Came W A l c→∀ q∈l,q.Tame:=fun o q hq=>by
  have m:=o.meek q hq
  have h1:=m.path
  have h2:=m.to_
  exact ⟨⟨m.old,m.new,by omega,by omega⟩,m.olds,m.news⟩
 refine (mediate_walk A0 A1 A2 A3 l0.length c0 l1.length c1 l2.length c2 l3.length c3 l0 l1 l2 l3 W (glob hS) o0.qs o1.qs o2.qs o3.qs rfl rfl rfl rfl o1.nn o1.le o2.le o3.le (by have :=o0.le;have:=o0.ub;omega) (by have :=o1.le;have:=o1.ub;omega) (by have :=o2.le;have:=o2.ub;omega) (by have :=o3.le;have:=o3.ub;omega) (mks o0) (mks o1) (mks o2) (mks o3)).mono fun e W' ⟨he,hx⟩=>?_
 refine ⟨_,he,post_of_ext rfl hW' hx (fun t ht=>?_) (fun _ _ _=>trodAll_cons_mk (shut_bool Tryz.underlying4 _) trodAll_mk0) rfl rfl (ok_one (by kernel_rfl) rfl (okWide_bool_mk Tryz.underlying4 _))⟩
 rw [Tryz.params4] at ht
 obtain rfl:t=28:=by simpa using ht
 exact listIn
def zeroV:Value:=.agg #[.slice none 0 0,.slice none 0 0,.slice none 0 0,.slice none 0 0]
def zeroD {H:Type}:DataW H:=.agg [.nil,.nil,.nil,.nil]
theorem reads (os:Os) {H:Type} (enc:TypeId × Value→H):DataW.whole enc Tryz.prog ((World.laidAll Tryz.prog os Rows.pushoutMediateRow.laid).forCall (fun _ _=>0) ⟨#[],#[zeroV],[]⟩).memory Tryz.f4.params.toList Rows.pushoutMediateSpec.vars false #[zeroV].toList 8=some ([zeroD],[],[]):=by kernel_rfl
theorem laid_met (os:Os):laidMet Tryz.prog Rows.pushoutMediateRow.laid ((World.laidAll Tryz.prog os Rows.pushoutMediateRow.laid).forCall (fun _ _=>0) ⟨#[],#[zeroV],[]⟩).memory:=
 laidMet_laidAll _ (by kernel_rfl) (by kernel_rfl)
set_option maxRecDepth 100000 in
theorem lifted (os:Os) (started:os.Started) (H:Type) (enc:TypeId × Value→H) (F:Stop.Interp):
 ReturnsInHanded {} Tryz.checked os 4 .any ((OpenSpec.ofChange Rows.pushoutMediateSpec).preRow enc Tryz.prog Tryz.f4 Rows.pushoutMediateRow.domain false Rows.pushoutMediateRow.laid) (((OpenSpec.ofChange Rows.pushoutMediateSpec).at F).post enc Tryz.prog Tryz.f4 false true false false):=by
 refine returnsInHanded_of_row (C:=Tryz.checked) (s:=(OpenSpec.ofChange Rows.pushoutMediateSpec)) own started (by kernel_rfl) Tryz.func4
  (witness_row_at (enc:=enc) (C:=Tryz.checked) false (World.laidAll Tryz.prog os Rows.pushoutMediateRow.laid) #[zeroV] (World.laidAll_os _ _ _) (by kernel_rfl) (by kernel_rfl) (by kernel_rfl)
    (OpenSpec.preRow_of_cond 8 (reads os enc) (by kernel_rfl) (fun k hk=>by cases hk) (by kernel_rfl) (laid_met os))) ?_
 intro W base args ds gs before hval hW _ hcond hwt _ hS _
 exact contract H enc W base args ds gs before hval hW (fun n hn=>of_decide_eq_true (List.all_eq_true.1 hwt n hn)) hS
theorem said:Rows.PushoutMediateSaid:=
 OpenClaim.holds_of_cond 4 Tryz.f4 rfl rfl rfl rfl rfl rfl rfl ⟨rfl,rfl,rfl,rfl,rfl⟩ rfl rfl rfl rfl rfl (by kernel_rfl) Tryz.func4 (by kernel_rfl)
  (of_decide_eq_true (by kernel_rfl)) (by unfold Func.isWrapper;first | (rw [if_pos (by decide +kernel)];kernel_rfl) | (rw [if_neg (by decide +kernel)];exact ⟨rfl,rfl⟩))
  (fun os started H enc _ F=>by rw [OpenClaim.pre_eq_preRow];exact lifted os started H enc F)
theorem plain (f:FuncId) (fn:Func) (hf:Tryz.pinned.checked.prog.funcNamed Rows.pushoutMediateRow.func=some f) (hfn:Tryz.pinned.checked.prog.funcs[f]?=some fn):
 false=Tryz.pinned.checked.prog.looks []∧∀ (j:Nat) t,fn.params[j]?=some t→Tryz.pinned.checked.prog.wantsStandIn t=false:=by
 obtain rfl:f=4:=Option.some.inj ((show Tryz.prog.funcNamed Rows.pushoutMediateRow.func=some 4 by kernel_rfl).symm.trans hf) |>.symm
 obtain rfl:fn=Tryz.f4:=(Option.some.inj (Tryz.func4.symm.trans hfn)).symm
 refine ⟨by kernel_rfl,fun j t ht=>?_⟩
 rw [Tryz.params4] at ht
 obtain rfl:t=28:=by simpa using Array.mem_of_getElem? ht
 exact (show Tryz.prog.wantsStandIn 28=false by kernel_rfl)
theorem card:Rows.PushoutMediateCardSaid:=
 Claim7.holds_tied_plain_at .later [] _ _ _ _ said (fun _ h=>by cases h) (by kernel_rfl) (fun _ h=>by cases h) pushoutMediate_row_tie rfl ⟨rfl,rfl⟩ (by kernel_rfl) rfl plain (by kernel_rfl)
end Go.Proofs.YtlbhaimfjfdppaaGreatDoor.PushoutMediate
