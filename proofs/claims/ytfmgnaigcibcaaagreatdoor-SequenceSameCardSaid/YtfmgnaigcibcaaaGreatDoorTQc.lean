import Derived.Test.YtfmgnaigcibcaaaGreatDoorTW
import Derived.Test.YtfmgnaigcibcaaaGreatDoorTHeld
set_option linter.unusedSimpArgs false
set_option linter.unusedVariables false
namespace Go.Proofs.YtfmgnaigcibcaaaGreatDoor
open Go.RowKit
attribute [local go_sem ↓] Go.wp_at_zero Go.wp_at_succ
def Qp.Fits (q:Qp):Prop:=q.old.length≤1152921504606846976∧q.new.length≤1152921504606846976∧q.path.size≤1152921504606846976∧q.to_.size≤1152921504606846976
theorem run_ok {a b x y:Qp} {k:Bool} (h:a.run b=(x,y,k)) (hk:k=true):x.check=0∧y.check=0:=by
 unfold Qp.run Qp.runOf at h
 split at h
 ·rename_i hc
  simp only [Bool.and_eq_true,decide_eq_true_eq] at hc
  simp only [Prod.mk.injEq] at h
  rw [← h.1,← h.2.1]
  exact hc.2.2.2.2.2
 ·simp only [Prod.mk.injEq] at h
  rw [← h.2.2] at hk
  cases hk
set_option maxHeartbeats 16000000 in
set_option maxRecDepth 100000 in
theorem commute_any (p p':Pv) (a b:Qp) (w:World) (hg:Glob w) {F:Nat→Prop} (ha:Is w F p a) (hb:Is w F p' b) (fa:a.Fits) (fb:b.Fits):
 Calls Tryz.prog 31 #[p.v,p'.v] w (GivesTwo F (a.commute b) w):=by
 have HA:=Lib.hid ha.in
 have HB:=Lib.hid hb.in
 have HG:=Lib.hid hg
 obtain ⟨A1,c1,A2,c2,rfl,_⟩:=ha
 obtain ⟨B1,d1,B2,d2,rfl,_⟩:=hb
 have q1:∀ W,Ext w W→Calls Tryz.prog 38 #[(a.pv A1 c1 A2 c2).v] W (Ret (.int .i64 a.check) W):=fun W hW=>check_q _ a W (HG.out.ext hW) (HA.out.ext hW) fa.1 fa.2.1 fa.2.2.1 fa.2.2.2
 have q2:∀ W,Ext w W→Calls Tryz.prog 38 #[(b.pv B1 d1 B2 d2).v] W (Ret (.int .i64 b.check) W):=fun W hW=>check_q _ b W (HG.out.ext hW) (HB.out.ext hW) fb.1 fb.2.1 fb.2.2.1 fb.2.2.2
 have Q1:=Lib.hid q1
 have Q2:=Lib.hid q2
 have r1:a.check=0→b.check=0→∀ W,Ext w W→Calls Tryz.prog 61 #[(a.pv A1 c1 A2 c2).v,(b.pv B1 d1 B2 d2).v] W (GivesTwo (fun b=>F b∧b < w.heap.size) (a.run b) W):=fun h1 h2 W hW=>run_any _ _ a b W (HG.out.ext hW) (HA.out.ext hW) (HB.out.ext hW) h1 h2
 have HM:Hid (a.commute b=if a.check≠0∨b.check≠0 then (Qp.zero,Qp.zero,false)
  else if (a.run b).2.2=false then (Qp.zero,Qp.zero,false)
  else if ((a.run b).1.run (a.run b).2.1).2.2 && (((a.run b).1.run (a.run b).2.1).1.same a && ((a.run b).1.run (a.run b).2.1).2.1.same b) then ((a.run b).1,(a.run b).2.1,true)
  else (Qp.zero,Qp.zero,false)):=Lib.hid rfl
 generalize a.commute b=R at HM ⊢
 have HO:∀ x y k,a.run b=(x,y,k)→k=true→x.check=0∧y.check=0:=fun x y k h hk=>run_ok h hk
 generalize a.run b=R1 at r1 HM HO
 obtain ⟨E1,E2,k1⟩:=R1
 have HO1:=Lib.hid (HO E1 E2 k1 rfl)
 clear HO
 have HO2:∀ x y k,E1.run E2=(x,y,k)→k=true→x.check=0∧y.check=0:=fun x y k h hk=>run_ok h hk
 have r2:∀ F' W P P',Glob W→Is W F' P E1→Is W F' P' E2→E1.check=0→E2.check=0→Calls Tryz.prog 61 #[P.v,P'.v] W (GivesTwo F' (E1.run E2) W):=fun F' W P P' hW h1 h2=>run_any P P' E1 E2 W hW h1 h2
 dsimp only at HM
 generalize E1.run E2=R2 at r2 HM HO2
 obtain ⟨X1,X2,k2⟩:=R2
 have HO2:=Lib.hid (HO2 X1 X2 k2 rfl)
 have HM:Hid (R=if a.check≠0∨b.check≠0 then (Qp.zero,Qp.zero,false) else if k1=false then (Qp.zero,Qp.zero,false) else if k2 && (X1.same a && X2.same b) then (E1,E2,true) else (Qp.zero,Qp.zero,false)):=HM
 have R1:=Lib.hid r1
 have R2:=Lib.hid r2
 clear r1 r2 q1 q2 fa fb hg
 go_enter Tryz.func31,Tryz.ntmps31
 have hx:=Ext.refl w
 go_wp2_with fail
 refine (Q1.out _ EX).mono ?_
 rintro e w1 ⟨rfl,hx0⟩
 have hb0:Blk w1 (w.heap.size) 28 (parr (a.pv A1 c1 A2 c2)):=Blk.ext hx0 (Blk.alloc (Blk.alloc (Blk.alloc (Blk.new' (by simp)) _) _) _)
 have hb1:Blk w1 (w.heap.size+1) 28 (parr (b.pv B1 d1 B2 d2)):=Blk.ext hx0 (Blk.alloc (Blk.alloc (Blk.new' (by simp)) _) _)
 have hb2:Blk w1 (w.heap.size+1+1) 28 zcells:=Blk.ext hx0 (Blk.alloc (Blk.new' (by simp)) _)
 have hb3:Blk w1 (w.heap.size+1+1+1) 28 zcells:=Blk.ext hx0 (Blk.new' (by simp))
 have hx1:=Ext.trans (a:=w) EX hx0
 clear hx hx0
 have hx:=hx1
 clear hx1
 by_cases z1:a.check=0
 rotate_left
 ·have HZ:Hid (R=(Qp.zero,Qp.zero,false)):=Lib.hid (by rw [HM.out];simp [z1])
  have z1':(a.check != 0)=true:=by simpa using z1
  clear z1 HM
  obtain ⟨hc0,hf0,hl0⟩:=hb0.all
  obtain ⟨hc1,hf1,hl1⟩:=hb1.all
  obtain ⟨hc2,hf2,hl2⟩:=hb2.all
  obtain ⟨hc3,hf3,hl3⟩:=hb3.all
  go_wp2_with fail
  refine bodyPost_ret (v:=.tuple #[(Qp.zero.pv none 0 none 0).v,(Qp.zero.pv none 0 none 0).v,.bool false]) ?_ rfl ?_
  ·simp only [results,Tryz.results31]
   go_simp
   simp [Qp.zero]
  ·rw [HZ.out]
   exact ⟨_,_,rfl,Is.none _ _ Qp.zero rfl rfl,Is.none _ _ Qp.zero rfl rfl,EX⟩
 have Z1:=Lib.hid z1
 rw [Z1.out]
 clear z1
 obtain ⟨hc0,hf0,hl0⟩:=hb0.all
 obtain ⟨hc1,hf1,hl1⟩:=hb1.all
 obtain ⟨hc2,hf2,hl2⟩:=hb2.all
 obtain ⟨hc3,hf3,hl3⟩:=hb3.all
 go_wp2_with fail
 clear hc0 hf0 hl0 hc1 hf1 hl1 hc2 hf2 hl2 hc3 hf3 hl3
 refine (Q2.out _ hx).mono ?_
 rintro e w1 ⟨rfl,hx0⟩
 have hx1:=Ext.trans hx hx0
 replace hb0:=hb0.ext hx0
 replace hb1:=hb1.ext hx0
 replace hb2:=hb2.ext hx0
 replace hb3:=hb3.ext hx0
 clear hx hx0
 have hx:=hx1
 clear hx1
 by_cases z2:b.check=0
 rotate_left
 ·have HZ:Hid (R=(Qp.zero,Qp.zero,false)):=Lib.hid (by rw [HM.out];simp [z2])
  have z2':(b.check != 0)=true:=by simpa using z2
  clear z2 HM
  obtain ⟨hc0,hf0,hl0⟩:=hb0.all
  obtain ⟨hc1,hf1,hl1⟩:=hb1.all
  obtain ⟨hc2,hf2,hl2⟩:=hb2.all
  obtain ⟨hc3,hf3,hl3⟩:=hb3.all
  go_wp2_with fail
  refine bodyPost_ret (v:=.tuple #[(Qp.zero.pv none 0 none 0).v,(Qp.zero.pv none 0 none 0).v,.bool false]) ?_ rfl ?_
  ·simp only [results,Tryz.results31]
   go_simp
   simp [Qp.zero]
  ·rw [HZ.out]
   exact ⟨_,_,rfl,Is.none _ _ Qp.zero rfl rfl,Is.none _ _ Qp.zero rfl rfl,EX⟩
 have Z2:=Lib.hid z2
 rw [Z2.out]
 clear z2
 obtain ⟨hc0,hf0,hl0⟩:=hb0.all
 obtain ⟨hc1,hf1,hl1⟩:=hb1.all
 obtain ⟨hc2,hf2,hl2⟩:=hb2.all
 obtain ⟨hc3,hf3,hl3⟩:=hb3.all
 go_wp2_with fail
 clear hc0 hf0 hl0 hc1 hf1 hl1 hc2 hf2 hl2 hc3 hf3 hl3
 have hn:=hb3.lt
 refine (R1.out Z1.out Z2.out _ hx).mono ?_
 rintro e w2 ⟨P1,P2,rfl,i1,i2,hx0⟩
 have hx1:=Ext.trans hx hx0
 replace hb0:=hb0.ext hx0
 replace hb1:=hb1.ext hx0
 replace hb2:=hb2.ext hx0
 replace hb3:=hb3.ext hx0
 clear hx hx0
 have hx:=hx1
 clear hx1
 have I1:=Lib.hid (Is.mono i1.in (G:=fun b=>((F b∧b < w.heap.size)∨w.heap.size+4≤b)∧b < w2.heap.size) (fun b hb=>⟨hb.1.imp_right (fun h=>by omega),hb.2⟩))
 have I2:=Lib.hid (Is.mono i2.in (G:=fun b=>((F b∧b < w.heap.size)∨w.heap.size+4≤b)∧b < w2.heap.size) (fun b hb=>⟨hb.1.imp_right (fun h=>by omega),hb.2⟩))
 clear hn
 obtain ⟨C1,e1,C2,e2,rfl,_⟩:=i1
 obtain ⟨D1,f1,D2,f2,rfl,_⟩:=i2
 dsimp only
 have hl3:=hb3.lt
 have HL:=Lib.hid hl3
 cases k1
 ·have HZ:Hid (R=(Qp.zero,Qp.zero,false)):=Lib.hid (by rw [HM.out];simp)
  clear HM hl3
  obtain ⟨hc0,hf0,hl0⟩:=hb0.all
  obtain ⟨hc1,hf1,hl1⟩:=hb1.all
  obtain ⟨hc2,hf2,hl2⟩:=hb2.all
  obtain ⟨hc3,hf3,hl3⟩:=hb3.all
  go_wp2_with fail
  refine bodyPost_ret (v:=.tuple #[(Qp.zero.pv none 0 none 0).v,(Qp.zero.pv none 0 none 0).v,.bool false]) ?_ rfl ?_
  ·simp only [results,Tryz.results31]
   go_simp
   simp [Qp.zero]
  ·rw [HZ.out]
   exact ⟨_,_,rfl,Is.none _ _ Qp.zero rfl rfl,Is.none _ _ Qp.zero rfl rfl,EX⟩
 have OK1:=HO1.out rfl
 clear HO1
 have H2:Hid (∀ W,Ext w2 W→Is W (fun b=>((F b∧b < w.heap.size)∨w.heap.size+4≤b)∧b < w2.heap.size) (E1.pv C1 e1 C2 e2) E1→Is W (fun b=>((F b∧b < w.heap.size)∨w.heap.size+4≤b)∧b < w2.heap.size) (E2.pv D1 f1 D2 f2) E2→Blk W w2.heap.size 28 (parr (E1.pv C1 e1 C2 e2))→Blk W (w2.heap.size+1) 28 (parr (E2.pv D1 f1 D2 f2)) →
  Calls Tryz.prog 61 #[(E1.pv C1 e1 C2 e2).v,(E2.pv D1 f1 D2 f2).v] W (fun e w'=>∃ S1 x1 S2 x2 T1 y1 T2 y2,e=.returned (.tuple #[(X1.pv S1 x1 S2 x2).v,(X2.pv T1 y1 T2 y2).v,.bool k2])∧Hid (Is w' (fun b=>((F b∧b < w.heap.size)∨w.heap.size+4≤b)∧b < w2.heap.size∨W.heap.size≤b) (X1.pv S1 x1 S2 x2) X1)∧Hid (Is w' (fun b=>((F b∧b < w.heap.size)∨w.heap.size+4≤b)∧b < w2.heap.size∨W.heap.size≤b) (X2.pv T1 y1 T2 y2) X2) ∧
   Hid (Is w' (fun b=>((F b∧b < w.heap.size)∨w.heap.size+4≤b)∧b < w2.heap.size) (E1.pv C1 e1 C2 e2) E1)∧Hid (Is w' (fun b=>((F b∧b < w.heap.size)∨w.heap.size+4≤b)∧b < w2.heap.size) (E2.pv D1 f1 D2 f2) E2)∧Ext w2 w'∧Blk w' w2.heap.size 28 (parr (E1.pv C1 e1 C2 e2))∧Blk w' (w2.heap.size+1) 28 (parr (E2.pv D1 f1 D2 f2)))):=
  Lib.hid (fun W hW j1 j2 g1 g2=>(R2.out _ W _ _ (HG.out.ext (hx.trans hW)) j1 j2 OK1.1 OK1.2).mono (fun e w' h=>by
   obtain ⟨Q,Q',he,l1,l2,hy⟩:=h
   have l1':=Lib.hid l1
   have l2':=Lib.hid l2
   obtain ⟨S1,x1,S2,x2,rfl,_⟩:=l1
   obtain ⟨T1,y1,T2,y2,rfl,_⟩:=l2
   exact ⟨S1,x1,S2,x2,T1,y1,T2,y2,he,l1',l2',Lib.hid (j1.ext hy),Lib.hid (j2.ext hy),hW.trans hy,g1.ext hy,g2.ext hy⟩))
 have Hx:=Lib.hid hx
 have hx:=Ext.refl w2
 clear OK1 R1 R2 hl3
 obtain ⟨hc0,hf0,hl0⟩:=hb0.all
 obtain ⟨hc1,hf1,hl1⟩:=hb1.all
 obtain ⟨hc2,hf2,hl2⟩:=hb2.all
 obtain ⟨hc3,hf3,hl3⟩:=hb3.all
 go_wp2_with fail
 clear hc0 hf0 hl0 hc1 hf1 hl1 hc2 hf2 hl2 hc3 hf3 hl3
 refine (H2.out _ EX (I1.out.ext EX) (I2.out.ext EX) (Blk.alloc (Blk.new' (by simp)) _) (Blk.new' (by simp))).mono ?_
 rintro e w3 ⟨S1,x1,S2,x2,T1,y1,T2,y2,rfl,L1,L2,J1,J2,hx0,hb7,hb8⟩
 clear I1 I2 H2
 replace hb0:=hb0.ext hx0
 replace hb1:=hb1.ext hx0
 replace hb2:=hb2.ext hx0
 replace hb3:=hb3.ext hx0
 have HW:=Lib.hid (Hx.out.trans hx0)
 clear hx hx0 Hx
 have hx:=Ext.refl w3
 have f1:k2=true→∀ W,Ext w3 W→Calls Tryz.prog 62 #[(X1.pv S1 x1 S2 x2).v,(a.pv A1 c1 A2 c2).v] W (Ret (.bool (X1.same a)) W):=fun hk W hW=>equal_any _ _ X1 a W (L1.out.ext hW) (HA.out.ext (HW.out.trans hW)) (by have :=Qp.small (HO2.out hk).1;omega) (by have :=Qp.small (HO2.out hk).1;omega) (by have :=Qp.small Z1.out;omega) (by have :=Qp.small Z1.out;omega)
 have f2:k2=true→∀ W,Ext w3 W→Calls Tryz.prog 62 #[(X2.pv T1 y1 T2 y2).v,(b.pv B1 d1 B2 d2).v] W (Ret (.bool (X2.same b)) W):=fun hk W hW=>equal_any _ _ X2 b W (L2.out.ext hW) (HB.out.ext (HW.out.trans hW)) (by have :=Qp.small (HO2.out hk).2;omega) (by have :=Qp.small (HO2.out hk).2;omega) (by have :=Qp.small Z2.out;omega) (by have :=Qp.small Z2.out;omega)
 generalize X1.same a=s1 at f1 HM
 generalize X2.same b=s2 at f2 HM
 have HM:Hid (R=if k2 && (s1 && s2) then (E1,E2,true) else (Qp.zero,Qp.zero,false)):=Lib.hid (by rw [HM.out,if_neg (by rw [Z1.out,Z2.out];simp),if_neg (by simp)])
 have hl7:=hb7.lt
 have hl8:=hb8.lt
 clear hl7 hl8
 cases k2
 ·have HZ:Hid (R=(Qp.zero,Qp.zero,false)):=Lib.hid (by rw [HM.out];simp)
  clear HM
  obtain ⟨hc0,hf0,hl0⟩:=hb0.all
  obtain ⟨hc1,hf1,hl1⟩:=hb1.all
  obtain ⟨hc2,hf2,hl2⟩:=hb2.all
  obtain ⟨hc3,hf3,hl3⟩:=hb3.all
  obtain ⟨hc7,hf7,hl7⟩:=hb7.all
  obtain ⟨hc8,hf8,hl8⟩:=hb8.all
  go_wp2_with fail
  refine bodyPost_ret (v:=.tuple #[(Qp.zero.pv none 0 none 0).v,(Qp.zero.pv none 0 none 0).v,.bool false]) ?_ rfl ?_
  ·simp only [results,Tryz.results31]
   go_simp
   simp [Qp.zero]
  ·rw [HZ.out]
   have hx:=HW.out.trans hx
   exact ⟨_,_,rfl,Is.none _ _ Qp.zero rfl rfl,Is.none _ _ Qp.zero rfl rfl,EX⟩
 have E1':=Lib.hid (f1 rfl)
 have E2':=Lib.hid (f2 rfl)
 clear f1 f2 HO2
 obtain ⟨hc0,hf0,hl0⟩:=hb0.all
 obtain ⟨hc1,hf1,hl1⟩:=hb1.all
 obtain ⟨hc2,hf2,hl2⟩:=hb2.all
 obtain ⟨hc3,hf3,hl3⟩:=hb3.all
 obtain ⟨hc7,hf7,hl7⟩:=hb7.all
 obtain ⟨hc8,hf8,hl8⟩:=hb8.all
 go_wp2_with fail
 clear hc0 hf0 hl0 hc1 hf1 hl1 hc2 hf2 hl2 hc3 hf3 hl3 hc7 hf7 hl7 hc8 hf8 hl8
 refine (E1'.out _ EX).mono ?_
 rintro e w4 ⟨rfl,hx0⟩
 replace hb0:=Blk.ext hx0 (Blk.alloc (Blk.alloc hb0 _) _)
 replace hb1:=Blk.ext hx0 (Blk.alloc (Blk.alloc hb1 _) _)
 replace hb2:=Blk.ext hx0 (Blk.alloc (Blk.alloc hb2 _) _)
 replace hb3:=Blk.ext hx0 (Blk.alloc (Blk.alloc hb3 _) _)
 replace hb7:=Blk.ext hx0 (Blk.alloc (Blk.alloc hb7 _) _)
 replace hb8:=Blk.ext hx0 (Blk.alloc (Blk.alloc hb8 _) _)
 have hb10:Blk w4 w3.heap.size 28 (parr (X1.pv S1 x1 S2 x2)):=Blk.ext hx0 (Blk.alloc (Blk.new' (by simp)) _)
 have hb11:Blk w4 (w3.heap.size+1) 28 (parr (X2.pv T1 y1 T2 y2)):=Blk.ext hx0 (Blk.new' (by simp))
 have hx1:=Ext.trans (a:=w3) EX hx0
 clear hx hx0
 have hx:=hx1
 clear hx1
 cases s1
 ·have HZ:Hid (R=(Qp.zero,Qp.zero,false)):=Lib.hid (by rw [HM.out];simp)
  clear HM
  obtain ⟨hc0,hf0,hl0⟩:=hb0.all
  obtain ⟨hc1,hf1,hl1⟩:=hb1.all
  obtain ⟨hc2,hf2,hl2⟩:=hb2.all
  obtain ⟨hc3,hf3,hl3⟩:=hb3.all
  obtain ⟨hc7,hf7,hl7⟩:=hb7.all
  obtain ⟨hc8,hf8,hl8⟩:=hb8.all
  obtain ⟨hc10,hf10,hl10⟩:=hb10.all
  obtain ⟨hc11,hf11,hl11⟩:=hb11.all
  go_wp2_with fail
  refine bodyPost_ret (v:=.tuple #[(Qp.zero.pv none 0 none 0).v,(Qp.zero.pv none 0 none 0).v,.bool false]) ?_ rfl ?_
  ·simp only [results,Tryz.results31]
   go_simp
   simp [Qp.zero]
  ·rw [HZ.out]
   have hx:=HW.out.trans hx
   exact ⟨_,_,rfl,Is.none _ _ Qp.zero rfl rfl,Is.none _ _ Qp.zero rfl rfl,EX⟩
 clear E1'
 obtain ⟨hc0,hf0,hl0⟩:=hb0.all
 obtain ⟨hc1,hf1,hl1⟩:=hb1.all
 obtain ⟨hc2,hf2,hl2⟩:=hb2.all
 obtain ⟨hc3,hf3,hl3⟩:=hb3.all
 obtain ⟨hc7,hf7,hl7⟩:=hb7.all
 obtain ⟨hc8,hf8,hl8⟩:=hb8.all
 obtain ⟨hc10,hf10,hl10⟩:=hb10.all
 obtain ⟨hc11,hf11,hl11⟩:=hb11.all
 go_wp2_with fail
 clear hc0 hf0 hl0 hc1 hf1 hl1 hc2 hf2 hl2 hc3 hf3 hl3 hc7 hf7 hl7 hc8 hf8 hl8 hc10 hf10 hl10 hc11 hf11 hl11
 refine (E2'.out _ hx).mono ?_
 rintro e w5 ⟨rfl,hx0⟩
 have hx1:=Ext.trans hx hx0
 replace hb0:=hb0.ext hx0
 replace hb1:=hb1.ext hx0
 replace hb2:=hb2.ext hx0
 replace hb3:=hb3.ext hx0
 replace hb7:=hb7.ext hx0
 replace hb8:=hb8.ext hx0
 replace hb10:=hb10.ext hx0
 replace hb11:=hb11.ext hx0
 clear hx hx0
 have hx:=hx1
 clear hx1
 cases s2
 ·have HZ:Hid (R=(Qp.zero,Qp.zero,false)):=Lib.hid (by rw [HM.out];simp)
  clear HM
  obtain ⟨hc0,hf0,hl0⟩:=hb0.all
  obtain ⟨hc1,hf1,hl1⟩:=hb1.all
  obtain ⟨hc2,hf2,hl2⟩:=hb2.all
  obtain ⟨hc3,hf3,hl3⟩:=hb3.all
  obtain ⟨hc7,hf7,hl7⟩:=hb7.all
  obtain ⟨hc8,hf8,hl8⟩:=hb8.all
  obtain ⟨hc10,hf10,hl10⟩:=hb10.all
  obtain ⟨hc11,hf11,hl11⟩:=hb11.all
  go_wp2_with fail
  refine bodyPost_ret (v:=.tuple #[(Qp.zero.pv none 0 none 0).v,(Qp.zero.pv none 0 none 0).v,.bool false]) ?_ rfl ?_
  ·simp only [results,Tryz.results31]
   go_simp
   simp [Qp.zero]
  ·rw [HZ.out]
   have hx:=HW.out.trans hx
   exact ⟨_,_,rfl,Is.none _ _ Qp.zero rfl rfl,Is.none _ _ Qp.zero rfl rfl,EX⟩
 have HZ:Hid (R=(E1,E2,true)):=Lib.hid (by rw [HM.out];simp)
 clear HM E2'
 obtain ⟨hc0,hf0,hl0⟩:=hb0.all
 obtain ⟨hc1,hf1,hl1⟩:=hb1.all
 obtain ⟨hc2,hf2,hl2⟩:=hb2.all
 obtain ⟨hc3,hf3,hl3⟩:=hb3.all
 obtain ⟨hc7,hf7,hl7⟩:=hb7.all
 obtain ⟨hc8,hf8,hl8⟩:=hb8.all
 go_wp2_with fail
 clear hc0 hf0 hl0 hc1 hf1 hl1 hc2 hf2 hl2 hc3 hf3 hl3 hc7 hf7 hl7 hc8 hf8 hl8
 have hq:=HL.out
 refine wp_region_noPanic (wp_region_held_drew (S:=fun w'=>w'.rangeAt w2.heap.size 0 (parr (E1.pv C1 e1 C2 e2)).toList∧w'.rangeAt (w2.heap.size+1) 0 (parr (E2.pv D1 f1 D2 f2)).toList) (by kernel_rfl) ⟨hb7.drew.range 0 _ (fun j _=>by rw [Nat.zero_add,Array.getElem?_toList]),hb8.drew.range 0 _ (fun j _=>by rw [Nat.zero_add,Array.getElem?_toList])⟩ (fun hH=>?_))
 refine tl (i:=0) (parr (E1.pv C1 e1 C2 e2)).toList rfl rfl rfl rfl rfl Tryz.underlying28 rfl (fun _ h=>h.1) hH ?_
 simp only [Act.put,sA,s0,sS]
 refine tl (i:=1) (parr (E2.pv D1 f1 D2 f2)).toList rfl rfl rfl rfl rfl Tryz.underlying28 rfl (fun _ h=>h.2) hH ?_
 simp only [Act.put,sA,s0,sS]
 refine two_stores (n:=2) (v1:=parr (E1.pv C1 e1 C2 e2)) (v2:=parr (E2.pv D1 f1 D2 f2)) (by kernel_rfl) (by kernel_rfl) (by kernel_rfl) (by kernel_rfl) rfl rfl rfl rfl rfl rfl rfl rfl rfl rfl rfl rfl rfl rfl rfl rfl rfl hb2.drew hb3.drew rfl rfl (by omega) (by kernel_rfl) (by kernel_rfl) (by first | rfl | simp [Value.oneCell']) (by first | rfl | simp [Value.oneCell']) ⟨World.rangeAt_setCells_apart hH.1 _ _ _ (.inl (by omega)),World.rangeAt_setCells_apart hH.2 _ _ _ (.inl (by omega))⟩
  ⟨World.rangeAt_setCells_apart (World.rangeAt_setCells_apart hH.1 _ _ _ (.inl (by omega))) _ _ _ (.inl (by omega)),World.rangeAt_setCells_apart (World.rangeAt_setCells_apart hH.2 _ _ _ (.inl (by omega))) _ _ _ (.inl (by omega))⟩ (fun W g2 g3 hst=>NoPanic.normal ?_) _
 have hy:=hst.ext w (HW.out.trans hx).drew1 (by omega) (by omega)
 have j1:=hst.keeps _ _ _ ((J1.out.ext hx).drew) (fun h=>by omega) (fun h=>by omega)
 have j2:=hst.keeps _ _ _ ((J2.out.ext hx).drew) (fun h=>by omega) (fun h=>by omega)
 clear hst hH hb0 hb1 hb2 hb3 hb7 hb8 hb10 hb11 hx HW J1 J2 L1 L2
 obtain ⟨hc2,hf2,hl2⟩:=g2.all
 obtain ⟨hc3,hf3,hl3⟩:=g3.all
 simp only [Act.put,sA,s0,sS]
 go_wp2_with fail
 refine bodyPost_ret (v:=.tuple #[(E1.pv C1 e1 C2 e2).v,(E2.pv D1 f1 D2 f2).v,.bool true]) ?_ rfl ?_
 ·simp only [results,Tryz.results31]
  go_simp
 ·rw [HZ.out]
  exact ⟨_,_,rfl,Is.mono j1 (fun b hb=>hb.1.imp (fun h=>h.1) (fun h=>by omega)),Is.mono j2 (fun b hb=>hb.1.imp (fun h=>h.1) (fun h=>by omega)),hy⟩
end Go.Proofs.YtfmgnaigcibcaaaGreatDoor
namespace Go.Proofs.YtfmgnaigcibcaaaGreatDoor
open Go.RowKit
attribute [local go_sem ↓] Go.wp_at_zero Go.wp_at_succ
def Tells (p:Prop) (w:World) (e:Ending) (w':World):Prop:=∃ v:Bool,e=.returned (.bool v)∧(v=false→p)∧Ext w w'
set_option maxHeartbeats 4000000 in
set_option maxRecDepth 100000 in
theorem sgreat_any (A:Option Addr) (n c:Nat) (l:List ByteArray) (w:World) (h:Lst w A n l) (hn:n≤1152921504606846976):
 Calls Tryz.prog 69 #[.slice A n c] w (Tells (n≤40) w):=by
 have H:=Lib.hid h
 clear h
 go_enter Tryz.func69,Tryz.ntmps69
 have hx:=Ext.refl w
 go_wp2_with fail
 go_loop [3,4] (fun m i=>∃ (z:Int) (k:Nat),k≤n∧m=.int .i64 z∧i=.int .i64 k) (fun m i=>n - (intOf i).toNat)
 case atStart=>exact ⟨0,0,Nat.zero_le _,rfl,rfl⟩
 case round=>
  obtain ⟨z,k,hk,rfl,rfl⟩:=hrel
  by_cases hlt:k < n
  ·obtain ⟨bb,oo,rfl,_,hcl⟩:=H.out.2 (by omega)
   have hck:=hcl k hlt
   generalize l.getD k ByteArray.empty=x at hck
   clear hcl
   go_wp2_with fail
   refine ⟨⟨_,k+1,hlt,rfl,rfl⟩,?_⟩
   simp [intOf]
   omega
  ·obtain rfl:k=n:=by omega
   go_wp2_with fail
   all_goals
    refine bodyPost_ret (v:=.bool _) (by simp [results,Tryz.results69,go_sem];rfl) rfl ?_
    refine ⟨_,rfl,fun h=>?_,EX⟩
    first
     | omega
     | (exfalso;simp at h;done)
     | (simp at h;omega)
abbrev harr (p:Pv):Array Value:=#[.int .i64 p.at_,.slice p.A1 p.n1 p.c1,.slice p.A2 p.n2 p.c2]
set_option maxHeartbeats 4000000 in
set_option maxRecDepth 100000 in
theorem hgreat_any (g:Nat) (t:TypeId) (p:Pv) (o n:List ByteArray) (w:World) (hb:Blk w g t (harr p)) (h1:Lst w p.A1 p.n1 o) (h2:Lst w p.A2 p.n2 n) (b1:p.n1≤1152921504606846976) (b2:p.n2≤1152921504606846976):
 Calls Tryz.prog 37 #[.slice (some ⟨g,0,none⟩) 1 1] w (Tells (p.n1≤40∧p.n2≤40) w):=by
 have H1:=Lib.hid h1
 have H2:=Lib.hid h2
 clear h1 h2
 have hcb:=hb.cell
 have hlb:=hb.lt
 go_enter Tryz.func37,Tryz.ntmps37
 have hx:=Ext.refl w
 go_wp2_with fail
 refine wp_loop_rounds 2 ?_
 rw [rounds_succ]
 go_wp2_with fail
 refine (sgreat_any p.A1 p.n1 p.c1 o _ (by exact H1.out) b1).mono ?_
 rintro e w1 ⟨v1,rfl,k1,hx0⟩
 have hb':=hb.ext hx0
 have hcb':=hb'.cell
 have hlb':=hb'.lt
 cases v1
 ·go_wp2_with fail
  refine (sgreat_any p.A2 p.n2 p.c2 n _ (H2.out.ext hx0) b2).mono ?_
  rintro e w2 ⟨v2,rfl,k2,hx1⟩
  have hb'':=hb'.ext hx1
  have hcb'':=hb''.cell
  have hlb'':=hb''.lt
  have hx:=hx0.trans hx1
  cases v2
  ·go_wp2_with fail
   go_quiet (fail)
   go_wp2_with fail
   rw [rounds_succ]
   go_wp2_with fail
   all_goals
    refine bodyPost_ret (v:=.bool _) (by simp [results,Tryz.results37,go_sem];rfl) rfl ?_
    exact ⟨_,rfl,(fun _=>⟨k1 trivial,k2 trivial⟩),EX⟩
  ·go_wp2_with fail
   refine bodyPost_ret (v:=.bool true) (by simp [results,Tryz.results37,go_sem]) rfl ?_
   exact ⟨_,rfl,(fun h=>nomatch h),hx⟩
 ·go_wp2_with fail
  refine bodyPost_ret (v:=.bool true) (by simp [results,Tryz.results37,go_sem]) rfl ?_
  exact ⟨_,rfl,(fun h=>nomatch h),hx0⟩
structure Qp.Mild (q:Qp):Prop where
 path:q.path.size≤300
 to_:q.to_.size≤300
 old:q.old.length≤40
 new:q.new.length≤40
theorem Qp.Mild.fits {q:Qp} (h:q.Mild):q.Fits:=by
 have h1:=h.path
 have h2:=h.to_
 have h3:=h.old
 have h4:=h.new
 exact ⟨by omega,by omega,by omega,by omega⟩
set_option maxHeartbeats 8000000 in
set_option maxRecDepth 100000 in
theorem pgreat_any (p:Pv) (q:Qp) (w:World) {F:Nat→Prop} (h:Is w F p q) (b1:q.old.length≤1152921504606846976) (b2:q.new.length≤1152921504606846976):
 Calls Tryz.prog 12 #[p.v] w (Tells q.Mild w):=by
 have H:=Lib.hid h
 obtain ⟨A1,c1,A2,c2,rfl,⟨h1,h2⟩,_⟩:=h
 have H1:=Lib.hid h1
 have H2:=Lib.hid h2
 clear h1 h2
 go_enter Tryz.func12,Tryz.ntmps12
 have hx:=Ext.refl w
 go_wp2_with (go_at_call 37;refine (hgreat_any _ _ (q.pv A1 c1 A2 c2) q.old q.new _ (Blk.new' (by simp)) (H1.out.ext EX).1 (H2.out.ext EX).1 b1 b2).mono ?_;rintro e w1 ⟨v1,rfl,k1,hx0⟩;have hx1:=Ext.trans (a:=w) EX hx0)
 ·refine bodyPost_ret (v:=.bool _) (by simp only [results,Tryz.results12];go_simp;rfl) rfl ?_
  refine ⟨_,rfl,(fun h=>?_),hx1⟩
  simp only [Bool.or_eq_false_iff] at h
  have hk:=k1 h.2
  exact ⟨by omega,by omega,hk.1,hk.2⟩
 all_goals
  refine bodyPost_ret (v:=.bool true) (by simp only [results,Tryz.results12];go_simp) rfl ?_
  exact ⟨_,rfl,(fun h=>nomatch h),EX⟩
end Go.Proofs.YtfmgnaigcibcaaaGreatDoor
namespace Go.Proofs.YtfmgnaigcibcaaaGreatDoor
open Go.RowKit
attribute [local go_sem ↓] Go.wp_at_zero Go.wp_at_succ
set_option maxHeartbeats 4000000 in
set_option maxRecDepth 100000 in
theorem ssame_true (A B:Option Addr) (n c d:Nat) (l:List ByteArray) (w:World) (h1:Lst w A n l) (h2:Lst w B n l) (hn:n≤1152921504606846976):
 Calls Tryz.prog 91 #[.slice A n c,.slice B n d] w (Ret (.bool true) w):=by
 have H1:=Lib.hid h1
 have H2:=Lib.hid h2
 clear h1 h2
 go_enter Tryz.func91,Tryz.ntmps91
 have hx:=Ext.refl w
 go_wp2_with fail
 go_loopw [5] (fun i W=>(∃ (k:Nat),k≤n∧i=.int .i64 k)∧Ext w W) (fun i _=>n - (intOf i).toNat)
 case atStart=>exact ⟨⟨0,Nat.zero_le _,rfl⟩,hx⟩
 case round=>
  clear hx
  obtain ⟨⟨k,hk,rfl⟩,hx⟩:=hrel
  by_cases hlt:k < n
  ·obtain ⟨b1,o1,rfl,l1,hcl1⟩:=H1.out.2 (by omega)
   obtain ⟨b2,o2,rfl,l2,hcl2⟩:=H2.out.2 (by omega)
   have hck1:=hcl1 k hlt
   have hck2:=hcl2 k hlt
   generalize l.getD k ByteArray.empty=x at hck1 hck2
   rw [← hx.cell (p:=⟨b1,o1+k,none⟩) l1] at hck1
   rw [← hx.cell (p:=⟨b2,o2+k,none⟩) l2] at hck2
   clear hcl1 hcl2
   go_wp2_with fail
   go_quiet (fail)
   go_wp2_with fail
   refine ⟨⟨⟨k+1,hlt,rfl⟩,EX⟩,?_⟩
   simp [intOf]
   omega
  ·obtain rfl:k=n:=by omega
   go_wp2_with fail
   (go_ret;refine Ret.mk ?_ ?_;(focus (rfl;done));(focus (exact EX;done)))
set_option maxHeartbeats 4000000 in
set_option maxRecDepth 100000 in
theorem hsame_true (g g':Nat) (t t':TypeId) (p p':Pv) (o n:List ByteArray) (w:World) (hb:Blk w g t (harr p)) (hb2:Blk w g' t' (harr p')) (ha:p.at_=p'.at_) (hn1:p.n1=p'.n1) (hn2:p.n2=p'.n2)
 (h1:Lst w p.A1 p.n1 o) (h2:Lst w p.A2 p.n2 n) (h3:Lst w p'.A1 p.n1 o) (h4:Lst w p'.A2 p.n2 n) (b1:p.n1≤1152921504606846976) (b2:p.n2≤1152921504606846976):
 Calls Tryz.prog 57 #[.slice (some ⟨g,0,none⟩) 1 1,.slice (some ⟨g',0,none⟩) 1 1] w (Ret (.bool true) w):=by
 have q1:∀ W,Ext w W→Calls Tryz.prog 91 #[.slice p.A1 p.n1 p.c1,.slice p'.A1 p.n1 p'.c1] W (Ret (.bool true) W):=fun W hW=>ssame_true p.A1 p'.A1 p.n1 p.c1 p'.c1 o W (h1.ext hW) (h3.ext hW) b1
 have q2:∀ W,Ext w W→Calls Tryz.prog 91 #[.slice p.A2 p.n2 p.c2,.slice p'.A2 p.n2 p'.c2] W (Ret (.bool true) W):=fun W hW=>ssame_true p.A2 p'.A2 p.n2 p.c2 p'.c2 n W (h2.ext hW) (h4.ext hW) b2
 have Q1:=Lib.hid q1
 have Q2:=Lib.hid q2
 have hcb0:∀ W,Ext w W→∀ i,W.cell? ⟨g,i,none⟩=(harr p)[i]?:=fun W hW=>(hb.ext hW).cell
 have hcb1:∀ W,Ext w W→∀ i,W.cell? ⟨g',i,none⟩=(#[.int .i64 p.at_,.slice p'.A1 p.n1 p'.c1,.slice p'.A2 p.n2 p'.c2]:Array Value)[i]?:=fun W hW i=>by rw [ha,hn1,hn2];exact (hb2.ext hW).cell i
 have HC0:=Lib.hid hcb0
 have HC1:=Lib.hid hcb1
 clear q1 q2 h1 h2 h3 h4 hcb0 hcb1 ha hn1 hn2
 go_enter Tryz.func57,Tryz.ntmps57
 have hx:=Ext.refl w
 have hc0:=HC0.out w hx
 have hc1:=HC1.out w hx
 go_wp2_with fail
 refine wp_loop_rounds 2 ?_
 rw [rounds_succ]
 go_wp2_with fail
 refine wp_region_ext (by kernel_rfl) (by kernel_rfl) ?_
 clear hc0 hc1
 repeat (first | go_big_quiet_skip | (go_big_quiet_want;first | (go_big_quiet_op;go_big_quiet_on) | (apply quiet_at;intro W hW;have hc0:=HC0.out W hW;have hc1:=HC1.out W hW;go_simp;(first | exact rfl | (simp only [Oper.quietUpon,true_and];first | exact rfl | ((first | (go_at_call 91;first | with_reducible exact quiet_call hW (Q1.out _ hW) (fun _ _ h=>Ret.bcell h) | with_reducible exact quiet_call hW (Q2.out _ hW) (fun _ _ h=>Ret.bcell h))))) | ((first | (go_at_call 91;first | with_reducible exact quiet_call hW (Q1.out _ hW) (fun _ _ h=>Ret.bcell h) | with_reducible exact quiet_call hW (Q2.out _ hW) (fun _ _ h=>Ret.bcell h)))));go_big_quiet_on;simp only [Act.put,sA,s0,sS])))
 refine wpQuiet_nil ?_
 intro w1 hx0
 clear hx
 have hx:=hx0
 clear hx0
 have hc0:=HC0.out w1 hx
 have hc1:=HC1.out w1 hx
 go_wp2_with fail
 rw [rounds_succ]
 go_wp2_with fail
 (go_ret;refine Ret.mk ?_ ?_;(focus (rfl;done));(focus (exact EX;done)))
set_option maxHeartbeats 16000000 in
set_option maxRecDepth 100000 in
theorem psame_true (p p':Pv) (q:Qp) (w:World) {F G:Nat→Prop} (h1:Is w F p q) (h2:Is w G p' q) (b1:q.old.length≤1152921504606846976) (b2:q.new.length≤1152921504606846976):
 Calls Tryz.prog 28 #[p.v,p'.v] w (Ret (.bool true) w):=by
 obtain ⟨A1,c1,A2,c2,rfl,⟨s1,s2⟩,_⟩:=h1
 obtain ⟨B1,d1,B2,d2,rfl,⟨t1,t2⟩,_⟩:=h2
 have S1:=Lib.hid s1
 have S2:=Lib.hid s2
 have T1:=Lib.hid t1
 have T2:=Lib.hid t2
 clear s1 s2 t1 t2
 go_enter Tryz.func28,Tryz.ntmps28
 have hx:=Ext.refl w
 go_wp2_with fail
 refine (hsame_true _ _ _ _ (q.pv A1 c1 A2 c2) (q.pv B1 d1 B2 d2) q.old q.new _ (Blk.alloc (Blk.new' (by simp)) _) (Blk.new' (by simp)) rfl rfl rfl (S1.out.ext EX).1 (S2.out.ext EX).1 (T1.out.ext EX).1 (T2.out.ext EX).1 b1 b2).mono ?_
 rintro e w1 ⟨rfl,hx0⟩
 have hb0:Blk w1 w.heap.size 28 (parr (q.pv A1 c1 A2 c2)):=Blk.ext hx0 (Blk.alloc (Blk.alloc (Blk.alloc (Blk.new' (by simp)) _) _) _)
 have hb1:Blk w1 (w.heap.size+1) 28 (parr (q.pv B1 d1 B2 d2)):=Blk.ext hx0 (Blk.alloc (Blk.alloc (Blk.new' (by simp)) _) _)
 have hx1:=Ext.trans (a:=w) EX hx0
 clear hx hx0
 have hx:=hx1
 clear hx1
 have hc0:=hb0.cell
 have hc1:=hb1.cell
 go_wp2_with fail
 (go_ret;refine Ret.mk ?_ ?_;(focus (rfl;done));(focus (exact EX;done)))
end Go.Proofs.YtfmgnaigcibcaaaGreatDoor
