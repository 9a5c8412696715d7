import Derived.Test.YtlbhaimfjfdppaaGreatDoorZu
import Derived.Test.YtlbhaimfjfdppaaGreatDoorZv
import Derived.Test.YtlbhaimfjfdppaaGreatDoorZr
import Derived.Test.YtlbhaimfjfdppaaGreatDoorZs
import Derived.Test.YtlbhaimfjfdppaaGreatDoorX
import Derived.Test.YtlbhaimfjfdppaaGreatDoorYq
import Derived.Test.YtlbhaimfjfdppaaGreatDoorMe
import Derived.Test.YtlbhaimfjfdppaaGreatDoorYi
import Derived.Test.YtlbhaimfjfdppaaGreatDoorAp
import Derived.Test.YtlbhaimfjfdppaaGreatDoorYj
import Derived.Test.YtlbhaimfjfdppaaGreatDoorO
import Derived.Test.YtlbhaimfjfdppaaGreatDoorJA
set_option linter.unusedSimpArgs false
set_option linter.unusedVariables false
namespace Go.Proofs.YtlbhaimfjfdppaaGreatDoor
open Go.RowKit Pa
theorem rexchange_any (p p':Pv) (a b:Qp) (w:World) {F:Nat→Prop} (ha:Is w F p a) (hb:Is w F p' b) (hca:a.check=0) (hcb:b.check=0):
 Calls Tryz.prog 70 #[p.v,p'.v] w (GivesIf F (a.run b) w):=by
 cases h4:Rq.ok4 a b
 ·exact rex0 p p' a b w ha hb hca hcb h4
 ·cases h5:Rq.ok5 a b
  ·exact rex1 p p' a b w ha hb hca hcb h4 h5
  ·cases hk:(b.kind == 4)
   ·cases h6:Rq.ok6 a b
    ·exact rex2n p p' a b w ha hb hca hcb h4 h5 h6 hk
    ·cases h7:Rq.ok7 a b
     ·exact rex3n p p' a b w ha hb hca hcb h4 h5 h6 h7 hk
     ·cases h8:Rq.ok8 a b
      ·exact rex4n p p' a b w ha hb hca hcb h4 h5 h6 h7 h8 hk
      ·exact rex5n p p' a b w ha hb hca hcb h4 h5 h6 h7 h8 hk
   ·cases h6:Rq.ok6 a b
    ·exact rex2k p p' a b w ha hb hca hcb h4 h5 h6 hk
    ·cases h7:Rq.ok7 a b
     ·exact rex3k p p' a b w ha hb hca hcb h4 h5 h6 h7 hk
     ·cases h8:Rq.ok8 a b
      ·exact rex4k p p' a b w ha hb hca hcb h4 h5 h6 h7 h8 hk
      ·exact rex5k p p' a b w ha hb hca hcb h4 h5 h6 h7 h8 hk
end Go.Proofs.YtlbhaimfjfdppaaGreatDoor
namespace Go.Proofs.YtlbhaimfjfdppaaGreatDoor
open Go.RowKit
attribute [local go_sem ↓] Go.wp_at_zero Go.wp_at_succ
def Qp.Tame (q:Qp):Prop:=q.Fits∧(∀ x∈q.old,x.size≤4611686018427387904)∧(∀ x∈q.new,x.size≤4611686018427387904)
set_option maxHeartbeats 16000000 in
set_option maxRecDepth 100000 in
theorem rcommute_any (p p':Pv) (a b:Qp) (w:World) {F:Nat→Prop} (ha:Is w F p a) (hb:Is w F p' b) (fa:a.Tame) (fb:b.Tame):
 Calls Tryz.prog 60 #[p.v,p'.v] w (GivesTwo F (a.commute b) w):=by
 have HA:=Lib.hid ha.in
 have HB:=Lib.hid hb.in
 obtain ⟨A1,c1,A2,c2,rfl,_⟩:=ha
 obtain ⟨B1,d1,B2,d2,rfl,_⟩:=hb
 have q1:∀ W,Ext w W→Calls Tryz.prog 69 #[(a.pv A1 c1 A2 c2).v] W (Ret (.int .i64 a.check) W):=fun W hW=>rcheck_q _ a W (HA.out.ext hW) fa.1.1 fa.1.2.1 fa.1.2.2.1 fa.1.2.2.2 fa.2.1 fa.2.2
 have q2:∀ W,Ext w W→Calls Tryz.prog 69 #[(b.pv B1 d1 B2 d2).v] W (Ret (.int .i64 b.check) W):=fun W hW=>rcheck_q _ b W (HB.out.ext hW) fb.1.1 fb.1.2.1 fb.1.2.2.1 fb.1.2.2.2 fb.2.1 fb.2.2
 have Q1:=Lib.hid q1
 have Q2:=Lib.hid q2
 have r1:a.check=0→b.check=0→∀ W,Ext w W→Calls Tryz.prog 70 #[(a.pv A1 c1 A2 c2).v,(b.pv B1 d1 B2 d2).v] W (GivesIf (fun b=>F b∧b < w.heap.size) (a.run b) W):=fun h1 h2 W hW=>rexchange_any _ _ a b W (HA.out.ext hW) (HB.out.ext hW) h1 h2
 have HM:Hid (a.commute b=if a.check≠0∨b.check≠0 then (Qp.zero,Qp.zero,false)
  else if (a.run b).2.2=false then (Qp.zero,Qp.zero,false)
  else if ((a.run b).1.run (a.run b).2.1).2.2 && (((a.run b).1.run (a.run b).2.1).1.same a && ((a.run b).1.run (a.run b).2.1).2.1.same b) then ((a.run b).1,(a.run b).2.1,true)
  else (Qp.zero,Qp.zero,false)):=Lib.hid rfl
 generalize a.commute b=R at HM ⊢
 have HO:∀ x y k,a.run b=(x,y,k)→k=true→x.check=0∧y.check=0:=fun x y k h hk=>run_ok h hk
 generalize a.run b=R1 at r1 HM HO
 obtain ⟨E1,E2,k1⟩:=R1
 have HO1:=Lib.hid (HO E1 E2 k1 rfl)
 clear HO
 have HO2:∀ x y k,E1.run E2=(x,y,k)→k=true→x.check=0∧y.check=0:=fun x y k h hk=>run_ok h hk
 have r2:∀ F' W P P',Is W F' P E1→Is W F' P' E2→E1.check=0→E2.check=0→Calls Tryz.prog 70 #[P.v,P'.v] W (GivesIf F' (E1.run E2) W):=fun F' W P P' h1 h2=>rexchange_any P P' E1 E2 W h1 h2
 dsimp only at HM
 generalize E1.run E2=R2 at r2 HM HO2
 obtain ⟨X1,X2,k2⟩:=R2
 have HO2:=Lib.hid (HO2 X1 X2 k2 rfl)
 have HM:Hid (R=if a.check≠0∨b.check≠0 then (Qp.zero,Qp.zero,false) else if k1=false then (Qp.zero,Qp.zero,false) else if k2 && (X1.same a && X2.same b) then (E1,E2,true) else (Qp.zero,Qp.zero,false)):=HM
 have R1:=Lib.hid r1
 have R2:=Lib.hid r2
 clear r1 r2 q1 q2 fa fb
 go_enter Tryz.func60,Tryz.ntmps60
 have hx:=Ext.refl w
 go_wp2_with fail
 refine (Q1.out _ EX).mono ?_
 rintro e w1 ⟨rfl,hx0⟩
 have hb0:Blk w1 (w.heap.size) 42 (parr (a.pv A1 c1 A2 c2)):=Blk.ext hx0 (Blk.alloc (Blk.alloc (Blk.alloc (Blk.new' (by simp)) _) _) _)
 have hb1:Blk w1 (w.heap.size+1) 42 (parr (b.pv B1 d1 B2 d2)):=Blk.ext hx0 (Blk.alloc (Blk.alloc (Blk.new' (by simp)) _) _)
 have hb2:Blk w1 (w.heap.size+1+1) 42 zcells:=Blk.ext hx0 (Blk.alloc (Blk.new' (by simp)) _)
 have hb3:Blk w1 (w.heap.size+1+1+1) 42 zcells:=Blk.ext hx0 (Blk.new' (by simp))
 have hx1:=Ext.trans (a:=w) EX hx0
 clear hx hx0
 have hx:=hx1
 clear hx1
 by_cases z1:a.check=0
 rotate_left
 ·have HZ:Hid (R=(Qp.zero,Qp.zero,false)):=Lib.hid (by rw [HM.out];simp [z1])
  have z1':(a.check != 0)=true:=by simpa using z1
  clear z1 HM
  obtain ⟨hc0,hf0,hl0⟩:=hb0.all
  obtain ⟨hc1,hf1,hl1⟩:=hb1.all
  obtain ⟨hc2,hf2,hl2⟩:=hb2.all
  obtain ⟨hc3,hf3,hl3⟩:=hb3.all
  go_wp2_with fail
  refine bodyPost_ret (v:=.tuple #[(Qp.zero.pv none 0 none 0).v,(Qp.zero.pv none 0 none 0).v,.bool false]) ?_ rfl ?_
  ·simp only [results,Tryz.results60]
   go_simp
   simp [Qp.zero]
  ·rw [HZ.out]
   exact ⟨_,_,rfl,Is.none _ _ Qp.zero rfl rfl,Is.none _ _ Qp.zero rfl rfl,EX⟩
 have Z1:=Lib.hid z1
 rw [Z1.out]
 clear z1
 obtain ⟨hc0,hf0,hl0⟩:=hb0.all
 obtain ⟨hc1,hf1,hl1⟩:=hb1.all
 obtain ⟨hc2,hf2,hl2⟩:=hb2.all
 obtain ⟨hc3,hf3,hl3⟩:=hb3.all
 go_wp2_with fail
 clear hc0 hf0 hl0 hc1 hf1 hl1 hc2 hf2 hl2 hc3 hf3 hl3
 refine (Q2.out _ hx).mono ?_
 rintro e w1 ⟨rfl,hx0⟩
 have hx1:=Ext.trans hx hx0
 replace hb0:=hb0.ext hx0
 replace hb1:=hb1.ext hx0
 replace hb2:=hb2.ext hx0
 replace hb3:=hb3.ext hx0
 clear hx hx0
 have hx:=hx1
 clear hx1
 by_cases z2:b.check=0
 rotate_left
 ·have HZ:Hid (R=(Qp.zero,Qp.zero,false)):=Lib.hid (by rw [HM.out];simp [z2])
  have z2':(b.check != 0)=true:=by simpa using z2
  clear z2 HM
  obtain ⟨hc0,hf0,hl0⟩:=hb0.all
  obtain ⟨hc1,hf1,hl1⟩:=hb1.all
  obtain ⟨hc2,hf2,hl2⟩:=hb2.all
  obtain ⟨hc3,hf3,hl3⟩:=hb3.all
  go_wp2_with fail
  refine bodyPost_ret (v:=.tuple #[(Qp.zero.pv none 0 none 0).v,(Qp.zero.pv none 0 none 0).v,.bool false]) ?_ rfl ?_
  ·simp only [results,Tryz.results60]
   go_simp
   simp [Qp.zero]
  ·rw [HZ.out]
   exact ⟨_,_,rfl,Is.none _ _ Qp.zero rfl rfl,Is.none _ _ Qp.zero rfl rfl,EX⟩
 have Z2:=Lib.hid z2
 rw [Z2.out]
 clear z2
 obtain ⟨hc0,hf0,hl0⟩:=hb0.all
 obtain ⟨hc1,hf1,hl1⟩:=hb1.all
 obtain ⟨hc2,hf2,hl2⟩:=hb2.all
 obtain ⟨hc3,hf3,hl3⟩:=hb3.all
 go_wp2_with fail
 clear hc0 hf0 hl0 hc1 hf1 hl1 hc2 hf2 hl2 hc3 hf3 hl3
 have hn:=hb3.lt
 refine (R1.out Z1.out Z2.out _ hx).mono ?_
 rintro e w2 ⟨P1,P2,rfl,hx0,hi⟩
 have hx1:=Ext.trans hx hx0
 replace hb0:=hb0.ext hx0
 replace hb1:=hb1.ext hx0
 replace hb2:=hb2.ext hx0
 replace hb3:=hb3.ext hx0
 clear hx hx0
 have hx:=hx1
 clear hx1
 have HI:=Lib.hid hi
 clear hi
 dsimp only
 have hl3:=hb3.lt
 have HL:=Lib.hid hl3
 cases k1
 ·have HZ:Hid (R=(Qp.zero,Qp.zero,false)):=Lib.hid (by rw [HM.out];simp)
  clear HM hl3 HI
  obtain ⟨hc0,hf0,hl0⟩:=hb0.all
  obtain ⟨hc1,hf1,hl1⟩:=hb1.all
  obtain ⟨hc2,hf2,hl2⟩:=hb2.all
  obtain ⟨hc3,hf3,hl3⟩:=hb3.all
  go_wp2_with fail
  refine bodyPost_ret (v:=.tuple #[(Qp.zero.pv none 0 none 0).v,(Qp.zero.pv none 0 none 0).v,.bool false]) ?_ rfl ?_
  ·simp only [results,Tryz.results60]
   go_simp
   simp [Qp.zero]
  ·rw [HZ.out]
   exact ⟨_,_,rfl,Is.none _ _ Qp.zero rfl rfl,Is.none _ _ Qp.zero rfl rfl,EX⟩
 have OK1:=HO1.out rfl
 obtain ⟨i1,i2⟩:=HI.out rfl
 clear HO1 HI
 have I1:=Lib.hid (Is.mono i1.in (G:=fun b=>((F b∧b < w.heap.size)∨w.heap.size+4≤b)∧b < w2.heap.size) (fun b hb=>⟨.inl hb.1,hb.2⟩))
 have I2:=Lib.hid (Is.mono i2.in (G:=fun b=>((F b∧b < w.heap.size)∨w.heap.size+4≤b)∧b < w2.heap.size) (fun b hb=>⟨.inl hb.1,hb.2⟩))
 clear hn
 obtain ⟨C1,e1,C2,e2,rfl,_⟩:=i1
 obtain ⟨D1,f1,D2,f2,rfl,_⟩:=i2
 have H2:Hid (∀ W,Ext w2 W→Is W (fun b=>((F b∧b < w.heap.size)∨w.heap.size+4≤b)∧b < w2.heap.size) (E1.pv C1 e1 C2 e2) E1→Is W (fun b=>((F b∧b < w.heap.size)∨w.heap.size+4≤b)∧b < w2.heap.size) (E2.pv D1 f1 D2 f2) E2→Blk W w2.heap.size 42 (parr (E1.pv C1 e1 C2 e2))→Blk W (w2.heap.size+1) 42 (parr (E2.pv D1 f1 D2 f2)) →
  Calls Tryz.prog 70 #[(E1.pv C1 e1 C2 e2).v,(E2.pv D1 f1 D2 f2).v] W (fun e w'=>∃ P3 P4:Pv,e=.returned (.tuple #[P3.v,P4.v,.bool k2])∧Hid (k2=true→Is w' (fun b=>((F b∧b < w.heap.size)∨w.heap.size+4≤b)∧b < w2.heap.size) P3 X1∧Is w' (fun b=>((F b∧b < w.heap.size)∨w.heap.size+4≤b)∧b < w2.heap.size) P4 X2) ∧
   Hid (Is w' (fun b=>((F b∧b < w.heap.size)∨w.heap.size+4≤b)∧b < w2.heap.size) (E1.pv C1 e1 C2 e2) E1)∧Hid (Is w' (fun b=>((F b∧b < w.heap.size)∨w.heap.size+4≤b)∧b < w2.heap.size) (E2.pv D1 f1 D2 f2) E2)∧Ext w2 w'∧Blk w' w2.heap.size 42 (parr (E1.pv C1 e1 C2 e2))∧Blk w' (w2.heap.size+1) 42 (parr (E2.pv D1 f1 D2 f2)))):=
  Lib.hid (fun W hW j1 j2 g1 g2=>(R2.out _ W _ _ j1 j2 OK1.1 OK1.2).mono (fun e w' h=>by
   obtain ⟨Q,Q',he,hy,hl⟩:=h
   exact ⟨Q,Q',he,Lib.hid hl,Lib.hid (j1.ext hy),Lib.hid (j2.ext hy),hW.trans hy,g1.ext hy,g2.ext hy⟩))
 have Hx:=Lib.hid hx
 have hx:=Ext.refl w2
 clear OK1 R1 R2 hl3
 obtain ⟨hc0,hf0,hl0⟩:=hb0.all
 obtain ⟨hc1,hf1,hl1⟩:=hb1.all
 obtain ⟨hc2,hf2,hl2⟩:=hb2.all
 obtain ⟨hc3,hf3,hl3⟩:=hb3.all
 go_wp2_with fail
 clear hc0 hf0 hl0 hc1 hf1 hl1 hc2 hf2 hl2 hc3 hf3 hl3
 refine (H2.out _ EX (I1.out.ext EX) (I2.out.ext EX) (Blk.alloc (Blk.new' (by simp)) _) (Blk.new' (by simp))).mono ?_
 rintro e w3 ⟨P3,P4,rfl,LI,J1,J2,hx0,hb7,hb8⟩
 clear I1 I2 H2
 replace hb0:=hb0.ext hx0
 replace hb1:=hb1.ext hx0
 replace hb2:=hb2.ext hx0
 replace hb3:=hb3.ext hx0
 have HW:=Lib.hid (Hx.out.trans hx0)
 clear hx hx0 Hx
 have hx:=Ext.refl w3
 have HM:Hid (R=if k2 && (X1.same a && X2.same b) then (E1,E2,true) else (Qp.zero,Qp.zero,false)):=Lib.hid (by rw [HM.out,if_neg (by rw [Z1.out,Z2.out];simp),if_neg (by simp)])
 have hl7:=hb7.lt
 have hl8:=hb8.lt
 clear hl7 hl8
 cases k2
 ·have HZ:Hid (R=(Qp.zero,Qp.zero,false)):=Lib.hid (by rw [HM.out];simp)
  clear HM LI
  obtain ⟨hc0,hf0,hl0⟩:=hb0.all
  obtain ⟨hc1,hf1,hl1⟩:=hb1.all
  obtain ⟨hc2,hf2,hl2⟩:=hb2.all
  obtain ⟨hc3,hf3,hl3⟩:=hb3.all
  obtain ⟨hc7,hf7,hl7⟩:=hb7.all
  obtain ⟨hc8,hf8,hl8⟩:=hb8.all
  go_wp2_with fail
  refine bodyPost_ret (v:=.tuple #[(Qp.zero.pv none 0 none 0).v,(Qp.zero.pv none 0 none 0).v,.bool false]) ?_ rfl ?_
  ·simp only [results,Tryz.results60]
   go_simp
   simp [Qp.zero]
  ·rw [HZ.out]
   have hx:=HW.out.trans hx
   exact ⟨_,_,rfl,Is.none _ _ Qp.zero rfl rfl,Is.none _ _ Qp.zero rfl rfl,EX⟩
 obtain ⟨l1,l2⟩:=LI.out rfl
 have L1:=Lib.hid l1
 have L2:=Lib.hid l2
 obtain ⟨S1,x1,S2,x2,rfl,_⟩:=l1
 obtain ⟨T1,y1,T2,y2,rfl,_⟩:=l2
 have OK2:=HO2.out rfl
 have f1:∀ W,Ext w3 W→Calls Tryz.prog 23 #[(X1.pv S1 x1 S2 x2).v,(a.pv A1 c1 A2 c2).v] W (Ret (.bool (X1.same a)) W):=fun W hW=>psame_any _ _ X1 a W (L1.out.ext hW) (HA.out.ext (HW.out.trans hW)) (by have :=Qp.small OK2.1;omega) (by have :=Qp.small OK2.1;omega) (by have :=Qp.small Z1.out;omega) (by have :=Qp.small Z1.out;omega)
 have f2:∀ W,Ext w3 W→Calls Tryz.prog 23 #[(X2.pv T1 y1 T2 y2).v,(b.pv B1 d1 B2 d2).v] W (Ret (.bool (X2.same b)) W):=fun W hW=>psame_any _ _ X2 b W (L2.out.ext hW) (HB.out.ext (HW.out.trans hW)) (by have :=Qp.small OK2.2;omega) (by have :=Qp.small OK2.2;omega) (by have :=Qp.small Z2.out;omega) (by have :=Qp.small Z2.out;omega)
 rw [Bool.true_and] at HM
 generalize X1.same a=s1 at f1 HM
 generalize X2.same b=s2 at f2 HM
 have E1':=Lib.hid f1
 have E2':=Lib.hid f2
 clear f1 f2 HO2 OK2 LI
 obtain ⟨hc0,hf0,hl0⟩:=hb0.all
 obtain ⟨hc1,hf1,hl1⟩:=hb1.all
 obtain ⟨hc2,hf2,hl2⟩:=hb2.all
 obtain ⟨hc3,hf3,hl3⟩:=hb3.all
 obtain ⟨hc7,hf7,hl7⟩:=hb7.all
 obtain ⟨hc8,hf8,hl8⟩:=hb8.all
 go_wp2_with fail
 clear hc0 hf0 hl0 hc1 hf1 hl1 hc2 hf2 hl2 hc3 hf3 hl3 hc7 hf7 hl7 hc8 hf8 hl8
 refine (E1'.out _ EX).mono ?_
 rintro e w4 ⟨rfl,hx0⟩
 replace hb0:=Blk.ext hx0 (Blk.alloc (Blk.alloc hb0 _) _)
 replace hb1:=Blk.ext hx0 (Blk.alloc (Blk.alloc hb1 _) _)
 replace hb2:=Blk.ext hx0 (Blk.alloc (Blk.alloc hb2 _) _)
 replace hb3:=Blk.ext hx0 (Blk.alloc (Blk.alloc hb3 _) _)
 replace hb7:=Blk.ext hx0 (Blk.alloc (Blk.alloc hb7 _) _)
 replace hb8:=Blk.ext hx0 (Blk.alloc (Blk.alloc hb8 _) _)
 have hb10:Blk w4 w3.heap.size 42 (parr (X1.pv S1 x1 S2 x2)):=Blk.ext hx0 (Blk.alloc (Blk.new' (by simp)) _)
 have hb11:Blk w4 (w3.heap.size+1) 42 (parr (X2.pv T1 y1 T2 y2)):=Blk.ext hx0 (Blk.new' (by simp))
 have hx1:=Ext.trans (a:=w3) EX hx0
 clear hx hx0
 have hx:=hx1
 clear hx1
 cases s1
 ·have HZ:Hid (R=(Qp.zero,Qp.zero,false)):=Lib.hid (by rw [HM.out];simp)
  clear HM
  obtain ⟨hc0,hf0,hl0⟩:=hb0.all
  obtain ⟨hc1,hf1,hl1⟩:=hb1.all
  obtain ⟨hc2,hf2,hl2⟩:=hb2.all
  obtain ⟨hc3,hf3,hl3⟩:=hb3.all
  obtain ⟨hc7,hf7,hl7⟩:=hb7.all
  obtain ⟨hc8,hf8,hl8⟩:=hb8.all
  obtain ⟨hc10,hf10,hl10⟩:=hb10.all
  obtain ⟨hc11,hf11,hl11⟩:=hb11.all
  go_wp2_with fail
  refine bodyPost_ret (v:=.tuple #[(Qp.zero.pv none 0 none 0).v,(Qp.zero.pv none 0 none 0).v,.bool false]) ?_ rfl ?_
  ·simp only [results,Tryz.results60]
   go_simp
   simp [Qp.zero]
  ·rw [HZ.out]
   have hx:=HW.out.trans hx
   exact ⟨_,_,rfl,Is.none _ _ Qp.zero rfl rfl,Is.none _ _ Qp.zero rfl rfl,EX⟩
 clear E1'
 obtain ⟨hc0,hf0,hl0⟩:=hb0.all
 obtain ⟨hc1,hf1,hl1⟩:=hb1.all
 obtain ⟨hc2,hf2,hl2⟩:=hb2.all
 obtain ⟨hc3,hf3,hl3⟩:=hb3.all
 obtain ⟨hc7,hf7,hl7⟩:=hb7.all
 obtain ⟨hc8,hf8,hl8⟩:=hb8.all
 obtain ⟨hc10,hf10,hl10⟩:=hb10.all
 obtain ⟨hc11,hf11,hl11⟩:=hb11.all
 go_wp2_with fail
 clear hc0 hf0 hl0 hc1 hf1 hl1 hc2 hf2 hl2 hc3 hf3 hl3 hc7 hf7 hl7 hc8 hf8 hl8 hc10 hf10 hl10 hc11 hf11 hl11
 refine (E2'.out _ hx).mono ?_
 rintro e w5 ⟨rfl,hx0⟩
 have hx1:=Ext.trans hx hx0
 replace hb0:=hb0.ext hx0
 replace hb1:=hb1.ext hx0
 replace hb2:=hb2.ext hx0
 replace hb3:=hb3.ext hx0
 replace hb7:=hb7.ext hx0
 replace hb8:=hb8.ext hx0
 replace hb10:=hb10.ext hx0
 replace hb11:=hb11.ext hx0
 clear hx hx0
 have hx:=hx1
 clear hx1
 cases s2
 ·have HZ:Hid (R=(Qp.zero,Qp.zero,false)):=Lib.hid (by rw [HM.out];simp)
  clear HM
  obtain ⟨hc0,hf0,hl0⟩:=hb0.all
  obtain ⟨hc1,hf1,hl1⟩:=hb1.all
  obtain ⟨hc2,hf2,hl2⟩:=hb2.all
  obtain ⟨hc3,hf3,hl3⟩:=hb3.all
  obtain ⟨hc7,hf7,hl7⟩:=hb7.all
  obtain ⟨hc8,hf8,hl8⟩:=hb8.all
  obtain ⟨hc10,hf10,hl10⟩:=hb10.all
  obtain ⟨hc11,hf11,hl11⟩:=hb11.all
  go_wp2_with fail
  refine bodyPost_ret (v:=.tuple #[(Qp.zero.pv none 0 none 0).v,(Qp.zero.pv none 0 none 0).v,.bool false]) ?_ rfl ?_
  ·simp only [results,Tryz.results60]
   go_simp
   simp [Qp.zero]
  ·rw [HZ.out]
   have hx:=HW.out.trans hx
   exact ⟨_,_,rfl,Is.none _ _ Qp.zero rfl rfl,Is.none _ _ Qp.zero rfl rfl,EX⟩
 have HZ:Hid (R=(E1,E2,true)):=Lib.hid (by rw [HM.out];simp)
 clear HM E2'
 obtain ⟨hc0,hf0,hl0⟩:=hb0.all
 obtain ⟨hc1,hf1,hl1⟩:=hb1.all
 obtain ⟨hc2,hf2,hl2⟩:=hb2.all
 obtain ⟨hc3,hf3,hl3⟩:=hb3.all
 obtain ⟨hc7,hf7,hl7⟩:=hb7.all
 obtain ⟨hc8,hf8,hl8⟩:=hb8.all
 go_wp2_with fail
 clear hc0 hf0 hl0 hc1 hf1 hl1 hc2 hf2 hl2 hc3 hf3 hl3 hc7 hf7 hl7 hc8 hf8 hl8
 have hq:=HL.out
 refine wp_region_noPanic (wp_region_held_drew (S:=fun w'=>w'.rangeAt w2.heap.size 0 (parr (E1.pv C1 e1 C2 e2)).toList∧w'.rangeAt (w2.heap.size+1) 0 (parr (E2.pv D1 f1 D2 f2)).toList) (by kernel_rfl) ⟨hb7.drew.range 0 _ (fun j _=>by rw [Nat.zero_add,Array.getElem?_toList]),hb8.drew.range 0 _ (fun j _=>by rw [Nat.zero_add,Array.getElem?_toList])⟩ (fun hH=>?_))
 refine tl (i:=0) (parr (E1.pv C1 e1 C2 e2)).toList rfl rfl rfl rfl rfl Tryz.underlying42 rfl (fun _ h=>h.1) hH ?_
 simp only [Act.put,sA,s0,sS]
 refine tl (i:=1) (parr (E2.pv D1 f1 D2 f2)).toList rfl rfl rfl rfl rfl Tryz.underlying42 rfl (fun _ h=>h.2) hH ?_
 simp only [Act.put,sA,s0,sS]
 refine two_stores (n:=2) (v1:=parr (E1.pv C1 e1 C2 e2)) (v2:=parr (E2.pv D1 f1 D2 f2)) (by kernel_rfl) (by kernel_rfl) (by kernel_rfl) (by kernel_rfl) rfl rfl rfl rfl rfl rfl rfl rfl rfl rfl rfl rfl rfl rfl rfl rfl rfl hb2.drew hb3.drew rfl rfl (by omega) (by kernel_rfl) (by kernel_rfl) (by first | rfl | simp [Value.oneCell']) (by first | rfl | simp [Value.oneCell']) ⟨World.rangeAt_setCells_apart hH.1 _ _ _ (.inl (by omega)),World.rangeAt_setCells_apart hH.2 _ _ _ (.inl (by omega))⟩
  ⟨World.rangeAt_setCells_apart (World.rangeAt_setCells_apart hH.1 _ _ _ (.inl (by omega))) _ _ _ (.inl (by omega)),World.rangeAt_setCells_apart (World.rangeAt_setCells_apart hH.2 _ _ _ (.inl (by omega))) _ _ _ (.inl (by omega))⟩ (fun W g2 g3 hst=>NoPanic.normal ?_) _
 have hy:=hst.ext w (HW.out.trans hx).drew1 (by omega) (by omega)
 have j1:=hst.keeps _ _ _ ((J1.out.ext hx).drew) (fun h=>by omega) (fun h=>by omega)
 have j2:=hst.keeps _ _ _ ((J2.out.ext hx).drew) (fun h=>by omega) (fun h=>by omega)
 clear hst hH hb0 hb1 hb2 hb3 hb7 hb8 hb10 hb11 hx HW J1 J2 L1 L2
 obtain ⟨hc2,hf2,hl2⟩:=g2.all
 obtain ⟨hc3,hf3,hl3⟩:=g3.all
 simp only [Act.put,sA,s0,sS]
 go_wp2_with fail
 refine bodyPost_ret (v:=.tuple #[(E1.pv C1 e1 C2 e2).v,(E2.pv D1 f1 D2 f2).v,.bool true]) ?_ rfl ?_
 ·simp only [results,Tryz.results60]
  go_simp
 ·rw [HZ.out]
  exact ⟨_,_,rfl,Is.mono j1 (fun b hb=>hb.1.imp (fun h=>h.1) (fun h=>by omega)),Is.mono j2 (fun b hb=>hb.1.imp (fun h=>h.1) (fun h=>by omega)),hy⟩
end Go.Proofs.YtlbhaimfjfdppaaGreatDoor
namespace Go.Proofs.YtlbhaimfjfdppaaGreatDoor
open Go Go.RowKit
attribute [local go_sem ↓] Go.wp_at_zero Go.wp_at_succ
def RPair (w:World) (c d:Qp) (wx:World) (g5 g6:Nat) (P1 P2:Pv):Prop:=
 Blk wx g5 42 (parr P1)∧Blk wx g6 42 (parr P2)∧g5≠g6∧w.heap.size≤g5∧w.heap.size≤g6 ∧
  Is wx (fun b=>b≠g5∧b≠g6) P1 c∧Is wx (fun b=>b≠g5∧b≠g6) P2 d
def Heads (w:World) (g:Nat) (l:List Qp):Prop:=
 ∃ (ps:List Pv) (rest:List Value),ps.length=l.length∧Blk w g 42 (flat ps ++ rest).toArray∧∀ (i:Nat) (p:Pv) (q:Qp),ps[i]?=some p→l[i]?=some q→Is w (fun b=>b≠g) p q
theorem Heads.qs {w:World} {g:Nat} {l:List Qp} (h:Heads w g l):Qs w (fun b=>b≠g) (some ⟨g,0,none⟩) l:=by
 obtain ⟨ps,rest,h1,h2,h3⟩:=h
 refine ⟨ps,h1,fun h0=>⟨g,0,rfl,h2.lt,fun i p hp j v hv=>?_⟩,h3⟩
 have hj:j < 12:=(List.getElem?_eq_some_iff.1 hv).1
 have hi:i < ps.length:=(List.getElem?_eq_some_iff.1 hp).1
 rw [h2.cell,Nat.zero_add,List.getElem?_toArray,List.getElem?_append_left (by rw [flat_length];omega),flat_get hp hj,hv]
theorem Heads.there {w:World} {g:Nat} {l:List Qp} (h:Heads w g l) {i:Nat} (hi:i < l.length):w.there g (i * 12) 12:=by
 obtain ⟨ps,rest,h1,h2,_⟩:=h
 exact there_of h2 (by rw [List.length_append,flat_length];omega)
theorem Heads.put {w:World} {g:Nat} {l:List Qp} (h:Heads w g l) {i:Nat} (hi:i < l.length) {p:Pv} {q:Qp} (hq:Is w (fun b=>b≠g) p q):Heads (w.setCells g (i * 12) (parr p).toList) g (l.set i q):=by
 obtain ⟨ps,rest,h1,h2,h3⟩:=h
 have hi':i < ps.length:=by omega
 have hb:Blk (w.setCells g (i * 12) (parr p).toList) g 42 (flat (ps.set i p) ++ rest).toArray:=by
  have e1:ps=ps.take i ++ ps[i] :: ps.drop (i+1):=by rw [List.getElem_cons_drop,List.take_append_drop]
  have e2:ps.set i p=ps.take i ++ p :: ps.drop (i+1):=by rw [List.set_eq_take_append_cons_drop,if_pos hi']
  have hl:(flat (ps.take i)).length=i * 12:=by rw [flat_length,List.length_take,Nat.min_eq_left (by omega)]
  have f1:flat ps ++ rest=flat (ps.take i) ++ ((parr ps[i]).toList ++ (flat (ps.drop (i+1)) ++ rest)):=by
   conv=>lhs;rw [e1,flat_append]
   show flat (ps.take i) ++ ((parr ps[i]).toList ++ flat (ps.drop (i+1))) ++ rest=_
   simp only [List.append_assoc]
  have f2:flat (ps.set i p) ++ rest=flat (ps.take i) ++ ((parr p).toList ++ (flat (ps.drop (i+1)) ++ rest)):=by
   rw [e2,flat_append]
   show flat (ps.take i) ++ ((parr p).toList ++ flat (ps.drop (i+1))) ++ rest=_
   simp only [List.append_assoc]
  rw [f1] at h2
  have h4:=Blk.mid (parr p).toList (parr ps[i]).toList (flat (ps.take i)) (flat (ps.drop (i+1)) ++ rest) w rfl h2
  rw [hl] at h4
  rw [f2]
  exact h4
 refine ⟨ps.set i p,rest,by simp [h1],hb,fun j p' q' hp' hq'=>?_⟩
 refine (Kept.set g w (i * 12) (parr p).toList).is _ _ ?_
 by_cases e:j=i
 ·subst e
  rw [List.getElem?_set_self (by omega)] at hp' hq'
  obtain rfl:=Option.some.inj hp'
  obtain rfl:=Option.some.inj hq'
  exact hq
 ·rw [List.getElem?_set_ne (Ne.symm e)] at hp' hq'
  exact h3 j p' q' hp' hq'
theorem Grows.heads {w:World} {base:Nat} {F:Nat→Prop} {v:Value} {l:List Qp} (h:Grows w base F v l) {n:Nat} (hl:l.length=n) (h0:0 < n):∃ g cap,v=.slice (some ⟨g,0,none⟩) n cap∧base≤g∧n≤cap∧Heads w g l:=by
 subst hl
 obtain ⟨ps,h1,h2,h3⟩:=h
 rcases h2.2 with ⟨rfl,h4⟩ | ⟨g,cap,cur,rfl,hb,hg,hc,hm,hs,ht⟩
 ·omega
 ·refine ⟨g,cap,rfl,hb,hc,ps,cur.toList.drop (l.length * 12),h1,?_,fun i p q hp hq=>(h3 i p q hp hq).mono fun b hb e=>hb.2 (by rw [e];rfl)⟩
  have e:(flat ps ++ cur.toList.drop (l.length * 12)).toArray=cur:=by rw [← ht,List.take_append_drop,Array.toArray_toList]
  rw [e]
  exact hg
def RMoved (R:Option (List Qp)) (n:Nat) (w:World) (e:Ending) (w':World):Prop:=
 ((R=none∧e=.returned (.tuple #[.slice none 0 0,.bool false]))∨∃ m A c,R=some m∧n≤c∧e=.returned (.tuple #[.slice A n c,.bool true])∧Hid (Qs w' (fun _=>True) A m))∧Ext w w'
set_option maxHeartbeats 16000000 in
set_option maxRecDepth 100000 in
theorem rexch_any (A:Option Addr) (n cap i:Nat) (l:List Qp) (w:World) {F:Nat→Prop} (h:Qs w F A l) (hn:l.length=n) (hi:i+1 < n) (hb:n≤100000000000) (hf:∀ q∈l,q.Tame):
 Calls Tryz.prog 46 #[.slice A n cap,.int .i64 i] w (RMoved (Sq.swap l i) n w):=by
 have ea:l[i]?=some (l.getD i Qp.zero):=by rw [List.getD_eq_getElem?_getD,List.getElem?_eq_getElem (by omega)];rfl
 have eb:l[i+1]?=some (l.getD (i+1) Qp.zero):=by rw [List.getD_eq_getElem?_getD,List.getElem?_eq_getElem (by omega)];rfl
 have ma:=hf _ (List.mem_of_getElem? ea)
 have mb:=hf _ (List.mem_of_getElem? eb)
 have HS:Hid (Sq.swap l i=if ((l.getD i Qp.zero).commute (l.getD (i+1) Qp.zero)).2.2 then some ((l.set i ((l.getD i Qp.zero).commute (l.getD (i+1) Qp.zero)).1).set (i+1) ((l.getD i Qp.zero).commute (l.getD (i+1) Qp.zero)).2.1) else none):=Lib.hid rfl
 generalize l.getD i Qp.zero=qa at ea ma HS
 generalize l.getD (i+1) Qp.zero=qb at eb mb HS
 obtain ⟨g,o,p,hA,hgl,ra0,ia⟩:=h.in.get ea
 obtain ⟨g',o',p',hA',_,rb0,ib⟩:=h.in.get eb
 subst hA
 obtain ⟨rfl,rfl⟩:g=g'∧o=o':=by simp at hA';exact hA'
 clear hA'
 replace ia:=ia.mono (G:=fun b=>b < w.heap.size) (fun b hb=>hb.2)
 replace ib:=ib.mono (G:=fun b=>b < w.heap.size) (fun b hb=>hb.2)
 have ra:∀ W,Ext w W→W.rangeAt g (o+i * 12) (parr p).toList:=fun W hW=>range_ext ra0 hgl hW
 have rb:∀ W,Ext w W→W.rangeAt g (o+(i+1) * 12) (parr p').toList:=fun W hW=>range_ext rb0 hgl hW
 have HC:=Lib.hid (fun W (hW:Ext w W)=>rcommute_any p p' qa qb W (ia.ext hW) (ib.ext hW) ma mb)
 generalize qa.commute qb=R at HC HS
 obtain ⟨c,d,k⟩:=R
 dsimp only at HS
 generalize Sq.swap l i=SW at HS ⊢
 have H:=Lib.hid h.in
 have HN:=Lib.hid hn
 have RA:=Lib.hid ra
 have RB:=Lib.hid rb
 clear ea eb ma mb ia ib hf h ra rb ra0 rb0 hn hgl
 have hi0:i < n:=by omega
 have hi1:i < 1152921504606846976:=by omega
 go_enter Tryz.func46,Tryz.ntmps46
 have hx:=Ext.refl w
 go_upto_region 1 with fail
 go_cut [6,7,8] (fun u5 u6 u7 wx=>∃ (g5 g6:Nat) (P1 P2:Pv),u5=.pointer (some ⟨g5,0,none⟩)∧u6=.pointer (some ⟨g6,0,none⟩)∧u7=.bool k∧Hid (RPair w c d wx g5 g6 P1 P2)∧Ext w wx)
 case first=>
  refine wp_region_noPanic (wp_region_held_drew (S:=fun w'=>Ext w w') (by kernel_rfl) (Ext.refl w).drew1 (fun hv=>?_))
  generalize w.drew=v0 at hv ⊢
  have S0:=Lib.hid hv.size_le
  refine tf (i:=0) (v:=(.slice (some ⟨g,o,none⟩) n cap)) rfl rfl (fun _=>rfl) hv ?_
  try simp only [Act.put,sA,s0,sS]
  refine tf (i:=1) (v:=(.int .i64 i)) rfl rfl (fun _=>rfl) hv ?_
  try simp only [Act.put,sA,s0,sS]
  refine ti (i:=2) g o n cap (i) rfl rfl rfl rfl rfl hi0 Tryz.underlying22 hv ?_
  try simp only [Act.put,sA,s0,sS]
  refine tl (i:=3) (parr p).toList rfl rfl rfl rfl rfl Tryz.underlying42 rfl (fun _ h=>RA.out _ h) hv ?_
  try simp only [Act.put,sA,s0,sS]
  refine tf (i:=4) (v:=(.slice (some ⟨g,o,none⟩) n cap)) rfl rfl (fun _=>rfl) hv ?_
  try simp only [Act.put,sA,s0,sS]
  refine tf (i:=5) (v:=(.int .i64 i)) rfl rfl (fun _=>rfl) hv ?_
  try simp only [Act.put,sA,s0,sS]
  refine take_next (i:=6) i rfl rfl rfl (by kernel_rfl) (by kernel_rfl) (by kernel_rfl) (by kernel_rfl) rfl hi1 hv (fun w=>by unfold execOp;simp [go_sem,IntKind.wrap_i64];omega) ?_
  try simp only [Act.put,sA,s0,sS]
  refine ti (i:=7) g o n cap (i+1) rfl rfl rfl rfl rfl hi Tryz.underlying22 hv ?_
  try simp only [Act.put,sA,s0,sS]
  refine tl (i:=8) (parr p').toList rfl rfl rfl rfl rfl Tryz.underlying42 rfl (fun _ h=>RB.out _ h) hv ?_
  try simp only [Act.put,sA,s0,sS]
  refine wpAnyH_ready (rs:=[9,14,15]) (by kernel_rfl) (by simp) ?_
  refine (AllReadyH.cons rfl (fun K hK=>?_) (AllReadyH.cons rfl (fun K hK=>?_) (AllReadyH.cons rfl (fun K hK=>?_) AllReadyH.nil)))
  ·go_simp
   refine (HC.out _ hv).mono ?_
   rintro e v1 ⟨P1,P2,rfl,i1,i2,hx0⟩
   have I1:=Lib.hid i1.in
   have I2:=Lib.hid i2.in
   clear i1 i2
   have Sv1:=Lib.hid hx0.size_le
   have hv1:=hv.trans hx0
   refine hK.out _ _ hv1 (fun _=>?_)
   clear hK hx0
   try simp only [Act.put,sA,s0,sS]
   refine tf (i:=10) (v:=(.tuple #[P1.v,P2.v,.bool k])) rfl rfl (fun _=>rfl) hv1 ?_
   try simp only [Act.put,sA,s0,sS]
   refine tf (i:=11) (v:=P1.v) rfl rfl (fun _=>rfl) hv1 ?_
   try simp only [Act.put,sA,s0,sS]
   refine tf (i:=12) (v:=P2.v) rfl rfl (fun _=>rfl) hv1 ?_
   try simp only [Act.put,sA,s0,sS]
   refine tf (i:=13) (v:=(.bool k)) rfl rfl (fun _=>rfl) hv1 ?_
   try simp only [Act.put,sA,s0,sS]
   refine wpAnyH_ready (rs:=[14,15]) (by kernel_rfl) (by simp) ?_
   refine (AllReadyH.cons rfl (fun K hK=>?_) (AllReadyH.cons rfl (fun K hK=>?_) AllReadyH.nil))
   ·go_simp
    have hx0:Ext v1 (v1.alloc (.cells zcells 42)):=(Ext.refl v1).alloc _
    have hb5:Blk (v1.alloc (.cells zcells 42)) v1.heap.size 42 zcells:=Blk.new' rfl
    have sv2:(v1.alloc (.cells zcells 42)).heap.size=v1.heap.size+1:=by simp
    generalize v1.alloc (.cells zcells 42)=v2 at hx0 hb5 sv2 ⊢
    obtain ⟨g5,eg5⟩:∃ g,g=v1.heap.size:=⟨_,rfl⟩
    rw [← eg5] at hb5 ⊢
    have Eg5:=Lib.hid eg5
    have Sv2:=Lib.hid sv2
    clear eg5 sv2
    have hv2:=hv1.trans hx0
    replace I1:=Lib.hid (I1.out.ext hx0)
    replace I2:=Lib.hid (I2.out.ext hx0)
    refine hK.out _ _ hv2 (fun _=>?_)
    clear hK hx0
    try simp only [Act.put,sA,s0,sS]
    refine wpAnyH_ready (rs:=[15]) (by kernel_rfl) (by simp) ?_
    refine (AllReadyH.cons rfl (fun K hK=>?_) AllReadyH.nil)
    ·go_simp
     have hx0:Ext v2 (v2.alloc (.cells zcells 42)):=(Ext.refl v2).alloc _
     have hb6:Blk (v2.alloc (.cells zcells 42)) v2.heap.size 42 zcells:=Blk.new' rfl
     have sv3:(v2.alloc (.cells zcells 42)).heap.size=v2.heap.size+1:=by simp
     generalize v2.alloc (.cells zcells 42)=v3 at hx0 hb6 sv3 ⊢
     obtain ⟨g6,eg6⟩:∃ g,g=v2.heap.size:=⟨_,rfl⟩
     rw [← eg6] at hb6 ⊢
     have Eg6:=Lib.hid eg6
     have Sv3:=Lib.hid sv3
     clear eg6 sv3
     have hv3:=hv2.trans hx0
     replace hb5:=hb5.ext hx0
     replace I1:=Lib.hid (I1.out.ext hx0)
     replace I2:=Lib.hid (I2.out.ext hx0)
     refine hK.out _ _ hv3 (fun _=>?_)
     clear hK hx0
     try simp only [Act.put,sA,s0,sS]
     have fSv1:=Sv1.out
     have fSv2:=Sv2.out
     have fEg5:=Eg5.out
     have fSv3:=Sv3.out
     have fEg6:=Eg6.out
     have sv0:=S0.out
     have i1:=I1.out.mono (G:=fun b=>b≠g5∧b≠g6) (fun b hb=>by omega)
     have i2:=I2.out.mono (G:=fun b=>b≠g5∧b≠g6) (fun b hb=>by omega)
     refine two_stores (n:=16) (u:=.bool k) (v1:=parr P1) (v2:=parr P2) (by kernel_rfl) (by kernel_rfl) (by kernel_rfl) (by kernel_rfl) rfl rfl rfl rfl rfl rfl rfl rfl rfl rfl rfl rfl rfl rfl rfl rfl rfl hb5 hb6 rfl rfl (by omega) (by kernel_rfl) (by kernel_rfl) (by first | rfl | simp [Value.oneCell']) (by first | rfl | simp [Value.oneCell']) (Ext.setAll (by omega) _ _ _ hv3) (Ext.setAll (by omega) _ _ _ (Ext.setAll (by omega) _ _ _ hv3)) (fun W k5 k6 hst=>NoPanic.normal ?_) _
     try simp only [Act.put,sA,s0,sS]
     have LF:Hid (RPair w c d W g5 g6 P1 P2):=Lib.hid ⟨k5,k6,by omega,by omega,by omega,hst.keeps _ _ _ i1 (fun h=>by omega) (fun h=>by omega),hst.keeps _ _ _ i2 (fun h=>by omega) (fun h=>by omega)⟩
     have hy:=hst.ext w hv3 (by omega) (by omega)
     clear hst i1 i2 k5 k6 sv0 fSv1 fSv2 fEg5 fSv3 fEg6 Sv1 Sv2 Eg5 Sv3 Eg6
     go_wp2_with fail
     go_meet
     exact ⟨g5,g6,P1,P2,rfl,rfl,rfl,LF,hy⟩
   ·go_simp
    have hx0:Ext v1 (v1.alloc (.cells zcells 42)):=(Ext.refl v1).alloc _
    have hb6:Blk (v1.alloc (.cells zcells 42)) v1.heap.size 42 zcells:=Blk.new' rfl
    have sv4:(v1.alloc (.cells zcells 42)).heap.size=v1.heap.size+1:=by simp
    generalize v1.alloc (.cells zcells 42)=v4 at hx0 hb6 sv4 ⊢
    obtain ⟨g6,eg6⟩:∃ g,g=v1.heap.size:=⟨_,rfl⟩
    rw [← eg6] at hb6 ⊢
    have Eg6:=Lib.hid eg6
    have Sv4:=Lib.hid sv4
    clear eg6 sv4
    have hv4:=hv1.trans hx0
    replace I1:=Lib.hid (I1.out.ext hx0)
    replace I2:=Lib.hid (I2.out.ext hx0)
    refine hK.out _ _ hv4 (fun _=>?_)
    clear hK hx0
    try simp only [Act.put,sA,s0,sS]
    refine wpAnyH_ready (rs:=[14]) (by kernel_rfl) (by simp) ?_
    refine (AllReadyH.cons rfl (fun K hK=>?_) AllReadyH.nil)
    ·go_simp
     have hx0:Ext v4 (v4.alloc (.cells zcells 42)):=(Ext.refl v4).alloc _
     have hb5:Blk (v4.alloc (.cells zcells 42)) v4.heap.size 42 zcells:=Blk.new' rfl
     have sv5:(v4.alloc (.cells zcells 42)).heap.size=v4.heap.size+1:=by simp
     generalize v4.alloc (.cells zcells 42)=v5 at hx0 hb5 sv5 ⊢
     obtain ⟨g5,eg5⟩:∃ g,g=v4.heap.size:=⟨_,rfl⟩
     rw [← eg5] at hb5 ⊢
     have Eg5:=Lib.hid eg5
     have Sv5:=Lib.hid sv5
     clear eg5 sv5
     have hv5:=hv4.trans hx0
     replace hb6:=hb6.ext hx0
     replace I1:=Lib.hid (I1.out.ext hx0)
     replace I2:=Lib.hid (I2.out.ext hx0)
     refine hK.out _ _ hv5 (fun _=>?_)
     clear hK hx0
     try simp only [Act.put,sA,s0,sS]
     have fSv1:=Sv1.out
     have fSv4:=Sv4.out
     have fEg6:=Eg6.out
     have fSv5:=Sv5.out
     have fEg5:=Eg5.out
     have sv0:=S0.out
     have i1:=I1.out.mono (G:=fun b=>b≠g5∧b≠g6) (fun b hb=>by omega)
     have i2:=I2.out.mono (G:=fun b=>b≠g5∧b≠g6) (fun b hb=>by omega)
     refine two_stores (n:=16) (u:=.bool k) (v1:=parr P1) (v2:=parr P2) (by kernel_rfl) (by kernel_rfl) (by kernel_rfl) (by kernel_rfl) rfl rfl rfl rfl rfl rfl rfl rfl rfl rfl rfl rfl rfl rfl rfl rfl rfl hb5 hb6 rfl rfl (by omega) (by kernel_rfl) (by kernel_rfl) (by first | rfl | simp [Value.oneCell']) (by first | rfl | simp [Value.oneCell']) (Ext.setAll (by omega) _ _ _ hv5) (Ext.setAll (by omega) _ _ _ (Ext.setAll (by omega) _ _ _ hv5)) (fun W k5 k6 hst=>NoPanic.normal ?_) _
     try simp only [Act.put,sA,s0,sS]
     have LF:Hid (RPair w c d W g5 g6 P1 P2):=Lib.hid ⟨k5,k6,by omega,by omega,by omega,hst.keeps _ _ _ i1 (fun h=>by omega) (fun h=>by omega),hst.keeps _ _ _ i2 (fun h=>by omega) (fun h=>by omega)⟩
     have hy:=hst.ext w hv5 (by omega) (by omega)
     clear hst i1 i2 k5 k6 sv0 fSv1 fSv4 fEg6 fSv5 fEg5 Sv1 Sv4 Eg6 Sv5 Eg5
     go_wp2_with fail
     go_meet
     exact ⟨g5,g6,P1,P2,rfl,rfl,rfl,LF,hy⟩
  ·go_simp
   have hx0:Ext v0 (v0.alloc (.cells zcells 42)):=(Ext.refl v0).alloc _
   have hb5:Blk (v0.alloc (.cells zcells 42)) v0.heap.size 42 zcells:=Blk.new' rfl
   have sv6:(v0.alloc (.cells zcells 42)).heap.size=v0.heap.size+1:=by simp
   generalize v0.alloc (.cells zcells 42)=v6 at hx0 hb5 sv6 ⊢
   obtain ⟨g5,eg5⟩:∃ g,g=v0.heap.size:=⟨_,rfl⟩
   rw [← eg5] at hb5 ⊢
   have Eg5:=Lib.hid eg5
   have Sv6:=Lib.hid sv6
   clear eg5 sv6
   have hv6:=hv.trans hx0
   refine hK.out _ _ hv6 (fun _=>?_)
   clear hK hx0
   try simp only [Act.put,sA,s0,sS]
   refine wpAnyH_ready (rs:=[9,15]) (by kernel_rfl) (by simp) ?_
   refine (AllReadyH.cons rfl (fun K hK=>?_) (AllReadyH.cons rfl (fun K hK=>?_) AllReadyH.nil))
   ·go_simp
    refine (HC.out _ hv6).mono ?_
    rintro e v7 ⟨P1,P2,rfl,i1,i2,hx0⟩
    have I1:=Lib.hid i1.in
    have I2:=Lib.hid i2.in
    clear i1 i2
    have Sv7:=Lib.hid hx0.size_le
    have hv7:=hv6.trans hx0
    replace hb5:=hb5.ext hx0
    refine hK.out _ _ hv7 (fun _=>?_)
    clear hK hx0
    try simp only [Act.put,sA,s0,sS]
    refine tf (i:=10) (v:=(.tuple #[P1.v,P2.v,.bool k])) rfl rfl (fun _=>rfl) hv7 ?_
    try simp only [Act.put,sA,s0,sS]
    refine tf (i:=11) (v:=P1.v) rfl rfl (fun _=>rfl) hv7 ?_
    try simp only [Act.put,sA,s0,sS]
    refine tf (i:=12) (v:=P2.v) rfl rfl (fun _=>rfl) hv7 ?_
    try simp only [Act.put,sA,s0,sS]
    refine tf (i:=13) (v:=(.bool k)) rfl rfl (fun _=>rfl) hv7 ?_
    try simp only [Act.put,sA,s0,sS]
    refine wpAnyH_ready (rs:=[15]) (by kernel_rfl) (by simp) ?_
    refine (AllReadyH.cons rfl (fun K hK=>?_) AllReadyH.nil)
    ·go_simp
     have hx0:Ext v7 (v7.alloc (.cells zcells 42)):=(Ext.refl v7).alloc _
     have hb6:Blk (v7.alloc (.cells zcells 42)) v7.heap.size 42 zcells:=Blk.new' rfl
     have sv8:(v7.alloc (.cells zcells 42)).heap.size=v7.heap.size+1:=by simp
     generalize v7.alloc (.cells zcells 42)=v8 at hx0 hb6 sv8 ⊢
     obtain ⟨g6,eg6⟩:∃ g,g=v7.heap.size:=⟨_,rfl⟩
     rw [← eg6] at hb6 ⊢
     have Eg6:=Lib.hid eg6
     have Sv8:=Lib.hid sv8
     clear eg6 sv8
     have hv8:=hv7.trans hx0
     replace hb5:=hb5.ext hx0
     replace I1:=Lib.hid (I1.out.ext hx0)
     replace I2:=Lib.hid (I2.out.ext hx0)
     refine hK.out _ _ hv8 (fun _=>?_)
     clear hK hx0
     try simp only [Act.put,sA,s0,sS]
     have fSv6:=Sv6.out
     have fEg5:=Eg5.out
     have fSv7:=Sv7.out
     have fSv8:=Sv8.out
     have fEg6:=Eg6.out
     have sv0:=S0.out
     have i1:=I1.out.mono (G:=fun b=>b≠g5∧b≠g6) (fun b hb=>by omega)
     have i2:=I2.out.mono (G:=fun b=>b≠g5∧b≠g6) (fun b hb=>by omega)
     refine two_stores (n:=16) (u:=.bool k) (v1:=parr P1) (v2:=parr P2) (by kernel_rfl) (by kernel_rfl) (by kernel_rfl) (by kernel_rfl) rfl rfl rfl rfl rfl rfl rfl rfl rfl rfl rfl rfl rfl rfl rfl rfl rfl hb5 hb6 rfl rfl (by omega) (by kernel_rfl) (by kernel_rfl) (by first | rfl | simp [Value.oneCell']) (by first | rfl | simp [Value.oneCell']) (Ext.setAll (by omega) _ _ _ hv8) (Ext.setAll (by omega) _ _ _ (Ext.setAll (by omega) _ _ _ hv8)) (fun W k5 k6 hst=>NoPanic.normal ?_) _
     try simp only [Act.put,sA,s0,sS]
     have LF:Hid (RPair w c d W g5 g6 P1 P2):=Lib.hid ⟨k5,k6,by omega,by omega,by omega,hst.keeps _ _ _ i1 (fun h=>by omega) (fun h=>by omega),hst.keeps _ _ _ i2 (fun h=>by omega) (fun h=>by omega)⟩
     have hy:=hst.ext w hv8 (by omega) (by omega)
     clear hst i1 i2 k5 k6 sv0 fSv6 fEg5 fSv7 fSv8 fEg6 Sv6 Eg5 Sv7 Sv8 Eg6
     go_wp2_with fail
     go_meet
     exact ⟨g5,g6,P1,P2,rfl,rfl,rfl,LF,hy⟩
   ·go_simp
    have hx0:Ext v6 (v6.alloc (.cells zcells 42)):=(Ext.refl v6).alloc _
    have hb6:Blk (v6.alloc (.cells zcells 42)) v6.heap.size 42 zcells:=Blk.new' rfl
    have sv9:(v6.alloc (.cells zcells 42)).heap.size=v6.heap.size+1:=by simp
    generalize v6.alloc (.cells zcells 42)=v9 at hx0 hb6 sv9 ⊢
    obtain ⟨g6,eg6⟩:∃ g,g=v6.heap.size:=⟨_,rfl⟩
    rw [← eg6] at hb6 ⊢
    have Eg6:=Lib.hid eg6
    have Sv9:=Lib.hid sv9
    clear eg6 sv9
    have hv9:=hv6.trans hx0
    replace hb5:=hb5.ext hx0
    refine hK.out _ _ hv9 (fun _=>?_)
    clear hK hx0
    try simp only [Act.put,sA,s0,sS]
    refine wpAnyH_ready (rs:=[9]) (by kernel_rfl) (by simp) ?_
    refine (AllReadyH.cons rfl (fun K hK=>?_) AllReadyH.nil)
    ·go_simp
     refine (HC.out _ hv9).mono ?_
     rintro e v10 ⟨P1,P2,rfl,i1,i2,hx0⟩
     have I1:=Lib.hid i1.in
     have I2:=Lib.hid i2.in
     clear i1 i2
     have Sv10:=Lib.hid hx0.size_le
     have hv10:=hv9.trans hx0
     replace hb5:=hb5.ext hx0
     replace hb6:=hb6.ext hx0
     refine hK.out _ _ hv10 (fun _=>?_)
     clear hK hx0
     try simp only [Act.put,sA,s0,sS]
     refine tf (i:=10) (v:=(.tuple #[P1.v,P2.v,.bool k])) rfl rfl (fun _=>rfl) hv10 ?_
     try simp only [Act.put,sA,s0,sS]
     refine tf (i:=11) (v:=P1.v) rfl rfl (fun _=>rfl) hv10 ?_
     try simp only [Act.put,sA,s0,sS]
     refine tf (i:=12) (v:=P2.v) rfl rfl (fun _=>rfl) hv10 ?_
     try simp only [Act.put,sA,s0,sS]
     refine tf (i:=13) (v:=(.bool k)) rfl rfl (fun _=>rfl) hv10 ?_
     try simp only [Act.put,sA,s0,sS]
     have fSv6:=Sv6.out
     have fEg5:=Eg5.out
     have fSv9:=Sv9.out
     have fEg6:=Eg6.out
     have fSv10:=Sv10.out
     have sv0:=S0.out
     have i1:=I1.out.mono (G:=fun b=>b≠g5∧b≠g6) (fun b hb=>by omega)
     have i2:=I2.out.mono (G:=fun b=>b≠g5∧b≠g6) (fun b hb=>by omega)
     refine two_stores (n:=16) (u:=.bool k) (v1:=parr P1) (v2:=parr P2) (by kernel_rfl) (by kernel_rfl) (by kernel_rfl) (by kernel_rfl) rfl rfl rfl rfl rfl rfl rfl rfl rfl rfl rfl rfl rfl rfl rfl rfl rfl hb5 hb6 rfl rfl (by omega) (by kernel_rfl) (by kernel_rfl) (by first | rfl | simp [Value.oneCell']) (by first | rfl | simp [Value.oneCell']) (Ext.setAll (by omega) _ _ _ hv10) (Ext.setAll (by omega) _ _ _ (Ext.setAll (by omega) _ _ _ hv10)) (fun W k5 k6 hst=>NoPanic.normal ?_) _
     try simp only [Act.put,sA,s0,sS]
     have LF:Hid (RPair w c d W g5 g6 P1 P2):=Lib.hid ⟨k5,k6,by omega,by omega,by omega,hst.keeps _ _ _ i1 (fun h=>by omega) (fun h=>by omega),hst.keeps _ _ _ i2 (fun h=>by omega) (fun h=>by omega)⟩
     have hy:=hst.ext w hv10 (by omega) (by omega)
     clear hst i1 i2 k5 k6 sv0 fSv6 fEg5 fSv9 fEg6 fSv10 Sv6 Eg5 Sv9 Eg6 Sv10
     go_wp2_with fail
     go_meet
     exact ⟨g5,g6,P1,P2,rfl,rfl,rfl,LF,hy⟩
  ·go_simp
   have hx0:Ext v0 (v0.alloc (.cells zcells 42)):=(Ext.refl v0).alloc _
   have hb6:Blk (v0.alloc (.cells zcells 42)) v0.heap.size 42 zcells:=Blk.new' rfl
   have sv11:(v0.alloc (.cells zcells 42)).heap.size=v0.heap.size+1:=by simp
   generalize v0.alloc (.cells zcells 42)=v11 at hx0 hb6 sv11 ⊢
   obtain ⟨g6,eg6⟩:∃ g,g=v0.heap.size:=⟨_,rfl⟩
   rw [← eg6] at hb6 ⊢
   have Eg6:=Lib.hid eg6
   have Sv11:=Lib.hid sv11
   clear eg6 sv11
   have hv11:=hv.trans hx0
   refine hK.out _ _ hv11 (fun _=>?_)
   clear hK hx0
   try simp only [Act.put,sA,s0,sS]
   refine wpAnyH_ready (rs:=[9,14]) (by kernel_rfl) (by simp) ?_
   refine (AllReadyH.cons rfl (fun K hK=>?_) (AllReadyH.cons rfl (fun K hK=>?_) AllReadyH.nil))
   ·go_simp
    refine (HC.out _ hv11).mono ?_
    rintro e v12 ⟨P1,P2,rfl,i1,i2,hx0⟩
    have I1:=Lib.hid i1.in
    have I2:=Lib.hid i2.in
    clear i1 i2
    have Sv12:=Lib.hid hx0.size_le
    have hv12:=hv11.trans hx0
    replace hb6:=hb6.ext hx0
    refine hK.out _ _ hv12 (fun _=>?_)
    clear hK hx0
    try simp only [Act.put,sA,s0,sS]
    refine tf (i:=10) (v:=(.tuple #[P1.v,P2.v,.bool k])) rfl rfl (fun _=>rfl) hv12 ?_
    try simp only [Act.put,sA,s0,sS]
    refine tf (i:=11) (v:=P1.v) rfl rfl (fun _=>rfl) hv12 ?_
    try simp only [Act.put,sA,s0,sS]
    refine tf (i:=12) (v:=P2.v) rfl rfl (fun _=>rfl) hv12 ?_
    try simp only [Act.put,sA,s0,sS]
    refine tf (i:=13) (v:=(.bool k)) rfl rfl (fun _=>rfl) hv12 ?_
    try simp only [Act.put,sA,s0,sS]
    refine wpAnyH_ready (rs:=[14]) (by kernel_rfl) (by simp) ?_
    refine (AllReadyH.cons rfl (fun K hK=>?_) AllReadyH.nil)
    ·go_simp
     have hx0:Ext v12 (v12.alloc (.cells zcells 42)):=(Ext.refl v12).alloc _
     have hb5:Blk (v12.alloc (.cells zcells 42)) v12.heap.size 42 zcells:=Blk.new' rfl
     have sv13:(v12.alloc (.cells zcells 42)).heap.size=v12.heap.size+1:=by simp
     generalize v12.alloc (.cells zcells 42)=v13 at hx0 hb5 sv13 ⊢
     obtain ⟨g5,eg5⟩:∃ g,g=v12.heap.size:=⟨_,rfl⟩
     rw [← eg5] at hb5 ⊢
     have Eg5:=Lib.hid eg5
     have Sv13:=Lib.hid sv13
     clear eg5 sv13
     have hv13:=hv12.trans hx0
     replace hb6:=hb6.ext hx0
     replace I1:=Lib.hid (I1.out.ext hx0)
     replace I2:=Lib.hid (I2.out.ext hx0)
     refine hK.out _ _ hv13 (fun _=>?_)
     clear hK hx0
     try simp only [Act.put,sA,s0,sS]
     have fSv11:=Sv11.out
     have fEg6:=Eg6.out
     have fSv12:=Sv12.out
     have fSv13:=Sv13.out
     have fEg5:=Eg5.out
     have sv0:=S0.out
     have i1:=I1.out.mono (G:=fun b=>b≠g5∧b≠g6) (fun b hb=>by omega)
     have i2:=I2.out.mono (G:=fun b=>b≠g5∧b≠g6) (fun b hb=>by omega)
     refine two_stores (n:=16) (u:=.bool k) (v1:=parr P1) (v2:=parr P2) (by kernel_rfl) (by kernel_rfl) (by kernel_rfl) (by kernel_rfl) rfl rfl rfl rfl rfl rfl rfl rfl rfl rfl rfl rfl rfl rfl rfl rfl rfl hb5 hb6 rfl rfl (by omega) (by kernel_rfl) (by kernel_rfl) (by first | rfl | simp [Value.oneCell']) (by first | rfl | simp [Value.oneCell']) (Ext.setAll (by omega) _ _ _ hv13) (Ext.setAll (by omega) _ _ _ (Ext.setAll (by omega) _ _ _ hv13)) (fun W k5 k6 hst=>NoPanic.normal ?_) _
     try simp only [Act.put,sA,s0,sS]
     have LF:Hid (RPair w c d W g5 g6 P1 P2):=Lib.hid ⟨k5,k6,by omega,by omega,by omega,hst.keeps _ _ _ i1 (fun h=>by omega) (fun h=>by omega),hst.keeps _ _ _ i2 (fun h=>by omega) (fun h=>by omega)⟩
     have hy:=hst.ext w hv13 (by omega) (by omega)
     clear hst i1 i2 k5 k6 sv0 fSv11 fEg6 fSv12 fSv13 fEg5 Sv11 Eg6 Sv12 Sv13 Eg5
     go_wp2_with fail
     go_meet
     exact ⟨g5,g6,P1,P2,rfl,rfl,rfl,LF,hy⟩
   ·go_simp
    have hx0:Ext v11 (v11.alloc (.cells zcells 42)):=(Ext.refl v11).alloc _
    have hb5:Blk (v11.alloc (.cells zcells 42)) v11.heap.size 42 zcells:=Blk.new' rfl
    have sv14:(v11.alloc (.cells zcells 42)).heap.size=v11.heap.size+1:=by simp
    generalize v11.alloc (.cells zcells 42)=v14 at hx0 hb5 sv14 ⊢
    obtain ⟨g5,eg5⟩:∃ g,g=v11.heap.size:=⟨_,rfl⟩
    rw [← eg5] at hb5 ⊢
    have Eg5:=Lib.hid eg5
    have Sv14:=Lib.hid sv14
    clear eg5 sv14
    have hv14:=hv11.trans hx0
    replace hb6:=hb6.ext hx0
    refine hK.out _ _ hv14 (fun _=>?_)
    clear hK hx0
    try simp only [Act.put,sA,s0,sS]
    refine wpAnyH_ready (rs:=[9]) (by kernel_rfl) (by simp) ?_
    refine (AllReadyH.cons rfl (fun K hK=>?_) AllReadyH.nil)
    ·go_simp
     refine (HC.out _ hv14).mono ?_
     rintro e v15 ⟨P1,P2,rfl,i1,i2,hx0⟩
     have I1:=Lib.hid i1.in
     have I2:=Lib.hid i2.in
     clear i1 i2
     have Sv15:=Lib.hid hx0.size_le
     have hv15:=hv14.trans hx0
     replace hb6:=hb6.ext hx0
     replace hb5:=hb5.ext hx0
     refine hK.out _ _ hv15 (fun _=>?_)
     clear hK hx0
     try simp only [Act.put,sA,s0,sS]
     refine tf (i:=10) (v:=(.tuple #[P1.v,P2.v,.bool k])) rfl rfl (fun _=>rfl) hv15 ?_
     try simp only [Act.put,sA,s0,sS]
     refine tf (i:=11) (v:=P1.v) rfl rfl (fun _=>rfl) hv15 ?_
     try simp only [Act.put,sA,s0,sS]
     refine tf (i:=12) (v:=P2.v) rfl rfl (fun _=>rfl) hv15 ?_
     try simp only [Act.put,sA,s0,sS]
     refine tf (i:=13) (v:=(.bool k)) rfl rfl (fun _=>rfl) hv15 ?_
     try simp only [Act.put,sA,s0,sS]
     have fSv11:=Sv11.out
     have fEg6:=Eg6.out
     have fSv14:=Sv14.out
     have fEg5:=Eg5.out
     have fSv15:=Sv15.out
     have sv0:=S0.out
     have i1:=I1.out.mono (G:=fun b=>b≠g5∧b≠g6) (fun b hb=>by omega)
     have i2:=I2.out.mono (G:=fun b=>b≠g5∧b≠g6) (fun b hb=>by omega)
     refine two_stores (n:=16) (u:=.bool k) (v1:=parr P1) (v2:=parr P2) (by kernel_rfl) (by kernel_rfl) (by kernel_rfl) (by kernel_rfl) rfl rfl rfl rfl rfl rfl rfl rfl rfl rfl rfl rfl rfl rfl rfl rfl rfl hb5 hb6 rfl rfl (by omega) (by kernel_rfl) (by kernel_rfl) (by first | rfl | simp [Value.oneCell']) (by first | rfl | simp [Value.oneCell']) (Ext.setAll (by omega) _ _ _ hv15) (Ext.setAll (by omega) _ _ _ (Ext.setAll (by omega) _ _ _ hv15)) (fun W k5 k6 hst=>NoPanic.normal ?_) _
     try simp only [Act.put,sA,s0,sS]
     have LF:Hid (RPair w c d W g5 g6 P1 P2):=Lib.hid ⟨k5,k6,by omega,by omega,by omega,hst.keeps _ _ _ i1 (fun h=>by omega) (fun h=>by omega),hst.keeps _ _ _ i2 (fun h=>by omega) (fun h=>by omega)⟩
     have hy:=hst.ext w hv15 (by omega) (by omega)
     clear hst i1 i2 k5 k6 sv0 fSv11 fEg6 fSv14 fEg5 fSv15 Sv11 Eg6 Sv14 Eg5 Sv15
     go_wp2_with fail
     go_meet
     exact ⟨g5,g6,P1,P2,rfl,rfl,rfl,LF,hy⟩
 case rest=>
  obtain ⟨g5,g6,P1,P2,rfl,rfl,rfl,HP,hx0⟩:=hcut
  clear hx HC RA RB
  have hx:=hx0
  clear hx0
  cases k
  ·have HZ:Hid (SW=none):=Lib.hid (by rw [HS.out];rfl)
   go_wp2_with fail
   refine bodyPost_ret (v:=.tuple #[.slice none 0 0,.bool false]) (by simp only [results,Tryz.results46];go_simp) rfl ?_
   exact ⟨.inl ⟨HZ.out,rfl⟩,hx⟩
  ·have HZ:Hid (SW=some ((l.set i c).set (i+1) d)):=Lib.hid (by rw [HS.out];rfl)
   obtain ⟨hb5,hb6,hne,l5,l6,i1,i2⟩:=HP.out
   have I1:=Lib.hid i1.in
   have I2:=Lib.hid i2.in
   have z5:=hb5.lt
   have z6:=hb6.lt
   have NE:=Lib.hid hne
   clear HP HS hne l5 l6 i1 i2
   have HQ:=Lib.hid (H.out.ext hx)
   have hw:=hx.size_le
   clear H
   go_wp2_with (at_builtin;refine wpList_grows _ rfl _ _ 22 rfl Tryz.underlying22 (by kernel_rfl) wc.heap.size _ [] l rfl (Grows.empty (fun b=>True) (Nat.le_refl _)) (some ⟨g,o,none⟩) n cap rfl HN.out (HQ.out.ext ((Ext.refl wc).alloc _)) (fun b hb=>⟨by have :=hb.2;simp;omega,trivial,own_ne (by have :=hb.2;omega)⟩) (by simp;omega) (by simp) ?_;intro v1 w1 hgr hgrow;have hx1:Ext wc w1:=Ext.grownBy ((Ext.refl wc).alloc _) hgrow (fun k e=>Nat.le_of_eq (Option.some.inj (show some wc.heap.size=some k from e)));obtain ⟨G,gc,rfl,hG,hgc,hds⟩:=hgr.heads (n:=n) (by rw [List.nil_append];exact HN.out) (by omega);rw [List.nil_append] at hds;replace hb5:=hb5.ext hx1;replace hb6:=hb6.ext hx1;have HO:=Lib.hid hds;have HX1:=Lib.hid hx1;have J1:=Lib.hid (I1.out.ext hx1);have J2:=Lib.hid (I2.out.ext hx1);clear hgr hgrow hds hx1 HQ I1 I2)
   refine wp_region_noPanic (wp_region_held_drew (S:=fun w'=>Blk w' g5 42 (parr P1)∧Blk w' g6 42 (parr P2)) (by kernel_rfl) ⟨hb5.drew,hb6.drew⟩ (fun hv=>?_))
   have hd:Ext w1 w1.drew:=(Ext.refl w1).drew1
   generalize w1.drew=v0 at hv hd ⊢
   refine tf (i:=0) (v:=(.slice (some ⟨G,0,none⟩) n gc)) rfl rfl (fun _=>rfl) hv ?_
   try simp only [Act.put,sA,s0,sS]
   refine tf (i:=1) (v:=(.int .i64 i)) rfl rfl (fun _=>rfl) hv ?_
   try simp only [Act.put,sA,s0,sS]
   refine tf (i:=2) (v:=(.slice (some ⟨G,0,none⟩) n gc)) rfl rfl (fun _=>rfl) hv ?_
   try simp only [Act.put,sA,s0,sS]
   refine tf (i:=3) (v:=(.int .i64 i)) rfl rfl (fun _=>rfl) hv ?_
   try simp only [Act.put,sA,s0,sS]
   refine take_next (i:=4) i rfl rfl rfl (by kernel_rfl) (by kernel_rfl) (by kernel_rfl) (by kernel_rfl) rfl hi1 hv (fun w=>by unfold execOp;simp [go_sem,IntKind.wrap_i64];omega) ?_
   try simp only [Act.put,sA,s0,sS]
   refine tl (i:=5) (parr P1).toList rfl rfl rfl rfl rfl Tryz.underlying42 rfl (fun _ h=>h.1.range 0 _ (fun j _=>by rw [Nat.zero_add,Array.getElem?_toList])) hv ?_
   try simp only [Act.put,sA,s0,sS]
   refine tl (i:=6) (parr P2).toList rfl rfl rfl rfl rfl Tryz.underlying42 rfl (fun _ h=>h.2.range 0 _ (fun j _=>by rw [Nat.zero_add,Array.getElem?_toList])) hv ?_
   try simp only [Act.put,sA,s0,sS]
   refine ti (i:=7) G 0 n gc (i) rfl rfl rfl rfl rfl hi0 Tryz.underlying22 hv ?_
   try simp only [Act.put,sA,s0,sS]
   have ho:Heads v0 G l:=by
    obtain ⟨ps,rest,h1,h2,h3⟩:=HO.out
    exact ⟨ps,rest,h1,h2.ext hd,fun i p q hp hq=>(h3 i p q hp hq).ext hd⟩
   have q1:=(J1.out.ext hd).mono (G:=fun b=>b≠G) (fun b hb=>by have :=hb.2;omega)
   have q2:=(J2.out.ext hd).mono (G:=fun b=>b≠G) (fun b hb=>by have :=hb.2;omega)
   have hlen:=HN.out
   have ho1:=ho.put (i:=i) (by omega) q1
   have q2':=(Kept.set G v0 (i * 12) (parr P1).toList).is _ _ q2
   have ho2:=ho1.put (i:=i+1) (by rw [List.length_set];omega) q2'
   have hk:=(Kept.of_ext (g:=G) (HX1.out.trans hd)).trans ((Kept.set G v0 (i * 12) (parr P1).toList).trans (Kept.set G _ ((i+1) * 12) (parr P2).toList))
   have hy:=hk.ext w hx (by omega)
   have m5:Blk (v0.setCells G (i * 12) (parr P1).toList) g5 42 (parr P1):=Blk.farAll (w:=v0) (by omega) _ _ _ hv.1
   have m6:Blk (v0.setCells G (i * 12) (parr P1).toList) g6 42 (parr P2):=Blk.farAll (w:=v0) (by omega) _ _ _ hv.2
   have HO2:=Lib.hid (ho2.qs.mono (G:=fun _=>True) (fun _ _=>trivial))
   have HY:=Lib.hid hy
   have t1:v0.there G (i * 12) 12:=ho.there (by omega)
   have t2:(v0.setCells G (i * 12) (parr P1).toList).there G ((i+1) * 12) 12:=ho1.there (by rw [List.length_set];omega)
   clear ho ho1 ho2 q1 q2 q2' hk hlen HO J1 J2 NE hy
   refine wpAnyH_one (i:=8) (by kernel_rfl) rfl (by kernel_rfl) ?_
   refine wp_store_mid _ _ _ rfl G (0+i * 12) (parr P1) rfl rfl (by rw [Nat.zero_add];exact t1) (by kernel_rfl) (by first | rfl | simp [Value.oneCell']) ?_
   rw [Nat.zero_add]
   refine ⟨⟨m5,m6⟩,?_⟩
   try simp only [Act.put,sA,s0,sS]
   generalize hv1:v0.setCells G (i * 12) (parr P1).toList=v1 at m5 m6 t2 HO2 HY ⊢
   clear hv
   refine ti (i:=9) G 0 n gc (i+1) rfl rfl rfl rfl rfl hi Tryz.underlying22 ⟨m5,m6⟩ ?_
   try simp only [Act.put,sA,s0,sS]
   refine wpAnyH_one (i:=10) (by kernel_rfl) rfl (by kernel_rfl) ?_
   refine wp_store_mid _ _ _ rfl G (0+(i+1) * 12) (parr P2) rfl rfl (by rw [Nat.zero_add];exact t2) (by kernel_rfl) (by first | rfl | simp [Value.oneCell']) ?_
   rw [Nat.zero_add]
   refine ⟨⟨Blk.farAll (w:=v1) (by omega) _ _ _ m5,Blk.farAll (w:=v1) (by omega) _ _ _ m6⟩,?_⟩
   try simp only [Act.put,sA,s0,sS]
   refine wpAnyH_done (by kernel_rfl) (NoPanic.normal ?_) _
   generalize v1.setCells G ((i+1) * 12) (parr P2).toList=v2 at HO2 HY ⊢
   clear m5 m6 t1 t2 hb5 hb6 hd hv1
   go_wp2_with fail
   refine bodyPost_ret (v:=.tuple #[.slice (some ⟨G,0,none⟩) n gc,.bool true]) (by simp only [results,Tryz.results46];go_simp) rfl ?_
   exact ⟨.inr ⟨_,_,_,HZ.out,hgc,rfl,HO2⟩,HY.out⟩
end Go.Proofs.YtlbhaimfjfdppaaGreatDoor
namespace Go.Proofs.YtlbhaimfjfdppaaGreatDoor
open Go Go.RowKit
set_option maxHeartbeats 4000000 in
set_option maxRecDepth 100000 in
theorem rinv_bad (p:Pv) (w:World) (k:Int) (hk:k≠0) (hc:∀ W,Ext w W→Calls Tryz.prog 69 #[p.v] W (Ret (.int .i64 k) W)):
 Calls Tryz.prog 59 #[p.v] w (Ret (.tuple #[(Qp.zero.pv none 0 none 0).v,.int .i64 k]) w):=by
 have HC:=Lib.hid hc
 have e1:(k != 0)=true:=by simpa using hk
 clear hc hk
 go_enter Tryz.func59,Tryz.ntmps59
 have hx:=Ext.refl w
 go_wp2_with (go_at_call 69;refine (HC.out _ EX).mono ?_;rintro e w1 ⟨rfl,hx0⟩;have hy:=Ext.trans (a:=w) EX hx0;clear hx;have hx:=hy;clear hy;have hn0:=BB hx0 (w.heap.size);have hn1:=BB hx0 (w.heap.size+1);(first | simp [↓heap_drew_at,↓heap_drewN_at,↓heap_alloc_at,↓heap_set_at,ne_two,ne_three,ne_two_left,ne_three_left,↓hb0.eq,hb0.lt,hb0.ne,↓hb1.eq,hb1.lt,hb1.ne] at hn0 hn1 | simp [↓heap_drew_at,↓heap_drewN_at,↓heap_alloc_at,↓heap_set_at,ne_two,ne_three,ne_two_left,ne_three_left] at hn0 hn1);(try clear hb0 hc0 hf0 hl0);(try clear hb1 hc1 hf1 hl1);have hb0:=Blk.mk hn0;clear hn0;obtain ⟨hc0,hf0,hl0⟩:=hb0.all;have hb1:=Blk.mk hn1;clear hn1;obtain ⟨hc1,hf1,hl1⟩:=hb1.all;(try clear hx0))
 refine bodyPost_ret (v:=.tuple #[(Qp.zero.pv none 0 none 0).v,.int .i64 k]) ?_ rfl ?_
 ·simp only [results,Tryz.results59]
  go_simp
  (try simp [Qp.zero])
 ·exact Ret.mk rfl EX
theorem inv_lines {q:Qp} (h:q.check=0):q.inv.old=q.new∧q.inv.new=q.old:=by
 have l:=check_lean h
 obtain ⟨g1,g2,g3,g4,g5,g6,g7,g8,g9,g10⟩:=l
 have hk:=(check_parts h).1
 cases q
 rename_i kind path to_ ty at_ old new off so sn om nm
 dsimp only at *
 unfold Qp.inv
 by_cases k1:kind=1
 ·subst k1;simp_all [Qp.zero]
 by_cases k2:kind=2
 ·subst k2;simp_all [Qp.zero]
 by_cases k3:kind=3
 ·subst k3;simp_all [Qp.zero]
 by_cases k4:kind=4
 ·subst k4;simp_all [Qp.zero]
 by_cases k5:kind=5
 ·subst k5;simp_all [Qp.zero]
 simp [k1,k2,k3,k4,k5]
def Qp.turned (q:Qp):Qp:=if q.check=0 then q.inv else Qp.zero
end Go.Proofs.YtlbhaimfjfdppaaGreatDoor
namespace Go.Proofs.YtlbhaimfjfdppaaGreatDoor
open Go Go.RowKit
attribute [local go_sem ↓] Go.wp_at_zero Go.wp_at_succ
theorem check_tame {q:Qp} (h:q.check=0):q.Tame:=⟨check_fits h,(lines_small h).1,(lines_small h).2⟩
namespace Sq
variable {P:Qp→Prop}
theorem swap_all (hP:∀ q:Qp,q.check=0→P q) {l m:List Qp} {i:Nat} (hi:i+1 < l.length) (h:swap l i=some m) (hf:∀ q∈l,P q):∀ q∈m,P q:=by
 obtain ⟨p,a,b,s,rfl,rfl⟩:=parts hi
 rw [swap_at] at h
 split at h
 ·rename_i hk
  obtain rfl:=Option.some.inj h
  have e:a.commute b=((a.commute b).1,(a.commute b).2.1,true):=by rw [← hk]
  have hc:=(commute_back e).2
  intro q hq
  rcases List.mem_append.1 hq with m | m
  ·exact hf q (List.mem_append_left _ m)
  ·rcases List.mem_cons.1 m with rfl | m
   ·exact hP _ hc.1
   ·rcases List.mem_cons.1 m with rfl | m
    ·exact hP _ hc.2
    ·exact hf q (List.mem_append_right _ (List.mem_cons_of_mem _ (List.mem_cons_of_mem _ m)))
 ·cases h
theorem right_all (hP:∀ q:Qp,q.check=0→P q):∀ {n:Nat} {l m:List Qp} {i:Nat},i+n < l.length→right n l i=some m→(∀ q∈l,P q)→∀ q∈m,P q
 | 0,l,m,i,_,h,hf=>by
   obtain rfl:=Option.some.inj h
   exact hf
 | n+1,l,m,i,hi,h,hf=>by
   obtain ⟨l2,h1,h2⟩:=Option.bind_eq_some_iff.1 h
   exact right_all hP (by rw [swap_length h1];omega) h2 (swap_all hP (by omega) h1 hf)
theorem left_all (hP:∀ q:Qp,q.check=0→P q):∀ {n:Nat} {l m:List Qp} {i:Nat},i < l.length→n≤i→left n l i=some m→(∀ q∈l,P q)→∀ q∈m,P q
 | 0,l,m,i,_,_,h,hf=>by
   obtain rfl:=Option.some.inj h
   exact hf
 | n+1,l,m,i,hi,hn,h,hf=>by
   obtain ⟨l2,h1,h2⟩:=Option.bind_eq_some_iff.1 h
   exact left_all hP (by rw [swap_length h1];omega) (by omega) h2 (swap_all hP (by omega) h1 hf)
theorem move_all (hP:∀ q:Qp,q.check=0→P q) {l m:List Qp} {i k:Nat} (h:move l i k=some m) (hf:∀ q∈l,P q):∀ q∈m,P q:=by
 unfold move at h
 split at h
 ·rename_i hl
  split at h
  ·exact right_all hP (by omega) h hf
  ·exact left_all hP (by omega) (by omega) h hf
 ·cases h
theorem without_all (hP:∀ q:Qp,q.check=0→P q) {x:Qp} {n:Nat}:∀ {l m:List Qp} {k:Nat},withoutFrom l x n k=some m→(∀ q∈l,P q)→∀ q∈m,P q:=by
 induction n with
 | zero=>intro l m k h;cases h
 | succ n ih=>
   intro l m k h hf
   unfold withoutFrom at h
   split at h
   ·rename_i m1 hm
    split at h
    ·obtain rfl:=Option.some.inj h
     exact fun q hq=>move_all hP hm hf q (List.mem_of_mem_tail hq)
    ·exact ih h hf
   ·exact ih h hf
def go (k:Nat) (m:List Qp) (j:Nat):Option (List Qp):=if j≤k then right (k - j) m j else left (j - k) m j
theorem go_self (k:Nat) (m:List Qp):go k m k=some m:=by unfold go;rw [if_pos (Nat.le_refl _),Nat.sub_self];rfl
theorem go_up {k j:Nat} {m:List Qp} (h:j < k):go k m j=(swap m j).bind fun m'=>go k m' (j+1):=by
 unfold go
 rw [if_pos (by omega),show k - j=(k - (j+1))+1 by omega]
 show (swap m j).bind (fun m'=>right (k - (j+1)) m' (j+1))=_
 congr 1
 funext m'
 rw [if_pos (by omega)]
theorem go_down {k j:Nat} {m:List Qp} (h:k≤j):go k m (j+1)=(swap m j).bind fun m'=>go k m' j:=by
 unfold go
 rw [if_neg (by omega),show j+1 - k=(j - k)+1 by omega]
 show (swap m (j+1 - 1)).bind (fun m'=>left (j - k) m' (j+1 - 1))=_
 rw [Nat.add_sub_cancel]
 congr 1
 funext m'
 by_cases e:j=k
 ·subst e
  rw [if_pos (Nat.le_refl _),Nat.sub_self]
  rfl
 ·rw [if_neg (by omega)]
theorem move_go {l:List Qp} {i k:Nat} (hi:i < l.length) (hk:k < l.length):move l i k=go k l i:=by
 unfold move go
 rw [if_pos ⟨hi,hk⟩]
def rows (l:List Qp) (d:Nat):Option (List Qp):=(List.range' d (l.length - d)).findSome? fun d=>cancelRow l d
def cells (l:List Qp) (d i:Nat):Option (List Qp):=(List.range' i (l.length - d - i)).findSome? fun i=>cancelAt l i (i+d)
theorem same_length:∀ {b a:List Qp},same a b=true→a.length=b.length
 | [],a,h=>by
   have:a.isEmpty=true:=h
   rw [List.isEmpty_iff] at this
   rw [this]
 | p :: b,a,h=>by
   have h':(match without a p with | some r=>same r b | none=>false)=true:=h
   cases hw:without a p with
   | none=>rw [hw] at h';cases h'
   | some r=>
     rw [hw] at h'
     have:=same_length h'
     rcases without_length hw with h1 | h1
     ·simp only [List.length_cons];omega
     ·unfold without at hw
      rw [h1] at hw
      cases hw
end Sq
set_option maxHeartbeats 8000000 in
set_option maxRecDepth 100000 in
theorem rmove_any (A:Option Addr) (n c i k:Nat) (l:List Qp) (w:World) {F:Nat→Prop} (h:Qs w F A l) (hn:l.length=n) (hc:n≤c) (hi:i < n) (hk:k < n) (hb:n≤100000000000) (hf:∀ q∈l,q.Tame):
 Calls Tryz.prog 27 #[.slice A n c,.int .i64 i,.int .i64 k] w (RMoved (Sq.move l i k) n w):=by
 have HX:=Lib.hid (fun W A' c' (j:Nat) (m:List Qp) (hq:Qs W (fun _=>True) A' m) (hm:m.length=n) (hj:j+1 < n) (hfm:∀ q∈m,q.Tame)=>rexch_any A' n c' j m W hq hm hj hb hfm)
 have HA:=Lib.hid h.wide
 have HF:=Lib.hid hf
 have HN:=Lib.hid hn
 have HR:Hid (Sq.move l i k=Sq.go k l i):=Lib.hid (Sq.move_go (by omega) (by omega))
 generalize Sq.move l i k=R at HR ⊢
 clear h hf hn
 have c1:((i:Int) < 0)=False:=eq_false (by omega)
 have c2:((n:Int)≤(i:Int))=False:=eq_false (by omega)
 have c3:((k:Int) < 0)=False:=eq_false (by omega)
 have c4:((n:Int)≤(k:Int))=False:=eq_false (by omega)
 go_enter Tryz.func27,Tryz.ntmps27
 have hx:=Ext.refl w
 go_wp2_with fail
 go_loopw [0,1] (fun u0 u1 wr=>∃ (j:Nat) (A':Option Addr) (c':Nat) (m:List Qp),u0=.slice A' n c'∧u1=.int .i64 j∧j < n∧n≤c'∧Ext w wr∧Hid (Qs wr (fun _=>True) A' m)∧Hid (m.length=n)∧Hid (∀ q∈m,q.Tame)∧Hid (R=Sq.go k m j)) (fun u0 u1 wr=>(k - (intOf u1).toNat)+((intOf u1).toNat - k))
 case atStart=>exact ⟨i,A,c,l,rfl,rfl,hi,hc,hx,HA,HN,HF,HR⟩
 case round=>
  clear HA HN HF HR hx hi hc c1 c2 c3 c4
  obtain ⟨j,A',c',m,rfl,rfl,hj,hc',hx,HA,HN,HF,HR⟩:=hrel
  rcases Nat.lt_trichotomy j k with hlt | heq | hgt
  ·have HS:=Lib.hid (fun W (hW:Ext wr W)=>HX.out W A' c' j m (HA.out.ext hW) HN.out (by omega) HF.out)
   have HR2:=Lib.hid (HR.out.trans (Sq.go_up hlt))
   have e1:((j:Int) == (k:Int))=false:=by rw [beq_eq_false_iff_ne];omega
   have e2:((j:Int)=(k:Int))=False:=eq_false (by omega)
   have e3:((k:Int) < (j:Int))=False:=eq_false (by omega)
   clear HR HA
   go_wp2_with fail
   refine (HS.out _ (Ext.refl _)).mono ?_
   rintro e w3 ⟨hres,hx3⟩
   have hy:=hx.trans hx3
   clear hx hx3 HS
   have hx:=hy
   clear hy
   rcases hres with ⟨hs,rfl⟩ | ⟨m2,A2,cc,hs,hcc,rfl,HQ⟩
   ·have HZ:Hid (R=none):=Lib.hid (by rw [HR2.out,hs];rfl)
    clear HR2 hs
    go_wp2_with fail
    refine bodyPost_ret (v:=.tuple #[.slice none 0 0,.bool false]) (by simp only [results,Tryz.results27];go_simp) rfl ?_
    exact ⟨.inl ⟨HZ.out,rfl⟩,hx⟩
   ·have HR3:Hid (R=Sq.go k m2 (j+1)):=Lib.hid (by rw [HR2.out,hs];rfl)
    have HN2:=Lib.hid ((Sq.swap_length hs).trans HN.out)
    have HF2:=Lib.hid (Sq.swap_all (fun q=>check_tame) (by rw [HN.out];omega) hs HF.out)
    have hj1:j+1 < n:=by omega
    clear HR2 hs HN HF
    go_wp2_with fail
    go_roundw
    case rel=>
     first
      | exact ⟨j+1,A2,cc,m2,rfl,rfl,hj1,hcc,hx,HQ,HN2,HF2,HR3⟩
      | ((repeat apply Exists.intro);exact ⟨⟨j+1,A2,cc,m2,rfl,rfl,hj1,hcc,hx,HQ,HN2,HF2,HR3⟩,rfl⟩)
    case measure=>simp [intOf];omega
  ·subst heq
   have HZ:Hid (R=some m):=Lib.hid (by rw [HR.out,Sq.go_self])
   clear HR HX
   go_wp2_with fail
   refine bodyPost_ret (v:=.tuple #[.slice A' n c',.bool true]) (by simp only [results,Tryz.results27];go_simp) rfl ?_
   exact ⟨.inr ⟨m,A',c',HZ.out,hc',rfl,HA⟩,hx⟩
  ·obtain ⟨j,rfl⟩:∃ t,j=t+1:=⟨j - 1,by omega⟩
   have HS:=Lib.hid (fun W (hW:Ext wr W)=>HX.out W A' c' j m (HA.out.ext hW) HN.out (by omega) HF.out)
   have HR2:=Lib.hid (HR.out.trans (Sq.go_down (by omega)))
   have e1:(((j:Int)+1) == (k:Int))=false:=by rw [beq_eq_false_iff_ne];omega
   have e2:(((j:Int)+1)=(k:Int))=False:=eq_false (by omega)
   have e3:((k:Int) < (j:Int)+1)=True:=eq_true (by omega)
   clear HR HA
   go_wp2_with fail
   refine (HS.out _ (Ext.refl _)).mono ?_
   rintro e w3 ⟨hres,hx3⟩
   have hy:=hx.trans hx3
   clear hx hx3 HS
   have hx:=hy
   clear hy
   rcases hres with ⟨hs,rfl⟩ | ⟨m2,A2,cc,hs,hcc,rfl,HQ⟩
   ·have HZ:Hid (R=none):=Lib.hid (by rw [HR2.out,hs];rfl)
    clear HR2 hs
    go_wp2_with fail
    refine bodyPost_ret (v:=.tuple #[.slice none 0 0,.bool false]) (by simp only [results,Tryz.results27];go_simp) rfl ?_
    exact ⟨.inl ⟨HZ.out,rfl⟩,hx⟩
   ·have HR3:Hid (R=Sq.go k m2 j):=Lib.hid (by rw [HR2.out,hs];rfl)
    have HN2:=Lib.hid ((Sq.swap_length hs).trans HN.out)
    have HF2:=Lib.hid (Sq.swap_all (fun q=>check_tame) (by rw [HN.out];omega) hs HF.out)
    have hj1:j < n:=by omega
    clear HR2 hs HN HF
    go_wp2_with fail
    go_roundw
    case rel=>
     first
      | exact ⟨j,A2,cc,m2,rfl,rfl,hj1,hcc,hx,HQ,HN2,HF2,HR3⟩
      | ((repeat apply Exists.intro);exact ⟨⟨j,A2,cc,m2,rfl,rfl,hj1,hcc,hx,HQ,HN2,HF2,HR3⟩,rfl⟩)
    case measure=>simp [intOf];omega
theorem rinv_q (p:Pv) (q:Qp) (w:World) {F:Nat→Prop} (h:Is w F p q) (t:q.Tame) (W:World) (hW:Ext w W):
 Calls Tryz.prog 59 #[p.v] W (fun e w'=>∃ P:Pv,e=.returned (.tuple #[P.v,.int .i64 q.check])∧(q.check=0→Is w F P q.inv)∧Ext W w'):=by
 have hck:∀ W,Ext w W→Calls Tryz.prog 69 #[p.v] W (Ret (.int .i64 q.check) W):=fun W hW=>rcheck_q p q W (h.ext hW) t.1.1 t.1.2.1 t.1.2.2.1 t.1.2.2.2 t.2.1 t.2.2
 obtain ⟨A1,c1,A2,c2,rfl,⟨s1,s2⟩,f1,f2⟩:=h
 by_cases hc:q.check=0
 ·rw [hc] at hck
  have h1:=rinv_any (q.pv A1 c1 A2 c2) W (check_parts hc).1 (fun W' hW'=>hck W' (hW.trans hW'))
  rw [rinv_pv hc] at h1
  refine h1.mono ?_
  rintro e w' ⟨rfl,hx⟩
  obtain ⟨e1,e2⟩:=inv_lines hc
  exact ⟨_,by rw [hc],fun _=>⟨A2,c2,A1,c1,rfl,⟨by rw [e1];exact s2,by rw [e2];exact s1⟩,by rw [e1];exact f2,by rw [e2];exact f1⟩,hx⟩
 ·refine (rinv_bad _ W q.check hc (fun W' hW'=>hck W' (hW.trans hW'))).mono ?_
  rintro e w' ⟨rfl,hx⟩
  exact ⟨_,rfl,fun h=>(hc h).elim,hx⟩
end Go.Proofs.YtlbhaimfjfdppaaGreatDoor
namespace Go.Proofs.YtlbhaimfjfdppaaGreatDoor
open Go Go.RowKit
attribute [local go_sem ↓] Go.wp_at_zero Go.wp_at_succ
section
variable {P:Program}
end
theorem Qs.low {w:World} {F:Nat→Prop} {A:Option Addr} {l:List Qp} (h:Qs w F A l) (k c:Nat) (hc:l.length≤c):Qs w F (if c=k then A else A.map (·.add (k * 12))) (l.drop k):=by
 by_cases e:c=k
 ·rw [List.drop_of_length_le (by omega)]
  exact Qs.nil _ _ _
 ·rw [if_neg e]
  by_cases h0:0 < l.length
  ·obtain ⟨b,o,rfl⟩:=h.some h0
   have e2:(Option.some (⟨b,o,Option.none⟩:Addr)).map (·.add (k * 12))=Option.some ⟨b,o+k * 12,Option.none⟩:=by simp [Addr.add]
   rw [e2]
   exact h.drop k
  ·rw [List.drop_of_length_le (by omega)]
   exact Qs.nil _ _ _
section
variable {P:Program} {Q:Exit→Act→World→Prop}
end
end Go.Proofs.YtlbhaimfjfdppaaGreatDoor
namespace Go.Proofs.YtlbhaimfjfdppaaGreatDoor
open Go Go.RowKit
attribute [local go_sem ↓] Go.wp_at_zero Go.wp_at_succ
def Sq.seek (m:List Qp) (p:Qp) (rest:List Qp) (n i:Nat):Bool:=match Sq.withoutFrom m p (n - i) i with
 | some r=>Sq.same r rest
 | none=>false
theorem Sq.seek_step {m rest:List Qp} {p:Qp} {n i:Nat} (h:i < n):Sq.seek m p rest n i=(match Sq.move m i 0 with
 | some k=>if (k.getD 0 Qp.zero).same p then Sq.same k.tail rest else Sq.seek m p rest n (i+1)
 | none=>Sq.seek m p rest n (i+1)):=by
 unfold Sq.seek
 rw [Sq.from_step h]
 cases Sq.move m i 0 with
 | none=>rfl
 | some k=>
   dsimp only
   by_cases hs:(k.getD 0 Qp.zero).same p=true
   ·rw [if_pos hs,if_pos hs]
   ·rw [if_neg hs,if_neg hs]
theorem Sq.seek_none {m rest:List Qp} {p:Qp} {n i:Nat} (h:n≤i):Sq.seek m p rest n i=false:=by
 unfold Sq.seek
 rw [show n - i=0 by omega]
 rfl
theorem Sq.same_seek {m rest:List Qp} {p:Qp}:Sq.same m (p :: rest)=Sq.seek m p rest m.length 0:=rfl
set_option maxHeartbeats 16000000 in
set_option maxRecDepth 100000 in
theorem rsame14_any (A B:Option Addr) (n c m d:Nat) (a b:List Qp) (w:World) {F G:Nat→Prop} (ha:Qs w F A a) (hb:Qs w G B b) (hn:a.length=n) (hm:b.length=m) (hc:n≤c) (hd:m≤d) (b1:n≤100000000000) (b2:m≤100000000000) (fa:∀ q∈a,q.Tame) (fb:∀ q∈b,q.Tame):
 Calls Tryz.prog 11 #[.slice A n c,.slice B m d] w (Ret (.bool (Sq.same a b)) w):=by
 by_cases hne:n=m
 rotate_left
 ·have hv:Sq.same a b=false:=by
   cases e:Sq.same a b
   ·rfl
   ·exact absurd (Sq.same_length e) (by omega)
  rw [hv]
  have e1:((n:Int) == (m:Int))=false:=by rw [beq_eq_false_iff_ne];omega
  have e2:((n:Int) != (m:Int))=true:=by rw [bne,e1];rfl
  clear hv ha hb hn hm fa fb
  go_enter Tryz.func11,Tryz.ntmps11
  have hx:=Ext.refl w
  go_wp2_with fail
  refine bodyPost_ret (v:=.bool false) (by simp only [results,Tryz.results11];go_simp) rfl ?_
  exact ⟨rfl,hx⟩
 subst hne
 have HA0:=Lib.hid ha.wide
 have HB0:=Lib.hid hb.wide
 have HN0:=Lib.hid hn
 have HM0:=Lib.hid hm
 have HFA0:=Lib.hid fa
 have HFB0:=Lib.hid fb
 have H0:Hid (Sq.same a b=Sq.same a b):=Lib.hid rfl
 generalize hR:Sq.same a b=R at H0 ⊢
 replace H0:Hid (R=Sq.same a b):=Lib.hid hR.symm
 clear ha hb hn hm fa fb hR
 go_enter Tryz.func11,Tryz.ntmps11
 have hx:=Ext.refl w
 go_wp2_with fail
 go_loopw [0,1] (fun u0 u1 wr=>∃ (A' B':Option Addr) (n' c' d':Nat) (l r:List Qp),u0=.slice A' n' c'∧u1=.slice B' n' d'∧n'≤n∧n'≤c'∧n'≤d'∧Ext w wr∧Hid (Qs wr (fun _=>True) A' l)∧Hid (Qs wr (fun _=>True) B' r)∧Hid (l.length=n')∧Hid (r.length=n')∧Hid (∀ q∈l,q.Tame)∧Hid (∀ q∈r,q.Tame)∧Hid (R=Sq.same l r)) (fun u0 u1 wr=>(match u1 with | .slice _ n _=>n | _=>0))
 case atStart=>exact ⟨A,B,n,c,d,a,b,rfl,rfl,Nat.le_refl _,hc,hd,hx,HA0,HB0,HN0,HM0,HFA0,HFB0,H0⟩
 case round=>
  clear HA0 HB0 HN0 HM0 HFA0 HFB0 H0 hx hc hd
  obtain ⟨A',B',n',c',d',l,r,rfl,rfl,hn',hc,hd,hx,HA,HB,HN,HM,HFA,HFB,HR⟩:=hrel
  by_cases hz:n'=0
  ·subst hz
   have HZ:Hid (R=true):=Lib.hid (by rw [HR.out,List.length_eq_zero_iff.1 HN.out,List.length_eq_zero_iff.1 HM.out];rfl)
   clear HA HB HN HM HFA HFB HR
   go_wp2_with fail
   refine bodyPost_ret (v:=.bool true) (by simp only [results,Tryz.results11];go_simp) rfl ?_
   exact ⟨by rw [HZ.out],hx⟩
  ·obtain ⟨p,rest,hr⟩:∃ p rest,r=p :: rest:=by
    cases r with
    | nil=>have:=HM.out;simp at this;omega
    | cons p rest=>exact ⟨p,rest,rfl⟩
   subst hr
   have e0:(p :: rest)[0]?=some p:=rfl
   obtain ⟨bb,oo,Pb,hB',hbl,hbc,hbi⟩:=HB.out.get e0
   subst hB'
   have tp:=HFB.out p (List.mem_cons_self ..)
   have HPC:=Lib.hid (fun W (hW:Ext wr W)=>range_ext hbc hbl hW)
   have HEQ:=Lib.hid (fun W (P:Pv) (y:Qp) (hW:Ext wr W) (hi:Is W (fun _=>True) P y) (ty:y.Tame)=>psame_any P Pb y p W hi (hbi.ext hW) ty.1.1 ty.1.2.1 tp.1.1 tp.1.2.1)
   have HR2:Hid (R=Sq.seek l p rest n' 0):=Lib.hid (by rw [HR.out,Sq.same_seek,HN.out])
   have HRL:Hid (rest.length=n' - 1):=Lib.hid (by have :=HM.out;rw [List.length_cons] at this;omega)
   have HRB:=Lib.hid (fun W (hW:Ext wr W)=>by have h:=(HB.out.ext hW).low 1 d' (by have :=HM.out;omega);rwa [List.drop_one,List.tail_cons] at h:∀ W,Ext wr W→Qs W (fun _=>True) (if d'=1 then Option.some ⟨bb,oo,none⟩ else (Option.some (⟨bb,oo,none⟩:Addr)).map (·.add (1 * 12))) rest)
   have HRT:Hid (∀ q∈rest,q.Tame):=Lib.hid (fun q hq=>HFB.out q (List.mem_cons_of_mem _ hq))
   have hx00:=Lib.hid hx
   have hn0:0 < n':=by omega
   clear HR HB HM HFB hbc hbl hbi tp e0
   have hx:=Ext.refl wr
   go_wp2_with fail
   go_loopw [0,5,6] (fun u0 u5 u6 wx=>∃ (i:Nat) (f:Bool) (A2:Option Addr) (n2 c2:Nat) (k:List Qp),u0=.slice A2 n2 c2∧u5=.bool f∧u6=.int .i64 i∧i≤n'∧n2≤n'∧n2≤c2∧Ext wr wx∧Hid (Qs wx (fun _=>True) A2 k)∧Hid (k.length=n2)∧Hid (∀ q∈k,q.Tame)∧Hid (f=false→n2=n'∧R=Sq.seek k p rest n' i)∧Hid (f=true→n2+1=n'∧R=Sq.same k rest)) (fun u0 u5 u6 wx=>n' - (intOf u6).toNat)
   case atStart=>exact ⟨0,false,A',n',c',l,rfl,rfl,rfl,Nat.zero_le _,Nat.le_refl _,hc,hx,HA,HN,HFA,Lib.hid (fun _=>⟨rfl,HR2.out⟩),Lib.hid (fun e=>nomatch e)⟩
   case round=>
    clear HA HN HFA HR2 hx hc
    obtain ⟨i,f,A2,n2,c2,k,rfl,rfl,rfl,hin,hn2,hc2,hx,HA,HN,HFA,HF,HT⟩:=hrel
    cases f
    rotate_left
    ·obtain ⟨hn3,hr3⟩:=HT.out rfl
     subst hn3
     have HR3:=Lib.hid hr3
     have HB3:=Lib.hid (HRB.out _ hx)
     have hx2:=hx00.out.trans hx
     clear HF HT hr3 HPC HEQ HRB hx
     have hx:=hx2
     clear hx2 hx00
     by_cases hi2:i < n2
     all_goals
      by_cases hd1:d'=1
      ·skip
       go_wp2_with fail
       go_roundw
       case rel=>
        have HB4:Hid (Qs wr (fun _=>True) (Option.some ⟨bb,oo,none⟩) rest):=Lib.hid (by have h:=HB3.out;simpa [hd1,Addr.add] using h)
        have HL4:Hid (rest.length=n2):=Lib.hid (by have h:=HRL.out;simpa using h)
        first
         | exact ⟨A2,_,n2,c2,_,k,rest,rfl,rfl,by omega,hc2,by omega,hx,HA,HB4,HN,HL4,HFA,HRT,HR3⟩
         | ((repeat apply Exists.intro);exact ⟨⟨A2,_,n2,c2,_,k,rest,rfl,rfl,by omega,hc2,by omega,hx,HA,HB4,HN,HL4,HFA,HRT,HR3⟩,rfl⟩)
       case measure=>simp
      ·skip
       go_wp2_with fail
       go_roundw
       case rel=>
        have HB4:Hid (Qs wr (fun _=>True) (Option.some ⟨bb,oo+12,none⟩) rest):=Lib.hid (by have h:=HB3.out;simpa [hd1,Addr.add] using h)
        have HL4:Hid (rest.length=n2):=Lib.hid (by have h:=HRL.out;simpa using h)
        first
         | exact ⟨A2,_,n2,c2,_,k,rest,rfl,rfl,by omega,hc2,by omega,hx,HA,HB4,HN,HL4,HFA,HRT,HR3⟩
         | ((repeat apply Exists.intro);exact ⟨⟨A2,_,n2,c2,_,k,rest,rfl,rfl,by omega,hc2,by omega,hx,HA,HB4,HN,HL4,HFA,HRT,HR3⟩,rfl⟩)
       case measure=>simp
    ·obtain ⟨hn3,hr3⟩:=HF.out rfl
     subst hn3
     have HR3:=Lib.hid hr3
     clear HF HT hr3
     by_cases hi2:i < n2
     rotate_left
     ·have HZ:Hid (R=false):=Lib.hid (by rw [HR3.out,Sq.seek_none (by omega)])
      have hx2:=hx00.out.trans hx
      clear HR3 HPC HEQ HRB hx
      have hx:=hx2
      clear hx2 hx00
      go_wp2_with fail
      refine bodyPost_ret (v:=.bool false) (by simp only [results,Tryz.results11];go_simp) rfl ?_
      exact ⟨by rw [HZ.out],hx⟩
     ·have HMV:=Lib.hid (fun W (hW:Ext wr W)=>rmove_any A2 n2 c2 i 0 k W (HA.out.ext hW) HN.out hc2 hi2 (by omega) (by omega) HFA.out)
      have HR4:Hid (R=(match Sq.move k i 0 with
       | some m=>if (m.getD 0 Qp.zero).same p then Sq.same m.tail rest else Sq.seek k p rest n2 (i+1)
       | none=>Sq.seek k p rest n2 (i+1))):=Lib.hid (HR3.out.trans (Sq.seek_step hi2))
      clear HR3
      go_wp2_with fail
      refine (HMV.out _ (Ext.refl _)).mono ?_
      rintro e w3 ⟨hres,hx3⟩
      have hy:=hx.trans hx3
      have HA3:=Lib.hid (HA.out.ext hx3)
      clear hx hx3 HMV HA
      have hx:=hy
      clear hy
      rcases hres with ⟨hs,rfl⟩ | ⟨m',Bm,cc,hs,hcc,rfl,HQ⟩
      ·have HR5:Hid (R=Sq.seek k p rest n2 (i+1)):=Lib.hid (by rw [HR4.out,hs])
       clear HR4 hs
       go_wp2_with fail
       refine wp_region_noPanic (wp_region_held_drew (S:=fun w'=>Ext w3 w') (by kernel_rfl) (Ext.refl w3).drew1 (fun hv=>?_))
       generalize w3.drew=v0 at hv ⊢
       refine tf (i:=0) (v:=.bool false) rfl rfl (fun _=>rfl) hv ?_
       try simp only [Act.put,sA,s0,sS]
       refine tf (i:=1) (v:=.bool false) rfl rfl (fun _=>rfl) hv ?_
       try simp only [Act.put,sA,s0,sS]
       refine tk (i:=2) rfl rfl hv ?_
       try simp only [Act.put,sA,s0,sS]
       refine tk (i:=3) rfl rfl hv ?_
       try simp only [Act.put,sA,s0,sS]
       refine tk (i:=4) rfl rfl hv ?_
       try simp only [Act.put,sA,s0,sS]
       refine tk (i:=5) rfl rfl hv ?_
       try simp only [Act.put,sA,s0,sS]
       refine tk (i:=6) rfl rfl hv ?_
       try simp only [Act.put,sA,s0,sS]
       refine tk (i:=7) rfl rfl hv ?_
       try simp only [Act.put,sA,s0,sS]
       refine tk (i:=8) rfl rfl hv ?_
       try simp only [Act.put,sA,s0,sS]
       refine tf (i:=9) (v:=.bool false) rfl rfl (fun _=>rfl) hv ?_
       try simp only [Act.put,sA,s0,sS]
       refine wpAnyH_done (by kernel_rfl) (NoPanic.normal ?_) _
       have hy:=hx.trans hv
       have HA4:=Lib.hid (HA3.out.ext hv)
       clear hx hv HA3
       have hx:=hy
       clear hy
       go_wp2_with fail
       go_roundw
       case rel=>first | exact ⟨i+1,false,A2,n2,c2,k,rfl,rfl,rfl,by omega,Nat.le_refl _,hc2,hx,HA4,HN,HFA,Lib.hid (fun _=>⟨rfl,HR5.out⟩),Lib.hid (fun e=>nomatch e)⟩ | ((repeat apply Exists.intro);exact ⟨⟨i+1,false,A2,n2,c2,k,rfl,rfl,rfl,by omega,Nat.le_refl _,hc2,hx,HA4,HN,HFA,Lib.hid (fun _=>⟨rfl,HR5.out⟩),Lib.hid (fun e=>nomatch e)⟩,rfl⟩)
       case measure=>simp [intOf];omega
      ·have hml:=(Sq.move_length hs).trans HN.out
       have hmt:=Sq.move_all (fun q=>check_tame) hs HFA.out
       have e0:m'[0]?=some (m'.getD 0 Qp.zero):=by rw [List.getD_eq_getElem?_getD,List.getElem?_eq_getElem (by omega)];rfl
       have HR5:Hid (R=if (m'.getD 0 Qp.zero).same p then Sq.same m'.tail rest else Sq.seek k p rest n2 (i+1)):=Lib.hid (by rw [HR4.out,hs])
       have ty:=hmt _ (List.mem_of_getElem? e0)
       have HMT:Hid (∀ q∈m'.tail,q.Tame):=Lib.hid (fun q hq=>hmt q (List.mem_of_mem_tail hq))
       have HML:Hid (m'.tail.length=n2 - 1):=Lib.hid (by rw [List.length_tail,hml])
       generalize m'.getD 0 Qp.zero=y at e0 ty HR5
       obtain ⟨g,o,P1,hA,hgl,ra0,ia⟩:=HQ.out.get e0
       subst hA
       have HC1:=Lib.hid (fun W (hW:Ext w3 W)=>range_ext ra0 hgl hW)
       have HES:=Lib.hid (fun W (hW:Ext w3 W)=>HEQ.out W P1 y (hx.trans hW) (ia.ext hW) ty)
       have HQT:=Lib.hid (fun W (hW:Ext w3 W)=>by have h:=(HQ.out.ext hW).low 1 cc (by omega);rwa [List.drop_one] at h:∀ W,Ext w3 W→Qs W (fun _=>True) (if cc=1 then Option.some ⟨g,o,none⟩ else (Option.some (⟨g,o,none⟩:Addr)).map (·.add (1 * 12))) m'.tail)
       generalize y.same p=s at HES HR5
       clear HR4 hs e0 ty ra0 ia hgl hml hmt HQ
       go_wp2_with fail
       refine wp_region_noPanic (wp_region_held_drew (S:=fun w'=>Ext w3 w') (by kernel_rfl) (Ext.refl w3).drew1 (fun hv=>?_))
       generalize w3.drew=v0 at hv ⊢
       refine tf (i:=0) (v:=.bool true) rfl rfl (fun _=>rfl) hv ?_
       try simp only [Act.put,sA,s0,sS]
       refine tf (i:=1) (v:=.bool true) rfl rfl (fun _=>rfl) hv ?_
       try simp only [Act.put,sA,s0,sS]
       refine tf (i:=2) (v:=.slice (some ⟨g,o,none⟩) n2 cc) rfl rfl (fun _=>rfl) hv ?_
       try simp only [Act.put,sA,s0,sS]
       refine ti (i:=3) g o n2 cc (0) rfl rfl rfl rfl rfl (by omega) Tryz.underlying22 hv ?_
       try simp only [Act.put,sA,s0,sS]
       refine tg (i:=4) (parr P1).toList rfl rfl rfl rfl Tryz.underlying42 rfl (fun _ h=>HC1.out _ h) hv ?_
       try simp only [Act.put,sA,s0,sS]
       refine tf (i:=5) (v:=.slice (some ⟨bb,oo,none⟩) n2 d') rfl rfl (fun _=>rfl) hv ?_
       try simp only [Act.put,sA,s0,sS]
       refine ti (i:=6) bb oo n2 d' (0) rfl rfl rfl rfl rfl (by omega) Tryz.underlying22 hv ?_
       try simp only [Act.put,sA,s0,sS]
       refine tg (i:=7) (parr Pb).toList rfl rfl rfl rfl Tryz.underlying42 rfl (fun _ h=>HPC.out _ (hx.trans h)) hv ?_
       try simp only [Act.put,sA,s0,sS]
       refine wpAnyH_one (i:=8) (by kernel_rfl) rfl (by kernel_rfl) ?_
       go_simp
       refine (HES.out _ hv).mono ?_
       rintro e v1 ⟨rfl,hx0⟩
       have hv2:=hv.trans hx0
       clear hv hx0
       have hv:=hv2
       clear hv2
       refine ⟨hv,?_⟩
       try simp only [Act.put,sA,s0,sS]
       cases s
       ·have HR6:Hid (R=Sq.seek k p rest n2 (i+1)):=Lib.hid (by rw [HR5.out,if_neg (by decide)])
        clear HR5 HES HQT HMT HML
        refine tf (i:=9) (v:=.bool false) rfl rfl (fun _=>rfl) hv ?_
        try simp only [Act.put,sA,s0,sS]
        refine wpAnyH_done (by kernel_rfl) (NoPanic.normal ?_) _
        have hy:=hx.trans hv
        have HA4:=Lib.hid (HA3.out.ext hv)
        clear hx hv HA3
        have hx:=hy
        clear hy
        go_wp2_with fail
        go_roundw
        case rel=>first | exact ⟨i+1,false,A2,n2,c2,k,rfl,rfl,rfl,by omega,Nat.le_refl _,hc2,hx,HA4,HN,HFA,Lib.hid (fun _=>⟨rfl,HR6.out⟩),Lib.hid (fun e=>nomatch e)⟩ | ((repeat apply Exists.intro);exact ⟨⟨i+1,false,A2,n2,c2,k,rfl,rfl,rfl,by omega,Nat.le_refl _,hc2,hx,HA4,HN,HFA,Lib.hid (fun _=>⟨rfl,HR6.out⟩),Lib.hid (fun e=>nomatch e)⟩,rfl⟩)
        case measure=>simp [intOf];omega
       ·have HR6:Hid (R=Sq.same m'.tail rest):=Lib.hid (by rw [HR5.out,if_pos rfl])
        clear HR5 HES
        refine tf (i:=9) (v:=.bool true) rfl rfl (fun _=>rfl) hv ?_
        try simp only [Act.put,sA,s0,sS]
        refine wpAnyH_done (by kernel_rfl) (NoPanic.normal ?_) _
        have hy:=hx.trans hv
        have HQ4:=Lib.hid (HQT.out _ hv)
        clear hx hv HA3 HQT
        have hx:=hy
        clear hy
        by_cases hd1:cc=1
        ·have HB4:Hid (Qs v1 (fun _=>True) (Option.some ⟨g,o,none⟩) m'.tail):=Lib.hid (by have h:=HQ4.out;simpa [hd1,Addr.add] using h)
         have z1:¬ ((n2:Int) < 1):=by omega
         go_wp2_with fail
         go_roundw
         case rel=>first | exact ⟨i+1,true,_,n2 - 1,_,m'.tail,rfl,rfl,rfl,by omega,by omega,by omega,hx,HB4,HML,HMT,Lib.hid (fun e=>nomatch e),Lib.hid (fun _=>⟨by omega,HR6.out⟩)⟩ | ((repeat apply Exists.intro);exact ⟨⟨i+1,true,_,n2 - 1,_,m'.tail,rfl,rfl,rfl,by omega,by omega,by omega,hx,HB4,HML,HMT,Lib.hid (fun e=>nomatch e),Lib.hid (fun _=>⟨by omega,HR6.out⟩)⟩,rfl⟩)
         case measure=>simp [intOf];omega
        ·have HB4:Hid (Qs v1 (fun _=>True) (Option.some ⟨g,o+12,none⟩) m'.tail):=Lib.hid (by have h:=HQ4.out;simpa [hd1,Addr.add] using h)
         have z1:¬ ((n2:Int) < 1):=by omega
         go_wp2_with fail
         go_roundw
         case rel=>first | exact ⟨i+1,true,_,n2 - 1,_,m'.tail,rfl,rfl,rfl,by omega,by omega,by omega,hx,HB4,HML,HMT,Lib.hid (fun e=>nomatch e),Lib.hid (fun _=>⟨by omega,HR6.out⟩)⟩ | ((repeat apply Exists.intro);exact ⟨⟨i+1,true,_,n2 - 1,_,m'.tail,rfl,rfl,rfl,by omega,by omega,by omega,hx,HB4,HML,HMT,Lib.hid (fun e=>nomatch e),Lib.hid (fun _=>⟨by omega,HR6.out⟩)⟩,rfl⟩)
         case measure=>simp [intOf];omega
end Go.Proofs.YtlbhaimfjfdppaaGreatDoor
