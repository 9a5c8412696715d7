import Derived.Test.YtfmgnaigcibcaaaGreatDoorTQe
import Derived.Test.YtfmgnaigcibcaaaGreatDoorTHeld
set_option linter.unusedSimpArgs false
set_option linter.unusedVariables false
namespace Go.Proofs.YtfmgnaigcibcaaaGreatDoor
open Go.RowKit
attribute [local go_sem ↓] Go.wp_at_zero Go.wp_at_succ
theorem Blk.grown {w w':World} {g b:Nat} {t:TypeId} {cs:Array Value} (h:Blk w g t cs) (hg:w.grownBy w' (some b)) (hne:g≠b):Blk w' g t cs:=
 (hg.block g h.lt (fun e=>hne (Option.some.inj e))).trans h
abbrev zcells:Array Value:=#[.int .i64 0,.string ⟨#[]⟩,.string ⟨#[]⟩,.int .i64 0,.int .i64 0,.slice none 0 0,.slice none 0 0,.int .i64 0,.string ⟨#[]⟩,.string ⟨#[]⟩,.int .i64 0,.int .i64 0]
def GivesTwo (F:Nat→Prop) (r:Qp × Qp × Bool) (w:World) (e:Ending) (w':World):Prop:=
 ∃ p p',e=.returned (.tuple #[p.v,p'.v,.bool r.2.2])∧Is w' (fun b=>F b∨w.heap.size≤b) p r.1∧Is w' (fun b=>F b∨w.heap.size≤b) p' r.2.1∧Ext w w'
theorem contents_same (a b c d:Qp):((Qp.contents a b c d).1.old=c.old∧(Qp.contents a b c d).1.new=c.new∧(Qp.contents a b c d).1.path=c.path∧(Qp.contents a b c d).1.to_=c.to_) ∧
 ((Qp.contents a b c d).2.1.old=d.old∧(Qp.contents a b c d).2.1.new=d.new∧(Qp.contents a b c d).2.1.path=d.path∧(Qp.contents a b c d).2.1.to_=d.to_):=by
 unfold Qp.contents
 repeat' split
 all_goals exact ⟨⟨rfl,rfl,rfl,rfl⟩,rfl,rfl,rfl,rfl⟩
theorem through_small (p q:Qp) (h1:p.path.size≤1048576) (h2:p.to_.size≤1048576) (h3:q.to_.size≤1048576):(Qp.through p q).1.path.size≤4194304∧(Qp.through p q).1.to_.size≤4194304:=by
 have h:=through_sizes p.bare q.bare
 have e1:(Qp.through p q).1.path=(Pv.through p.bare q.bare).1.path:=rfl
 have e2:(Qp.through p q).1.to_=(Pv.through p.bare q.bare).1.to_:=rfl
 rw [e1,e2]
 dsimp only at h
 omega
theorem through_small2 (p q:Qp) (h1:p.path.size≤1048576) (h2:p.to_.size≤1048576) (h3:q.to_.size≤4194304):(Qp.through p q).1.path.size≤16777216∧(Qp.through p q).1.to_.size≤16777216:=by
 have h:=through_sizes p.bare q.bare
 have e1:(Qp.through p q).1.path=(Pv.through p.bare q.bare).1.path:=rfl
 have e2:(Qp.through p q).1.to_=(Pv.through p.bare q.bare).1.to_:=rfl
 rw [e1,e2]
 dsimp only at h
 omega
abbrev parr (p:Pv):Array Value:=
 #[.int .i64 p.kind,.string p.path,.string p.to_,.int .i64 p.ty,.int .i64 p.at_,.slice p.A1 p.n1 p.c1,.slice p.A2 p.n2 p.c2,.int .i64 p.off,.string p.so,.string p.sn,.int .i64 p.om,.int .i64 p.nm]
theorem row24 (a b c d:Pv) (j:Nat) (hj:j < (parr c).toList.length):(xarr a b c d)[24+j]?=(parr c).toList[j]?:=by
 have h:j < 12:=hj
 match j,h with
 | 0,_ | 1,_ | 2,_ | 3,_ | 4,_ | 5,_ | 6,_ | 7,_ | 8,_ | 9,_ | 10,_ | 11,_=>rfl
theorem row36 (a b c d:Pv) (j:Nat) (hj:j < (parr d).toList.length):(xarr a b c d)[36+j]?=(parr d).toList[j]?:=by
 have h:j < 12:=hj
 match j,h with
 | 0,_ | 1,_ | 2,_ | 3,_ | 4,_ | 5,_ | 6,_ | 7,_ | 8,_ | 9,_ | 10,_ | 11,_=>rfl
set_option maxHeartbeats 16000000 in
set_option maxRecDepth 100000 in
theorem run_any (p p':Pv) (a b:Qp) (w:World) (hg:Glob w) {F:Nat→Prop} (ha:Is w F p a) (hb:Is w F p' b) (hca:a.check=0) (hcb:b.check=0):
 Calls Tryz.prog 61 #[p.v,p'.v] w (GivesTwo F (a.run b) w):=by
 have HA:=Lib.hid ha
 have HB:=Lib.hid hb
 have HG:=Lib.hid hg
 have HC:=Lib.hid (And.intro hca hcb)
 obtain ⟨A1,c1,A2,c2,rfl,_⟩:=ha
 obtain ⟨B1,d1,B2,d2,rfl,_⟩:=hb
 clear hg hca hcb
 rename_i fa fb
 have hx:=Ext.refl w
 obtain ⟨hca,hcb⟩:=HC.out
 have sa:=Qp.bounds hca
 have sb:=Qp.bounds hcb
 have si:=Qp.inv_bounds hca
 have na:=Qp.small hca
 have nb:=Qp.small hcb
 have HM:Hid (a.run b=Qp.runOf a b (Qp.through b a.inv) (Qp.through a (Qp.through b a.inv).1)):=Lib.hid rfl
 generalize a.run b=R at HM ⊢
 have hP:=fun W (hW:Ext w W) (hB:Blk W (w.heap.size+1+1+1+1) 128 (xarr (a.pv A1 c1 A2 c2) (b.pv B1 d1 B2 d2) Pv.zero Pv.zero))=>xpaths_any (a.pv A1 c1 A2 c2) (b.pv B1 d1 B2 d2) Pv.zero Pv.zero a _ W (HG.out.ext hW) (HA.out.ext hW) hca hB (by have :=sa.path;omega) (by have :=sa.to_;omega) (by have :=sb.path;dsimp only;omega) (by have :=sb.to_;dsimp only;omega) (by omega) (by omega) (by have :=sa.path;dsimp only;omega) (by have :=sa.to_;dsimp only;omega)
 have eP:Pv.xpaths (a.pv A1 c1 A2 c2) (b.pv B1 d1 B2 d2) Pv.zero a.inv=((Qp.through b a.inv).1.pv B1 d1 B2 d2,if (Qp.through b a.inv).2 then (Qp.through a (Qp.through b a.inv).1).1.pv A1 c1 A2 c2 else Pv.zero,(Qp.through b a.inv).2 && (Qp.through a (Qp.through b a.inv).1).2):=rfl
 rw [eP] at hP
 have sz:=through_small b a.inv (by have :=sb.path;omega) (by have :=sb.to_;omega) (by omega)
 have cpa:(Qp.through b a.inv).1.old=b.old∧(Qp.through b a.inv).1.new=b.new∧(Qp.through b a.inv).1.at_=b.at_:=⟨rfl,rfl,rfl⟩
 generalize Qp.through b a.inv=C at hP eP sz cpa HM
 have sz2:=through_small2 a C.1 (by have :=sa.path;omega) (by have :=sa.to_;omega) (by omega)
 have dpa:(Qp.through a C.1).1.old=a.old∧(Qp.through a C.1).1.new=a.new∧(Qp.through a C.1).1.at_=a.at_:=⟨rfl,rfl,rfl⟩
 generalize Qp.through a C.1=D at hP eP dpa HM sz2
 obtain ⟨C,k1⟩:=C
 obtain ⟨D,k2⟩:=D
 dsimp only at hP sz sz2 cpa dpa
 have HP:=Lib.hid hP
 clear hP eP
 have HM2:Hid (R=if (k1 && k2) && (Qp.free a b C D && (Qp.empty a b C && (Qp.moves a b && ((Qp.contents a b C D).2.2 && (decide ((Qp.contents a b C D).1.check=0) && decide ((Qp.contents a b C D).2.1.check=0)))))) then ((Qp.contents a b C D).1,(Qp.contents a b C D).2.1,true) else (Qp.zero,Qp.zero,false)):=HM
 clear HM
 have h3:∀ W,Blk W (w.heap.size+1+1+1+1) 128 (xarr (a.pv A1 c1 A2 c2) (b.pv B1 d1 B2 d2) (C.pv B1 d1 B2 d2) (D.pv A1 c1 A2 c2))→Calls Tryz.prog 93 #[.pointer (some ⟨(w.heap.size+1+1+1+1),0,none⟩)] W (Ret (.bool (Qp.free a b C D)) W):=fun W hB=>xfree_any (a.pv A1 c1 A2 c2) (b.pv B1 d1 B2 d2) (C.pv B1 d1 B2 d2) (D.pv A1 c1 A2 c2) _ W hB
 have h4:∀ W,Blk W (w.heap.size+1+1+1+1) 128 (xarr (a.pv A1 c1 A2 c2) (b.pv B1 d1 B2 d2) (C.pv B1 d1 B2 d2) (D.pv A1 c1 A2 c2))→Calls Tryz.prog 94 #[.pointer (some ⟨(w.heap.size+1+1+1+1),0,none⟩)] W (Ret (.bool (Qp.empty a b C)) W):=fun W hB=>xempty_any (a.pv A1 c1 A2 c2) (b.pv B1 d1 B2 d2) (C.pv B1 d1 B2 d2) (D.pv A1 c1 A2 c2) _ W hB (by dsimp only;omega)
 have h5:∀ W,Blk W (w.heap.size+1+1+1+1) 128 (xarr (a.pv A1 c1 A2 c2) (b.pv B1 d1 B2 d2) (C.pv B1 d1 B2 d2) (D.pv A1 c1 A2 c2))→Calls Tryz.prog 95 #[.pointer (some ⟨(w.heap.size+1+1+1+1),0,none⟩)] W (Ret (.bool (Qp.moves a b)) W):=fun W hB=>xmoves_any (a.pv A1 c1 A2 c2) (b.pv B1 d1 B2 d2) (C.pv B1 d1 B2 d2) (D.pv A1 c1 A2 c2) _ W hB
 have h6:∀ W,Blk W (w.heap.size+1+1+1+1) 128 (xarr (a.pv A1 c1 A2 c2) (b.pv B1 d1 B2 d2) (C.pv B1 d1 B2 d2) (D.pv A1 c1 A2 c2))→Calls Tryz.prog 96 #[.pointer (some ⟨(w.heap.size+1+1+1+1),0,none⟩)] W (XRet (w.heap.size+1+1+1+1) (a.pv A1 c1 A2 c2) (b.pv B1 d1 B2 d2) (Pv.xcontents (a.pv A1 c1 A2 c2) (b.pv B1 d1 B2 d2) (C.pv B1 d1 B2 d2) (D.pv A1 c1 A2 c2)).1 (Pv.xcontents (a.pv A1 c1 A2 c2) (b.pv B1 d1 B2 d2) (C.pv B1 d1 B2 d2) (D.pv A1 c1 A2 c2)).2.1 (Pv.xcontents (a.pv A1 c1 A2 c2) (b.pv B1 d1 B2 d2) (C.pv B1 d1 B2 d2) (D.pv A1 c1 A2 c2)).2.2 W):=
  fun W hB=>xcontents_any (a.pv A1 c1 A2 c2) (b.pv B1 d1 B2 d2) (C.pv B1 d1 B2 d2) (D.pv A1 c1 A2 c2) _ W hB sa.off0 sa.off1 sb.off0 sb.off1 sa.so sa.sn sb.so sb.sn ⟨by show a.old.length≤_;omega,by show a.new.length≤_;omega⟩ ⟨by show b.old.length≤_;omega,by show b.new.length≤_;omega⟩
 have hcp:=contents_pv a b C D A1 c1 A2 c2 B1 d1 B2 d2 cpa dpa
 have hcs:=contents_same a b C D
 generalize Qp.free a b C D=k3 at h3 HM2
 generalize Qp.empty a b C=k4 at h4 HM2
 generalize Qp.moves a b=k5 at h5 HM2
 generalize Pv.xcontents (a.pv A1 c1 A2 c2) (b.pv B1 d1 B2 d2) (C.pv B1 d1 B2 d2) (D.pv A1 c1 A2 c2)=Y at h6 hcp
 generalize Qp.contents a b C D=E at hcp hcs HM2
 obtain ⟨E1,E2,e6⟩:=E
 obtain ⟨Y1,Y2,k6⟩:=Y
 dsimp only at hcp hcs h6
 obtain ⟨hcp0,hcp1⟩:=hcp
 subst hcp0
 have ie1:Is w F (E1.pv B1 d1 B2 d2) E1:=by
  refine ⟨B1,d1,B2,d2,rfl,?_⟩
  rw [hcs.1.1,hcs.1.2.1,cpa.1,cpa.2.1]
  exact fb
 have ie2:Is w F (E2.pv A1 c1 A2 c2) E2:=by
  refine ⟨A1,c1,A2,c2,rfl,?_⟩
  rw [hcs.2.1,hcs.2.2.1,dpa.1,dpa.2.1]
  exact fa
 have q1:∀ W,Ext w W→Calls Tryz.prog 38 #[(E1.pv B1 d1 B2 d2).v] W (Ret (.int .i64 E1.check) W):=fun W hW=>check_q _ E1 W (HG.out.ext hW) (ie1.ext hW) (by rw [hcs.1.1,cpa.1];omega) (by rw [hcs.1.2.1,cpa.2.1];omega) (by rw [hcs.1.2.2.1];omega) (by rw [hcs.1.2.2.2];omega)
 have q2:∀ W,Ext w W→Calls Tryz.prog 38 #[(E2.pv A1 c1 A2 c2).v] W (Ret (.int .i64 E2.check) W):=fun W hW=>check_q _ E2 W (HG.out.ext hW) (ie2.ext hW) (by rw [hcs.2.1,dpa.1];omega) (by rw [hcs.2.2.1,dpa.2.1];omega) (by rw [hcs.2.2.2.1];omega) (by rw [hcs.2.2.2.2];omega)
 have H3:=Lib.hid h3
 have H4:=Lib.hid h4
 have H5:=Lib.hid h5
 have H6:=Lib.hid h6
 have Q1:=Lib.hid q1
 have Q2:=Lib.hid q2
 have I1:=Lib.hid ie1
 have I2:=Lib.hid ie2
 have HY:=Lib.hid hcp1
 have HM:Hid (R=if (k1 && k2) && (k3 && (k4 && (k5 && (k6 && (decide (E1.check=0) && decide (E2.check=0)))))) then (E1,E2,true) else (Qp.zero,Qp.zero,false)):=HM2
 clear HM2 h3 h4 h5 h6 q1 q2 ie1 ie2 hcp1 hcs cpa dpa sz sz2 sa sb si na nb hca hcb fa fb HA HB HG HC
 generalize hk:(k1 && k2)=k at HM
 have HK:Hid (k=true→k1=true):=Lib.hid (fun h=>by rw [h] at hk;exact (Bool.and_eq_true _ _ ▸ hk).1)
 rw [hk] at HP
 clear hx
 go_enter Tryz.func61,Tryz.ntmps61
 have hx:=Ext.refl w
 go_wp2_with fail
 refine wp_loop_rounds 6 ?_
 rw [rounds_succ]
 go_wp2_with fail
 refine (HP.out _ EX (Blk.alloc (Blk.new' (by simp)) _)).mono ?_
 rintro e w1 ⟨rfl,hb4,hg⟩
 have hx1:=grownBy_ext hg w EX (fun g hg=>by cases hg;omega)
 have hb2:Blk w1 (w.heap.size+1+1) 28 zcells:=Blk.grown (Blk.alloc (Blk.alloc (Blk.alloc (Blk.new' (by simp)) _) _) _) hg (by omega)
 have hb3:Blk w1 (w.heap.size+1+1+1) 28 zcells:=Blk.grown (Blk.alloc (Blk.alloc (Blk.new' (by simp)) _) _) hg (by omega)
 have hb5:=Blk.grown (g:=w.heap.size+1+1+1+1+1) (Blk.new' (by simp)) hg (by omega)
 clear hx hg
 have hx:=hx1
 clear hx1
 cases k
 ·have HZ:Hid (R=(Qp.zero,Qp.zero,false)):=Lib.hid (by rw [HM.out];simp)
  obtain ⟨hc2,hf2,hl2⟩:=hb2.all
  obtain ⟨hc3,hf3,hl3⟩:=hb3.all
  obtain ⟨hc4,hf4,hl4⟩:=hb4.all
  have hc5:=hb5.cell
  have hl5:=hb5.lt
  clear HM
  go_wp2_with fail
  refine bodyPost_ret (v:=.tuple #[(Qp.zero.pv none 0 none 0).v,(Qp.zero.pv none 0 none 0).v,.bool false]) ?_ rfl ?_
  ·simp only [results,Tryz.results61]
   go_simp
   simp [Qp.zero]
  ·rw [HZ.out]
   exact ⟨_,_,rfl,Is.none _ _ Qp.zero rfl rfl,Is.none _ _ Qp.zero rfl rfl,EX⟩
 rw [if_pos (HK.out rfl)] at hb4
 clear HP hk HK
 obtain ⟨hc2,hf2,hl2⟩:=hb2.all
 obtain ⟨hc3,hf3,hl3⟩:=hb3.all
 obtain ⟨hc4,hf4,hl4⟩:=hb4.all
 have hc5:=hb5.cell
 have hl5:=hb5.lt
 go_wp2_with fail
 rw [rounds_succ]
 go_wp2_with fail
 clear hc2 hf2 hl2 hc3 hf3 hl3 hc4 hf4 hl4 hc5 hl5
 refine (H3.out _ hb4).mono ?_
 rintro e w1 ⟨rfl,hx0⟩
 have hx1:=Ext.trans hx hx0
 replace hb2:=hb2.ext hx0
 replace hb3:=hb3.ext hx0
 replace hb4:=hb4.ext hx0
 replace hb5:=hb5.ext hx0
 clear hx hx0
 have hx:=hx1
 clear hx1
 cases k3
 ·have HZ:Hid (R=(Qp.zero,Qp.zero,false)):=Lib.hid (by rw [HM.out];simp)
  obtain ⟨hc2,hf2,hl2⟩:=hb2.all
  obtain ⟨hc3,hf3,hl3⟩:=hb3.all
  obtain ⟨hc4,hf4,hl4⟩:=hb4.all
  have hc5:=hb5.cell
  have hl5:=hb5.lt
  clear HM
  go_wp2_with fail
  refine bodyPost_ret (v:=.tuple #[(Qp.zero.pv none 0 none 0).v,(Qp.zero.pv none 0 none 0).v,.bool false]) ?_ rfl ?_
  ·simp only [results,Tryz.results61]
   go_simp
   simp [Qp.zero]
  ·rw [HZ.out]
   exact ⟨_,_,rfl,Is.none _ _ Qp.zero rfl rfl,Is.none _ _ Qp.zero rfl rfl,EX⟩
 clear H3
 obtain ⟨hc2,hf2,hl2⟩:=hb2.all
 obtain ⟨hc3,hf3,hl3⟩:=hb3.all
 obtain ⟨hc4,hf4,hl4⟩:=hb4.all
 have hc5:=hb5.cell
 have hl5:=hb5.lt
 go_wp2_with fail
 rw [rounds_succ]
 go_wp2_with fail
 clear hc2 hf2 hl2 hc3 hf3 hl3 hc4 hf4 hl4 hc5 hl5
 refine (H4.out _ hb4).mono ?_
 rintro e w1 ⟨rfl,hx0⟩
 have hx1:=Ext.trans hx hx0
 replace hb2:=hb2.ext hx0
 replace hb3:=hb3.ext hx0
 replace hb4:=hb4.ext hx0
 replace hb5:=hb5.ext hx0
 clear hx hx0
 have hx:=hx1
 clear hx1
 cases k4
 ·have HZ:Hid (R=(Qp.zero,Qp.zero,false)):=Lib.hid (by rw [HM.out];simp)
  obtain ⟨hc2,hf2,hl2⟩:=hb2.all
  obtain ⟨hc3,hf3,hl3⟩:=hb3.all
  obtain ⟨hc4,hf4,hl4⟩:=hb4.all
  have hc5:=hb5.cell
  have hl5:=hb5.lt
  clear HM
  go_wp2_with fail
  refine bodyPost_ret (v:=.tuple #[(Qp.zero.pv none 0 none 0).v,(Qp.zero.pv none 0 none 0).v,.bool false]) ?_ rfl ?_
  ·simp only [results,Tryz.results61]
   go_simp
   simp [Qp.zero]
  ·rw [HZ.out]
   exact ⟨_,_,rfl,Is.none _ _ Qp.zero rfl rfl,Is.none _ _ Qp.zero rfl rfl,EX⟩
 clear H4
 obtain ⟨hc2,hf2,hl2⟩:=hb2.all
 obtain ⟨hc3,hf3,hl3⟩:=hb3.all
 obtain ⟨hc4,hf4,hl4⟩:=hb4.all
 have hc5:=hb5.cell
 have hl5:=hb5.lt
 go_wp2_with fail
 rw [rounds_succ]
 go_wp2_with fail
 clear hc2 hf2 hl2 hc3 hf3 hl3 hc4 hf4 hl4 hc5 hl5
 refine (H5.out _ hb4).mono ?_
 rintro e w1 ⟨rfl,hx0⟩
 have hx1:=Ext.trans hx hx0
 replace hb2:=hb2.ext hx0
 replace hb3:=hb3.ext hx0
 replace hb4:=hb4.ext hx0
 replace hb5:=hb5.ext hx0
 clear hx hx0
 have hx:=hx1
 clear hx1
 cases k5
 ·have HZ:Hid (R=(Qp.zero,Qp.zero,false)):=Lib.hid (by rw [HM.out];simp)
  obtain ⟨hc2,hf2,hl2⟩:=hb2.all
  obtain ⟨hc3,hf3,hl3⟩:=hb3.all
  obtain ⟨hc4,hf4,hl4⟩:=hb4.all
  have hc5:=hb5.cell
  have hl5:=hb5.lt
  clear HM
  go_wp2_with fail
  refine bodyPost_ret (v:=.tuple #[(Qp.zero.pv none 0 none 0).v,(Qp.zero.pv none 0 none 0).v,.bool false]) ?_ rfl ?_
  ·simp only [results,Tryz.results61]
   go_simp
   simp [Qp.zero]
  ·rw [HZ.out]
   exact ⟨_,_,rfl,Is.none _ _ Qp.zero rfl rfl,Is.none _ _ Qp.zero rfl rfl,EX⟩
 clear H5
 obtain ⟨hc2,hf2,hl2⟩:=hb2.all
 obtain ⟨hc3,hf3,hl3⟩:=hb3.all
 obtain ⟨hc4,hf4,hl4⟩:=hb4.all
 have hc5:=hb5.cell
 have hl5:=hb5.lt
 go_wp2_with fail
 rw [rounds_succ]
 go_wp2_with fail
 clear hc2 hf2 hl2 hc3 hf3 hl3 hc4 hf4 hl4 hc5 hl5
 refine (H6.out _ hb4).mono ?_
 rintro e w1 ⟨rfl,hb4,hg⟩
 have hx1:=grownBy_ext hg w hx (fun g hg=>by cases hg;omega)
 replace hb2:=Blk.grown hb2 hg (by omega)
 replace hb3:=Blk.grown hb3 hg (by omega)
 replace hb5:=Blk.grown hb5 hg (by omega)
 clear hx hg
 have hx:=hx1
 clear hx1
 cases k6
 ·have HZ:Hid (R=(Qp.zero,Qp.zero,false)):=Lib.hid (by rw [HM.out];simp)
  obtain ⟨hc2,hf2,hl2⟩:=hb2.all
  obtain ⟨hc3,hf3,hl3⟩:=hb3.all
  obtain ⟨hc4,hf4,hl4⟩:=hb4.all
  have hc5:=hb5.cell
  have hl5:=hb5.lt
  clear HM
  go_wp2_with fail
  refine bodyPost_ret (v:=.tuple #[(Qp.zero.pv none 0 none 0).v,(Qp.zero.pv none 0 none 0).v,.bool false]) ?_ rfl ?_
  ·simp only [results,Tryz.results61]
   go_simp
   simp [Qp.zero]
  ·rw [HZ.out]
   exact ⟨_,_,rfl,Is.none _ _ Qp.zero rfl rfl,Is.none _ _ Qp.zero rfl rfl,EX⟩
 clear H6
 rw [(HY.out rfl).1,(HY.out rfl).2] at hb4
 obtain ⟨hc2,hf2,hl2⟩:=hb2.all
 obtain ⟨hc3,hf3,hl3⟩:=hb3.all
 obtain ⟨hc4,hf4,hl4⟩:=hb4.all
 have hc5:=hb5.cell
 have hl5:=hb5.lt
 go_wp2_with fail
 rw [rounds_succ]
 go_wp2_with fail
 clear hc2 hf2 hl2 hc3 hf3 hl3 hc4 hf4 hl4 hc5 hl5
 refine (Q1.out _ hx).mono ?_
 rintro e w1 ⟨rfl,hx0⟩
 have hx1:=Ext.trans hx hx0
 replace hb2:=hb2.ext hx0
 replace hb3:=hb3.ext hx0
 replace hb4:=hb4.ext hx0
 replace hb5:=hb5.ext hx0
 clear hx hx0
 have hx:=hx1
 clear hx1
 by_cases z1:E1.check=0
 rotate_left
 ·have HZ:Hid (R=(Qp.zero,Qp.zero,false)):=Lib.hid (by rw [HM.out];simp [z1])
  have z1':(E1.check != 0)=true:=by simpa using z1
  clear z1 HM HY
  obtain ⟨hc2,hf2,hl2⟩:=hb2.all
  obtain ⟨hc3,hf3,hl3⟩:=hb3.all
  obtain ⟨hc4,hf4,hl4⟩:=hb4.all
  have hc5:=hb5.cell
  have hl5:=hb5.lt
  go_wp2_with fail
  refine bodyPost_ret (v:=.tuple #[(Qp.zero.pv none 0 none 0).v,(Qp.zero.pv none 0 none 0).v,.bool false]) ?_ rfl ?_
  ·simp only [results,Tryz.results61]
   go_simp
   simp [Qp.zero]
  ·rw [HZ.out]
   exact ⟨_,_,rfl,Is.none _ _ Qp.zero rfl rfl,Is.none _ _ Qp.zero rfl rfl,EX⟩
 have Z1:=Lib.hid z1
 rw [Z1.out]
 clear z1
 obtain ⟨hc2,hf2,hl2⟩:=hb2.all
 obtain ⟨hc3,hf3,hl3⟩:=hb3.all
 obtain ⟨hc4,hf4,hl4⟩:=hb4.all
 have hc5:=hb5.cell
 have hl5:=hb5.lt
 go_wp2_with fail
 clear hc2 hf2 hl2 hc3 hf3 hl3 hc4 hf4 hl4 hc5 hl5
 refine (Q2.out _ hx).mono ?_
 rintro e w1 ⟨rfl,hx0⟩
 have hx1:=Ext.trans hx hx0
 replace hb2:=hb2.ext hx0
 replace hb3:=hb3.ext hx0
 replace hb4:=hb4.ext hx0
 replace hb5:=hb5.ext hx0
 clear hx hx0
 have hx:=hx1
 clear hx1
 by_cases z2:E2.check=0
 rotate_left
 ·have HZ:Hid (R=(Qp.zero,Qp.zero,false)):=Lib.hid (by rw [HM.out];simp [z2])
  have z2':(E2.check != 0)=true:=by simpa using z2
  clear z2 HM HY
  obtain ⟨hc2,hf2,hl2⟩:=hb2.all
  obtain ⟨hc3,hf3,hl3⟩:=hb3.all
  obtain ⟨hc4,hf4,hl4⟩:=hb4.all
  have hc5:=hb5.cell
  have hl5:=hb5.lt
  go_wp2_with fail
  refine bodyPost_ret (v:=.tuple #[(Qp.zero.pv none 0 none 0).v,(Qp.zero.pv none 0 none 0).v,.bool false]) ?_ rfl ?_
  ·simp only [results,Tryz.results61]
   go_simp
   simp [Qp.zero]
  ·rw [HZ.out]
   exact ⟨_,_,rfl,Is.none _ _ Qp.zero rfl rfl,Is.none _ _ Qp.zero rfl rfl,EX⟩
 have HZ:Hid (R=(E1,E2,true)):=Lib.hid (by rw [HM.out];simp [z2,Z1.out])
 have Z2:=Lib.hid z2
 rw [Z2.out]
 clear z2 HM HY Q1 Q2
 obtain ⟨hc2,hf2,hl2⟩:=hb2.all
 obtain ⟨hc3,hf3,hl3⟩:=hb3.all
 obtain ⟨hc4,hf4,hl4⟩:=hb4.all
 have hc5:=hb5.cell
 have hl5:=hb5.lt
 go_wp2_with fail
 clear hc2 hf2 hl2 hc3 hf3 hl3 hc4 hf4 hl4 hc5 hl5
 have hcX:=hb4.cell
 refine wp_region_noPanic (wp_region_held_drew (S:=fun w'=>w'.rangeAt (w.heap.size+1+1+1+1) 24 (parr (E1.pv B1 d1 B2 d2)).toList∧w'.rangeAt (w.heap.size+1+1+1+1) 36 (parr (E2.pv A1 c1 A2 c2)).toList) (by kernel_rfl) ⟨hb4.drew.range 24 _ (fun j hj=>row24 _ _ _ _ j hj),hb4.drew.range 36 _ (fun j hj=>row36 _ _ _ _ j hj)⟩ (fun hH=>?_))
 refine take_any (i:=0) (v:=?takenV0) rfl rfl (by kernel_rfl) (by kernel_rfl) (by kernel_rfl) (Or.inl ⟨by rfl,?takenY0⟩) hH ?takenR0
 case takenY0=>
  intro W hW
  go_simp
  all_goals with_reducible rfl
 simp only [Act.put,sA,s0,sS]
 refine take_any (i:=1) (v:=?takenV1) rfl rfl (by kernel_rfl) (by kernel_rfl) (by kernel_rfl) (Or.inl ⟨by rfl,?takenY1⟩) hH ?takenR1
 case takenY1=>
  intro W hW
  go_simp
  all_goals with_reducible rfl
 simp only [Act.put,sA,s0,sS]
 refine take_any (i:=2) (v:=?takenV2) rfl rfl (by kernel_rfl) (by kernel_rfl) (by kernel_rfl) (Or.inl ⟨by rfl,?takenY2⟩) hH ?takenR2
 case takenY2=>
  intro W hW
  go_simp
  all_goals with_reducible rfl
 simp only [Act.put,sA,s0,sS]
 refine tl (i:=3) (parr (E1.pv B1 d1 B2 d2)).toList rfl rfl rfl rfl rfl Tryz.underlying28 rfl (fun _ h=>h.1) hH ?_
 simp only [Act.put,sA,s0,sS]
 refine take_any (i:=4) (v:=?takenV4) rfl rfl (by kernel_rfl) (by kernel_rfl) (by kernel_rfl) (Or.inl ⟨by rfl,?takenY4⟩) hH ?takenR4
 case takenY4=>
  intro W hW
  go_simp
  all_goals with_reducible rfl
 simp only [Act.put,sA,s0,sS]
 refine take_any (i:=5) (v:=?takenV5) rfl rfl (by kernel_rfl) (by kernel_rfl) (by kernel_rfl) (Or.inl ⟨by rfl,?takenY5⟩) hH ?takenR5
 case takenY5=>
  intro W hW
  go_simp
  all_goals with_reducible rfl
 simp only [Act.put,sA,s0,sS]
 refine take_any (i:=6) (v:=?takenV6) rfl rfl (by kernel_rfl) (by kernel_rfl) (by kernel_rfl) (Or.inl ⟨by rfl,?takenY6⟩) hH ?takenR6
 case takenY6=>
  intro W hW
  go_simp
  all_goals with_reducible rfl
 simp only [Act.put,sA,s0,sS]
 refine tl (i:=7) (parr (E2.pv A1 c1 A2 c2)).toList rfl rfl rfl rfl rfl Tryz.underlying28 rfl (fun _ h=>h.2) hH ?_
 simp only [Act.put,sA,s0,sS]
 refine two_stores (n:=8) (v1:=parr (E1.pv B1 d1 B2 d2)) (v2:=parr (E2.pv A1 c1 A2 c2)) (by kernel_rfl) (by kernel_rfl) (by kernel_rfl) (by kernel_rfl) rfl rfl rfl rfl rfl rfl rfl rfl rfl rfl rfl rfl rfl rfl rfl rfl rfl hb2.drew hb3.drew rfl rfl (by omega) (by kernel_rfl) (by kernel_rfl) (by first | rfl | simp [Value.oneCell']) (by first | rfl | simp [Value.oneCell']) ⟨World.rangeAt_setCells_apart hH.1 _ _ _ (.inl (by omega)),World.rangeAt_setCells_apart hH.2 _ _ _ (.inl (by omega))⟩
  ⟨World.rangeAt_setCells_apart (World.rangeAt_setCells_apart hH.1 _ _ _ (.inl (by omega))) _ _ _ (.inl (by omega)),World.rangeAt_setCells_apart (World.rangeAt_setCells_apart hH.2 _ _ _ (.inl (by omega))) _ _ _ (.inl (by omega))⟩ (fun W g2 g3 hst=>NoPanic.normal ?_) _
 have hy:=hst.ext w hx.drew1 (by omega) (by omega)
 have j1:=hst.keeps _ _ _ (I1.out.in.ext hx.drew1) (fun h=>by omega) (fun h=>by omega)
 have j2:=hst.keeps _ _ _ (I2.out.in.ext hx.drew1) (fun h=>by omega) (fun h=>by omega)
 clear hst hH hb2 hb3 hb4 hb5 hx hcX
 obtain ⟨hc2,hf2,hl2⟩:=g2.all
 obtain ⟨hc3,hf3,hl3⟩:=g3.all
 simp only [Act.put,sA,s0,sS]
 go_wp2_with fail
 refine bodyPost_ret (v:=.tuple #[(E1.pv B1 d1 B2 d2).v,(E2.pv A1 c1 A2 c2).v,.bool true]) ?_ rfl ?_
 ·simp only [results,Tryz.results61]
  go_simp
 ·rw [HZ.out]
  exact ⟨_,_,rfl,Is.mono j1 (fun b hb=>.inl hb.1),Is.mono j2 (fun b hb=>.inl hb.1),hy⟩
end Go.Proofs.YtfmgnaigcibcaaaGreatDoor
