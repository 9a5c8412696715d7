import Derived.Test.YtfmgnaigcibcaaaGreatDoorTQb
import Derived.Test.YtfmgnaigcibcaaaGreatDoorTYj
import Derived.Test.YtfmgnaigcibcaaaGreatDoorTW
set_option linter.unusedSimpArgs false
set_option linter.unusedVariables false
namespace Go.Proofs.YtfmgnaigcibcaaaGreatDoor
open Go.RowKit
attribute [local go_sem ↓] Go.wp_at_zero Go.wp_at_succ
theorem bytes_ne {x y:ByteArray} (h:x≠y):(x.toList == y.toList)=false:=by
 cases e:(x.toList == y.toList)
 ·rfl
 ·exact (h (Qm.eqB_iff.1 (show Qm.eqB x y=true from e))).elim
set_option maxHeartbeats 4000000 in
set_option maxRecDepth 100000 in
theorem hsame_any (g g':Nat) (t t':TypeId) (p p':Pv) (o n o' n':List ByteArray) (w:World) (hb:Blk w g t (harr p)) (hb2:Blk w g' t' (harr p'))
 (h1:Lst w p.A1 p.n1 o) (h2:Lst w p.A2 p.n2 n) (h3:Lst w p'.A1 p'.n1 o') (h4:Lst w p'.A2 p'.n2 n') (b1:p.n1≤1152921504606846976) (b2:p.n2≤1152921504606846976) (b3:p'.n1≤1152921504606846976) (b4:p'.n2≤1152921504606846976):
 Calls Tryz.prog 57 #[.slice (some ⟨g,0,none⟩) 1 1,.slice (some ⟨g',0,none⟩) 1 1] w (Ret (.bool (p.at_ == p'.at_ && (decide (o=o') && decide (n=n')))) w):=by
 have q1:∀ W,Ext w W→Calls Tryz.prog 91 #[.slice p.A1 p.n1 p.c1,.slice p'.A1 p'.n1 p'.c1] W (Ret (.bool (decide (o=o'))) W):=fun W hW=>rsame_any _ _ _ _ _ _ o o' W (h1.ext hW) (h3.ext hW) b1 b3
 have q2:∀ W,Ext w W→Calls Tryz.prog 91 #[.slice p.A2 p.n2 p.c2,.slice p'.A2 p'.n2 p'.c2] W (Ret (.bool (decide (n=n'))) W):=fun W hW=>rsame_any _ _ _ _ _ _ n n' W (h2.ext hW) (h4.ext hW) b2 b4
 generalize decide (o=o')=x1 at q1 ⊢
 generalize decide (n=n')=x2 at q2 ⊢
 have Q1:=Lib.hid q1
 have Q2:=Lib.hid q2
 have hcb0:∀ W,Ext w W→∀ i,W.cell? ⟨g,i,none⟩=(#[.int .i64 p.at_,.slice p.A1 p.n1 p.c1,.slice p.A2 p.n2 p.c2]:Array Value)[i]?:=fun W hW=>(hb.ext hW).cell
 have hcb1:∀ W,Ext w W→∀ i,W.cell? ⟨g',i,none⟩=(#[.int .i64 p'.at_,.slice p'.A1 p'.n1 p'.c1,.slice p'.A2 p'.n2 p'.c2]:Array Value)[i]?:=fun W hW i=>(hb2.ext hW).cell i
 generalize p.at_=k1 at hcb0 ⊢
 generalize p'.at_=k2 at hcb1 ⊢
 have HC0:=Lib.hid hcb0
 have HC1:=Lib.hid hcb1
 clear q1 q2 h1 h2 h3 h4 hcb0 hcb1 hb hb2
 by_cases hk:k1=k2
 rotate_left
 ·have hv:(k1 == k2 && (x1 && x2))=false:=by simp [hk]
  have hk1:(k1 == k2)=false:=by simp [hk]
  have hk2:(k1 != k2)=true:=by simp [hk]
  rw [hv]
  clear hv hk
  go_enter Tryz.func57,Tryz.ntmps57
  have hx:=Ext.refl w
  have hc0:=HC0.out w hx
  have hc1:=HC1.out w hx
  go_wp2_with fail
  refine wp_loop_rounds 2 ?_
  rw [rounds_succ]
  go_wp2_with fail
  refine wp_region_ext (by kernel_rfl) (by kernel_rfl) ?_
  clear hc0 hc1
  repeat (first | go_big_quiet_skip | (go_big_quiet_want;first | (go_big_quiet_op;go_big_quiet_on) | (apply quiet_at;intro W hW;have hc0:=HC0.out W hW;have hc1:=HC1.out W hW;go_simp;(first | exact rfl | (simp only [Oper.quietUpon,true_and];first | exact rfl | ((first | (go_at_call 91;first | with_reducible exact quiet_call hW (Q1.out _ hW) (fun _ _ h=>Ret.bcell h) | with_reducible exact quiet_call hW (Q2.out _ hW) (fun _ _ h=>Ret.bcell h))))) | ((first | (go_at_call 91;first | with_reducible exact quiet_call hW (Q1.out _ hW) (fun _ _ h=>Ret.bcell h) | with_reducible exact quiet_call hW (Q2.out _ hW) (fun _ _ h=>Ret.bcell h)))));go_big_quiet_on;simp only [Act.put,sA,s0,sS])))
  refine wpQuiet_nil ?_
  intro w1 hx0
  clear hx
  have hx:=hx0
  clear hx0
  have hc0:=HC0.out w1 hx
  have hc1:=HC1.out w1 hx
  go_wp2_with fail
  (go_ret;refine Ret.mk ?_ ?_;(focus (rfl;done));(focus (exact EX;done)))
 subst hk
 rw [beq_self_eq_true,Bool.true_and]
 cases x1
 ·rw [Bool.false_and]
  go_enter Tryz.func57,Tryz.ntmps57
  have hx:=Ext.refl w
  have hc0:=HC0.out w hx
  have hc1:=HC1.out w hx
  go_wp2_with fail
  refine wp_loop_rounds 2 ?_
  rw [rounds_succ]
  go_wp2_with fail
  refine wp_region_ext (by kernel_rfl) (by kernel_rfl) ?_
  clear hc0 hc1
  repeat (first | go_big_quiet_skip | (go_big_quiet_want;first | (go_big_quiet_op;go_big_quiet_on) | (apply quiet_at;intro W hW;have hc0:=HC0.out W hW;have hc1:=HC1.out W hW;go_simp;(first | exact rfl | (simp only [Oper.quietUpon,true_and];first | exact rfl | ((first | (go_at_call 91;first | with_reducible exact quiet_call hW (Q1.out _ hW) (fun _ _ h=>Ret.bcell h) | with_reducible exact quiet_call hW (Q2.out _ hW) (fun _ _ h=>Ret.bcell h))))) | ((first | (go_at_call 91;first | with_reducible exact quiet_call hW (Q1.out _ hW) (fun _ _ h=>Ret.bcell h) | with_reducible exact quiet_call hW (Q2.out _ hW) (fun _ _ h=>Ret.bcell h)))));go_big_quiet_on;simp only [Act.put,sA,s0,sS])))
  refine wpQuiet_nil ?_
  intro w1 hx0
  clear hx
  have hx:=hx0
  clear hx0
  have hc0:=HC0.out w1 hx
  have hc1:=HC1.out w1 hx
  go_wp2_with fail
  (go_ret;refine Ret.mk ?_ ?_;(focus (rfl;done));(focus (exact EX;done)))
 rw [Bool.true_and]
 cases x2
 ·skip
  go_enter Tryz.func57,Tryz.ntmps57
  have hx:=Ext.refl w
  have hc0:=HC0.out w hx
  have hc1:=HC1.out w hx
  go_wp2_with fail
  refine wp_loop_rounds 2 ?_
  rw [rounds_succ]
  go_wp2_with fail
  refine wp_region_ext (by kernel_rfl) (by kernel_rfl) ?_
  clear hc0 hc1
  repeat (first | go_big_quiet_skip | (go_big_quiet_want;first | (go_big_quiet_op;go_big_quiet_on) | (apply quiet_at;intro W hW;have hc0:=HC0.out W hW;have hc1:=HC1.out W hW;go_simp;(first | exact rfl | (simp only [Oper.quietUpon,true_and];first | exact rfl | ((first | (go_at_call 91;first | with_reducible exact quiet_call hW (Q1.out _ hW) (fun _ _ h=>Ret.bcell h) | with_reducible exact quiet_call hW (Q2.out _ hW) (fun _ _ h=>Ret.bcell h))))) | ((first | (go_at_call 91;first | with_reducible exact quiet_call hW (Q1.out _ hW) (fun _ _ h=>Ret.bcell h) | with_reducible exact quiet_call hW (Q2.out _ hW) (fun _ _ h=>Ret.bcell h)))));go_big_quiet_on;simp only [Act.put,sA,s0,sS])))
  refine wpQuiet_nil ?_
  intro w1 hx0
  clear hx
  have hx:=hx0
  clear hx0
  have hc0:=HC0.out w1 hx
  have hc1:=HC1.out w1 hx
  go_wp2_with fail
  (go_ret;refine Ret.mk ?_ ?_;(focus (rfl;done));(focus (exact EX;done)))
 go_enter Tryz.func57,Tryz.ntmps57
 have hx:=Ext.refl w
 have hc0:=HC0.out w hx
 have hc1:=HC1.out w hx
 go_wp2_with fail
 refine wp_loop_rounds 2 ?_
 rw [rounds_succ]
 go_wp2_with fail
 refine wp_region_ext (by kernel_rfl) (by kernel_rfl) ?_
 clear hc0 hc1
 repeat (first | go_big_quiet_skip | (go_big_quiet_want;first | (go_big_quiet_op;go_big_quiet_on) | (apply quiet_at;intro W hW;have hc0:=HC0.out W hW;have hc1:=HC1.out W hW;go_simp;(first | exact rfl | (simp only [Oper.quietUpon,true_and];first | exact rfl | ((first | (go_at_call 91;first | with_reducible exact quiet_call hW (Q1.out _ hW) (fun _ _ h=>Ret.bcell h) | with_reducible exact quiet_call hW (Q2.out _ hW) (fun _ _ h=>Ret.bcell h))))) | ((first | (go_at_call 91;first | with_reducible exact quiet_call hW (Q1.out _ hW) (fun _ _ h=>Ret.bcell h) | with_reducible exact quiet_call hW (Q2.out _ hW) (fun _ _ h=>Ret.bcell h)))));go_big_quiet_on;simp only [Act.put,sA,s0,sS])))
 refine wpQuiet_nil ?_
 intro w1 hx0
 clear hx
 have hx:=hx0
 clear hx0
 have hc0:=HC0.out w1 hx
 have hc1:=HC1.out w1 hx
 go_wp2_with fail
 rw [rounds_succ]
 go_wp2_with fail
 (go_ret;refine Ret.mk ?_ ?_;(focus (rfl;done));(focus (exact EX;done)))
end Go.Proofs.YtfmgnaigcibcaaaGreatDoor
namespace Go.Proofs.YtfmgnaigcibcaaaGreatDoor
open Go.RowKit
attribute [local go_sem ↓] Go.wp_at_zero Go.wp_at_succ
set_option maxHeartbeats 16000000 in
set_option maxRecDepth 100000 in
theorem psame_any (p p':Pv) (a b:Qp) (w:World) {F G:Nat→Prop} (h1:Is w F p a) (h2:Is w G p' b) (b1:a.old.length≤1152921504606846976) (b2:a.new.length≤1152921504606846976) (b3:b.old.length≤1152921504606846976) (b4:b.new.length≤1152921504606846976):
 Calls Tryz.prog 28 #[p.v,p'.v] w (Ret (.bool (a.same b)) w):=by
 obtain ⟨A1,c1,A2,c2,rfl,⟨s1,s2⟩,_⟩:=h1
 obtain ⟨B1,d1,B2,d2,rfl,⟨t1,t2⟩,_⟩:=h2
 obtain ⟨kind1,path1,to_1,ty1,at_1,old1,new1,off1,so1,sn1,om1,nm1⟩:=a
 obtain ⟨kind2,path2,to_2,ty2,at_2,old2,new2,off2,so2,sn2,om2,nm2⟩:=b
 have hs:∀ W,Ext w W→∀ g g' t t',Blk W g t #[.int .i64 at_1,.slice A1 old1.length c1,.slice A2 new1.length c2]→Blk W g' t' #[.int .i64 at_2,.slice B1 old2.length d1,.slice B2 new2.length d2]→Calls Tryz.prog 57 #[.slice (some ⟨g,0,none⟩) 1 1,.slice (some ⟨g',0,none⟩) 1 1] W (Ret (.bool (at_1 == at_2 && (decide (old1=old2) && decide (new1=new2)))) W):=
  fun W hW g g' t t' hb hb2=>hsame_any g g' t t' (Qp.pv ⟨kind1,path1,to_1,ty1,at_1,old1,new1,off1,so1,sn1,om1,nm1⟩ A1 c1 A2 c2) (Qp.pv ⟨kind2,path2,to_2,ty2,at_2,old2,new2,off2,so2,sn2,om2,nm2⟩ B1 d1 B2 d2) old1 new1 old2 new2 W hb hb2 (s1.ext hW).1 (s2.ext hW).1 (t1.ext hW).1 (t2.ext hW).1 b1 b2 b3 b4
 have HN:∀ x,(at_1 == at_2 && (decide (old1=old2) && decide (new1=new2)))=x→(x=true ↔ at_1=at_2∧old1=old2∧new1=new2):=fun x hx=>by rw [← hx];simp
 generalize (at_1 == at_2 && (decide (old1=old2) && decide (new1=new2)))=hv at hs HN
 have HN1:=HN hv rfl
 have HS:=Lib.hid hs
 clear hs s1 s2 t1 t2 b1 b2 b3 b4 HN
 have HR:∀ x,Qp.same ⟨kind1,path1,to_1,ty1,at_1,old1,new1,off1,so1,sn1,om1,nm1⟩ ⟨kind2,path2,to_2,ty2,at_2,old2,new2,off2,so2,sn2,om2,nm2⟩=x→(x=true ↔ kind1=kind2∧path1=path2∧to_1=to_2∧ty1=ty2∧hv=true∧off1=off2∧so1=so2∧sn1=sn2∧om1=om2∧nm1=nm2):=fun x hx=>by
  rw [← hx,Qp.same_iff,HN1]
  simp only [Qp.mk.injEq]
  constructor
  ·rintro ⟨h1,h2,h3,h4,h5,h6,h7,h8,h9,h10,h11,h12⟩
   exact ⟨h1,h2,h3,h4,⟨h5,h6,h7⟩,h8,h9,h10,h11,h12⟩
  ·rintro ⟨h1,h2,h3,h4,⟨h5,h6,h7⟩,h8,h9,h10,h11,h12⟩
   exact ⟨h1,h2,h3,h4,h5,h6,h7,h8,h9,h10,h11,h12⟩
 generalize Qp.same ⟨kind1,path1,to_1,ty1,at_1,old1,new1,off1,so1,sn1,om1,nm1⟩ ⟨kind2,path2,to_2,ty2,at_2,old2,new2,off2,so2,sn2,om2,nm2⟩=R at HR ⊢
 have HR:=HR R rfl
 clear HN1
 dsimp only [Pv.v,Qp.pv]
 by_cases h:kind1=kind2
 rotate_left
 ·have hv:R=false:=by
   cases e:R
   ·rfl
   ·exact absurd (HR.1 e).1 h
  rw [hv]
  have hk1:(kind1 == kind2)=false:=by simp [h]
  have hk2:(kind1 != kind2)=true:=by simp [h]
  clear HR hv h
  go_enter Tryz.func28,Tryz.ntmps28
  have hx:=Ext.refl w
  go_wp2_with fail
  (go_ret;refine Ret.mk ?_ ?_;(focus (rfl;done));(focus (exact EX;done)))
 subst h
 by_cases h:path1=path2
 rotate_left
 ·have hv:R=false:=by
   cases e:R
   ·rfl
   ·exact absurd (HR.1 e).2.1 h
  rw [hv]
  have hk1:(path1.toList == path2.toList)=false:=bytes_ne h
  have hk2:(path1.toList != path2.toList)=true:=by rw [bne,hk1];rfl
  clear HR hv h
  go_enter Tryz.func28,Tryz.ntmps28
  have hx:=Ext.refl w
  go_wp2_with fail
  (go_ret;refine Ret.mk ?_ ?_;(focus (rfl;done));(focus (exact EX;done)))
 subst h
 by_cases h:to_1=to_2
 rotate_left
 ·have hv:R=false:=by
   cases e:R
   ·rfl
   ·exact absurd (HR.1 e).2.2.1 h
  rw [hv]
  have hk1:(to_1.toList == to_2.toList)=false:=bytes_ne h
  have hk2:(to_1.toList != to_2.toList)=true:=by rw [bne,hk1];rfl
  clear HR hv h
  go_enter Tryz.func28,Tryz.ntmps28
  have hx:=Ext.refl w
  go_wp2_with fail
  (go_ret;refine Ret.mk ?_ ?_;(focus (rfl;done));(focus (exact EX;done)))
 subst h
 by_cases h:ty1=ty2
 rotate_left
 ·have hv:R=false:=by
   cases e:R
   ·rfl
   ·exact absurd (HR.1 e).2.2.2.1 h
  rw [hv]
  have hk1:(ty1 == ty2)=false:=by simp [h]
  have hk2:(ty1 != ty2)=true:=by simp [h]
  clear HR hv h
  go_enter Tryz.func28,Tryz.ntmps28
  have hx:=Ext.refl w
  go_wp2_with fail
  (go_ret;refine Ret.mk ?_ ?_;(focus (rfl;done));(focus (exact EX;done)))
 subst h
 cases hv
 ·have hv:R=false:=by
   cases e:R
   ·rfl
   ·exact absurd (HR.1 e).2.2.2.2.1 (by simp)
  rw [hv]
  clear HR hv
  go_enter Tryz.func28,Tryz.ntmps28
  have hx:=Ext.refl w
  go_wp2_with fail
  refine (HS.out _ EX _ _ _ _ (Blk.alloc (Blk.new' (by simp)) _) (Blk.new' (by simp))).mono ?_
  rintro e w1 ⟨rfl,hx0⟩
  have hb0:Blk w1 w.heap.size 28 (parr ⟨kind1,path1,to_1,ty1,at_1,A1,old1.length,c1,A2,new1.length,c2,off1,so1,sn1,om1,nm1⟩):=Blk.ext hx0 (Blk.alloc (Blk.alloc (Blk.alloc (Blk.new' (by simp)) _) _) _)
  have hb1:Blk w1 (w.heap.size+1) 28 (parr ⟨kind1,path1,to_1,ty1,at_2,B1,old2.length,d1,B2,new2.length,d2,off2,so2,sn2,om2,nm2⟩):=Blk.ext hx0 (Blk.alloc (Blk.alloc (Blk.new' (by simp)) _) _)
  have hx1:=Ext.trans (a:=w) EX hx0
  clear hx hx0
  have hx:=hx1
  clear hx1
  have hc0:=hb0.cell
  have hc1:=hb1.cell
  go_wp2_with fail
  (go_ret;refine Ret.mk ?_ ?_;(focus (rfl;done));(focus (exact EX;done)))
 by_cases h:off1=off2
 rotate_left
 ·have hv:R=false:=by
   cases e:R
   ·rfl
   ·exact absurd (HR.1 e).2.2.2.2.2.1 h
  rw [hv]
  have hk1:(off1 == off2)=false:=by simp [h]
  have hk2:(off1 != off2)=true:=by simp [h]
  clear HR hv h
  go_enter Tryz.func28,Tryz.ntmps28
  have hx:=Ext.refl w
  go_wp2_with fail
  refine (HS.out _ EX _ _ _ _ (Blk.alloc (Blk.new' (by simp)) _) (Blk.new' (by simp))).mono ?_
  rintro e w1 ⟨rfl,hx0⟩
  have hb0:Blk w1 w.heap.size 28 (parr ⟨kind1,path1,to_1,ty1,at_1,A1,old1.length,c1,A2,new1.length,c2,off1,so1,sn1,om1,nm1⟩):=Blk.ext hx0 (Blk.alloc (Blk.alloc (Blk.alloc (Blk.new' (by simp)) _) _) _)
  have hb1:Blk w1 (w.heap.size+1) 28 (parr ⟨kind1,path1,to_1,ty1,at_2,B1,old2.length,d1,B2,new2.length,d2,off2,so2,sn2,om2,nm2⟩):=Blk.ext hx0 (Blk.alloc (Blk.alloc (Blk.new' (by simp)) _) _)
  have hx1:=Ext.trans (a:=w) EX hx0
  clear hx hx0
  have hx:=hx1
  clear hx1
  have hc0:=hb0.cell
  have hc1:=hb1.cell
  go_wp2_with fail
  (go_ret;refine Ret.mk ?_ ?_;(focus (rfl;done));(focus (exact EX;done)))
 subst h
 by_cases h:so1=so2
 rotate_left
 ·have hv:R=false:=by
   cases e:R
   ·rfl
   ·exact absurd (HR.1 e).2.2.2.2.2.2.1 h
  rw [hv]
  have hk1:(so1.toList == so2.toList)=false:=bytes_ne h
  have hk2:(so1.toList != so2.toList)=true:=by rw [bne,hk1];rfl
  clear HR hv h
  go_enter Tryz.func28,Tryz.ntmps28
  have hx:=Ext.refl w
  go_wp2_with fail
  refine (HS.out _ EX _ _ _ _ (Blk.alloc (Blk.new' (by simp)) _) (Blk.new' (by simp))).mono ?_
  rintro e w1 ⟨rfl,hx0⟩
  have hb0:Blk w1 w.heap.size 28 (parr ⟨kind1,path1,to_1,ty1,at_1,A1,old1.length,c1,A2,new1.length,c2,off1,so1,sn1,om1,nm1⟩):=Blk.ext hx0 (Blk.alloc (Blk.alloc (Blk.alloc (Blk.new' (by simp)) _) _) _)
  have hb1:Blk w1 (w.heap.size+1) 28 (parr ⟨kind1,path1,to_1,ty1,at_2,B1,old2.length,d1,B2,new2.length,d2,off1,so2,sn2,om2,nm2⟩):=Blk.ext hx0 (Blk.alloc (Blk.alloc (Blk.new' (by simp)) _) _)
  have hx1:=Ext.trans (a:=w) EX hx0
  clear hx hx0
  have hx:=hx1
  clear hx1
  have hc0:=hb0.cell
  have hc1:=hb1.cell
  go_wp2_with fail
  (go_ret;refine Ret.mk ?_ ?_;(focus (rfl;done));(focus (exact EX;done)))
 subst h
 by_cases h:sn1=sn2
 rotate_left
 ·have hv:R=false:=by
   cases e:R
   ·rfl
   ·exact absurd (HR.1 e).2.2.2.2.2.2.2.1 h
  rw [hv]
  have hk1:(sn1.toList == sn2.toList)=false:=bytes_ne h
  have hk2:(sn1.toList != sn2.toList)=true:=by rw [bne,hk1];rfl
  clear HR hv h
  go_enter Tryz.func28,Tryz.ntmps28
  have hx:=Ext.refl w
  go_wp2_with fail
  refine (HS.out _ EX _ _ _ _ (Blk.alloc (Blk.new' (by simp)) _) (Blk.new' (by simp))).mono ?_
  rintro e w1 ⟨rfl,hx0⟩
  have hb0:Blk w1 w.heap.size 28 (parr ⟨kind1,path1,to_1,ty1,at_1,A1,old1.length,c1,A2,new1.length,c2,off1,so1,sn1,om1,nm1⟩):=Blk.ext hx0 (Blk.alloc (Blk.alloc (Blk.alloc (Blk.new' (by simp)) _) _) _)
  have hb1:Blk w1 (w.heap.size+1) 28 (parr ⟨kind1,path1,to_1,ty1,at_2,B1,old2.length,d1,B2,new2.length,d2,off1,so1,sn2,om2,nm2⟩):=Blk.ext hx0 (Blk.alloc (Blk.alloc (Blk.new' (by simp)) _) _)
  have hx1:=Ext.trans (a:=w) EX hx0
  clear hx hx0
  have hx:=hx1
  clear hx1
  have hc0:=hb0.cell
  have hc1:=hb1.cell
  go_wp2_with fail
  (go_ret;refine Ret.mk ?_ ?_;(focus (rfl;done));(focus (exact EX;done)))
 subst h
 by_cases h:om1=om2
 rotate_left
 ·have hv:R=false:=by
   cases e:R
   ·rfl
   ·exact absurd (HR.1 e).2.2.2.2.2.2.2.2.1 h
  rw [hv]
  have hk1:(om1 == om2)=false:=by simp [h]
  have hk2:(om1 != om2)=true:=by simp [h]
  clear HR hv h
  go_enter Tryz.func28,Tryz.ntmps28
  have hx:=Ext.refl w
  go_wp2_with fail
  refine (HS.out _ EX _ _ _ _ (Blk.alloc (Blk.new' (by simp)) _) (Blk.new' (by simp))).mono ?_
  rintro e w1 ⟨rfl,hx0⟩
  have hb0:Blk w1 w.heap.size 28 (parr ⟨kind1,path1,to_1,ty1,at_1,A1,old1.length,c1,A2,new1.length,c2,off1,so1,sn1,om1,nm1⟩):=Blk.ext hx0 (Blk.alloc (Blk.alloc (Blk.alloc (Blk.new' (by simp)) _) _) _)
  have hb1:Blk w1 (w.heap.size+1) 28 (parr ⟨kind1,path1,to_1,ty1,at_2,B1,old2.length,d1,B2,new2.length,d2,off1,so1,sn1,om2,nm2⟩):=Blk.ext hx0 (Blk.alloc (Blk.alloc (Blk.new' (by simp)) _) _)
  have hx1:=Ext.trans (a:=w) EX hx0
  clear hx hx0
  have hx:=hx1
  clear hx1
  have hc0:=hb0.cell
  have hc1:=hb1.cell
  go_wp2_with fail
  (go_ret;refine Ret.mk ?_ ?_;(focus (rfl;done));(focus (exact EX;done)))
 subst h
 by_cases h:nm1=nm2
 rotate_left
 ·have hv:R=false:=by
   cases e:R
   ·rfl
   ·exact absurd (HR.1 e).2.2.2.2.2.2.2.2.2 h
  rw [hv]
  have hk1:(nm1 == nm2)=false:=by simp [h]
  have hk2:(nm1 != nm2)=true:=by simp [h]
  clear HR hv h
  go_enter Tryz.func28,Tryz.ntmps28
  have hx:=Ext.refl w
  go_wp2_with fail
  refine (HS.out _ EX _ _ _ _ (Blk.alloc (Blk.new' (by simp)) _) (Blk.new' (by simp))).mono ?_
  rintro e w1 ⟨rfl,hx0⟩
  have hb0:Blk w1 w.heap.size 28 (parr ⟨kind1,path1,to_1,ty1,at_1,A1,old1.length,c1,A2,new1.length,c2,off1,so1,sn1,om1,nm1⟩):=Blk.ext hx0 (Blk.alloc (Blk.alloc (Blk.alloc (Blk.new' (by simp)) _) _) _)
  have hb1:Blk w1 (w.heap.size+1) 28 (parr ⟨kind1,path1,to_1,ty1,at_2,B1,old2.length,d1,B2,new2.length,d2,off1,so1,sn1,om1,nm2⟩):=Blk.ext hx0 (Blk.alloc (Blk.alloc (Blk.new' (by simp)) _) _)
  have hx1:=Ext.trans (a:=w) EX hx0
  clear hx hx0
  have hx:=hx1
  clear hx1
  have hc0:=hb0.cell
  have hc1:=hb1.cell
  go_wp2_with fail
  (go_ret;refine Ret.mk ?_ ?_;(focus (rfl;done));(focus (exact EX;done)))
 subst h
 have hv:R=true:=HR.2 (by simp)
 rw [hv]
 clear HR hv
 go_enter Tryz.func28,Tryz.ntmps28
 have hx:=Ext.refl w
 go_wp2_with fail
 refine (HS.out _ EX _ _ _ _ (Blk.alloc (Blk.new' (by simp)) _) (Blk.new' (by simp))).mono ?_
 rintro e w1 ⟨rfl,hx0⟩
 have hb0:Blk w1 w.heap.size 28 (parr ⟨kind1,path1,to_1,ty1,at_1,A1,old1.length,c1,A2,new1.length,c2,off1,so1,sn1,om1,nm1⟩):=Blk.ext hx0 (Blk.alloc (Blk.alloc (Blk.alloc (Blk.new' (by simp)) _) _) _)
 have hb1:Blk w1 (w.heap.size+1) 28 (parr ⟨kind1,path1,to_1,ty1,at_2,B1,old2.length,d1,B2,new2.length,d2,off1,so1,sn1,om1,nm1⟩):=Blk.ext hx0 (Blk.alloc (Blk.alloc (Blk.new' (by simp)) _) _)
 have hx1:=Ext.trans (a:=w) EX hx0
 clear hx hx0
 have hx:=hx1
 clear hx1
 have hc0:=hb0.cell
 have hc1:=hb1.cell
 go_wp2_with fail
 (go_ret;refine Ret.mk ?_ ?_;(focus (rfl;done));(focus (exact EX;done)))
end Go.Proofs.YtfmgnaigcibcaaaGreatDoor
