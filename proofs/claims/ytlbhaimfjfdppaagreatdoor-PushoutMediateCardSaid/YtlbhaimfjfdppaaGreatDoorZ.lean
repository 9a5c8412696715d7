import Derived.Test.YtlbhaimfjfdppaaGreatDoorX
set_option linter.unusedSimpArgs false
set_option linter.unusedVariables false
namespace Go.Proofs.YtlbhaimfjfdppaaGreatDoor
open Go.RowKit
attribute [local go_sem ↓] Go.wp_at_zero Go.wp_at_succ
def Tells (p:Prop) (w:World) (e:Ending) (w':World):Prop:=∃ v:Bool,e=.returned (.bool v)∧(v=false→p)∧Ext w w'
set_option maxHeartbeats 4000000 in
set_option maxRecDepth 100000 in
theorem sgreat_any (A:Option Addr) (n c:Nat) (l:List ByteArray) (w:World) (h:Lst w A n l) (hn:n≤1152921504606846976):
 Calls Tryz.prog 73 #[.slice A n c] w (Tells (n≤40) w):=by
 have H:=Lib.hid h
 clear h
 go_enter Tryz.func73,Tryz.ntmps73
 have hx:=Ext.refl w
 go_wp2_with fail
 go_loop [3,4] (fun m i=>∃ (z:Int) (k:Nat),k≤n∧m=.int .i64 z∧i=.int .i64 k) (fun m i=>n - (intOf i).toNat)
 case atStart=>exact ⟨0,0,Nat.zero_le _,rfl,rfl⟩
 case round=>
  obtain ⟨z,k,hk,rfl,rfl⟩:=hrel
  by_cases hlt:k < n
  ·obtain ⟨bb,oo,rfl,_,hcl⟩:=H.out.2 (by omega)
   have hck:=hcl k hlt
   generalize l.getD k ByteArray.empty=x at hck
   clear hcl
   go_wp2_with fail
   refine ⟨⟨_,k+1,hlt,rfl,rfl⟩,?_⟩
   simp [intOf]
   omega
  ·obtain rfl:k=n:=by omega
   go_wp2_with fail
   all_goals
    refine bodyPost_ret (v:=.bool _) (by simp [results,Tryz.results73,go_sem];rfl) rfl ?_
    refine ⟨_,rfl,fun h=>?_,EX⟩
    first
     | omega
     | (exfalso;simp at h;done)
     | (simp at h;omega)
abbrev harr (p:Pv):Array Value:=#[.int .i64 p.at_,.slice p.A1 p.n1 p.c1,.slice p.A2 p.n2 p.c2]
set_option maxHeartbeats 4000000 in
set_option maxRecDepth 100000 in
theorem hgreat_any (g:Nat) (t:TypeId) (p:Pv) (o n:List ByteArray) (w:World) (hb:Blk w g t (harr p)) (h1:Lst w p.A1 p.n1 o) (h2:Lst w p.A2 p.n2 n) (b1:p.n1≤1152921504606846976) (b2:p.n2≤1152921504606846976):
 Calls Tryz.prog 64 #[.slice (some ⟨g,0,none⟩) 1 1] w (Tells (p.n1≤40∧p.n2≤40) w):=by
 have H1:=Lib.hid h1
 have H2:=Lib.hid h2
 clear h1 h2
 have hcb:=hb.cell
 have hlb:=hb.lt
 go_enter Tryz.func64,Tryz.ntmps64
 have hx:=Ext.refl w
 go_wp2_with fail
 refine wp_loop_rounds 2 ?_
 rw [rounds_succ]
 go_wp2_with fail
 refine (sgreat_any p.A1 p.n1 p.c1 o _ (by exact H1.out) b1).mono ?_
 rintro e w1 ⟨v1,rfl,k1,hx0⟩
 have hb':=hb.ext hx0
 have hcb':=hb'.cell
 have hlb':=hb'.lt
 cases v1
 ·go_wp2_with fail
  refine (sgreat_any p.A2 p.n2 p.c2 n _ (H2.out.ext hx0) b2).mono ?_
  rintro e w2 ⟨v2,rfl,k2,hx1⟩
  have hb'':=hb'.ext hx1
  have hcb'':=hb''.cell
  have hlb'':=hb''.lt
  have hx:=hx0.trans hx1
  cases v2
  ·go_wp2_with fail
   go_quiet (fail)
   go_wp2_with fail
   rw [rounds_succ]
   go_wp2_with fail
   all_goals
    refine bodyPost_ret (v:=.bool _) (by simp [results,Tryz.results64,go_sem];rfl) rfl ?_
    exact ⟨_,rfl,(fun _=>⟨k1 trivial,k2 trivial⟩),EX⟩
  ·go_wp2_with fail
   refine bodyPost_ret (v:=.bool true) (by simp [results,Tryz.results64,go_sem]) rfl ?_
   exact ⟨_,rfl,(fun h=>nomatch h),hx⟩
 ·go_wp2_with fail
  refine bodyPost_ret (v:=.bool true) (by simp [results,Tryz.results64,go_sem]) rfl ?_
  exact ⟨_,rfl,(fun h=>nomatch h),hx0⟩
structure Qp.Mild (q:Qp):Prop where
 path:q.path.size≤300
 to_:q.to_.size≤300
 old:q.old.length≤40
 new:q.new.length≤40
theorem Qp.Mild.fits {q:Qp} (h:q.Mild):q.Fits:=by
 have h1:=h.path
 have h2:=h.to_
 have h3:=h.old
 have h4:=h.new
 exact ⟨by omega,by omega,by omega,by omega⟩
set_option maxHeartbeats 8000000 in
set_option maxRecDepth 100000 in
theorem pgreat_any (p:Pv) (q:Qp) (w:World) {F:Nat→Prop} (h:Is w F p q) (b1:q.old.length≤1152921504606846976) (b2:q.new.length≤1152921504606846976):
 Calls Tryz.prog 52 #[p.v] w (Tells q.Mild w):=by
 have H:=Lib.hid h
 obtain ⟨A1,c1,A2,c2,rfl,⟨h1,h2⟩,_⟩:=h
 have H1:=Lib.hid h1
 have H2:=Lib.hid h2
 clear h1 h2
 go_enter Tryz.func52,Tryz.ntmps52
 have hx:=Ext.refl w
 go_wp2_with (go_at_call 64;refine (hgreat_any _ _ (q.pv A1 c1 A2 c2) q.old q.new _ (Blk.new' (by simp)) (H1.out.ext EX).1 (H2.out.ext EX).1 b1 b2).mono ?_;rintro e w1 ⟨v1,rfl,k1,hx0⟩;have hx1:=Ext.trans (a:=w) EX hx0)
 ·refine bodyPost_ret (v:=.bool _) (by simp only [results,Tryz.results52];go_simp;rfl) rfl ?_
  refine ⟨_,rfl,(fun h=>?_),hx1⟩
  simp only [Bool.or_eq_false_iff] at h
  have hk:=k1 h.2
  exact ⟨by omega,by omega,hk.1,hk.2⟩
 all_goals
  refine bodyPost_ret (v:=.bool true) (by simp only [results,Tryz.results52];go_simp) rfl ?_
  exact ⟨_,rfl,(fun h=>nomatch h),EX⟩
end Go.Proofs.YtlbhaimfjfdppaaGreatDoor
namespace Go.Proofs.YtlbhaimfjfdppaaGreatDoor
open Go.RowKit
attribute [local go_sem ↓] Go.wp_at_zero Go.wp_at_succ
set_option maxHeartbeats 4000000 in
set_option maxRecDepth 100000 in
theorem ssame_true (A B:Option Addr) (n c d:Nat) (l:List ByteArray) (w:World) (h1:Lst w A n l) (h2:Lst w B n l) (hn:n≤1152921504606846976):
 Calls Tryz.prog 54 #[.slice A n c,.slice B n d] w (Ret (.bool true) w):=by
 have H1:=Lib.hid h1
 have H2:=Lib.hid h2
 clear h1 h2
 go_enter Tryz.func54,Tryz.ntmps54
 have hx:=Ext.refl w
 go_wp2_with fail
 go_loopw [5] (fun i W=>(∃ (k:Nat),k≤n∧i=.int .i64 k)∧Ext w W) (fun i _=>n - (intOf i).toNat)
 case atStart=>exact ⟨⟨0,Nat.zero_le _,rfl⟩,hx⟩
 case round=>
  clear hx
  obtain ⟨⟨k,hk,rfl⟩,hx⟩:=hrel
  by_cases hlt:k < n
  ·obtain ⟨b1,o1,rfl,l1,hcl1⟩:=H1.out.2 (by omega)
   obtain ⟨b2,o2,rfl,l2,hcl2⟩:=H2.out.2 (by omega)
   have hck1:=hcl1 k hlt
   have hck2:=hcl2 k hlt
   generalize l.getD k ByteArray.empty=x at hck1 hck2
   rw [← hx.cell (p:=⟨b1,o1+k,none⟩) l1] at hck1
   rw [← hx.cell (p:=⟨b2,o2+k,none⟩) l2] at hck2
   clear hcl1 hcl2
   go_wp2_with fail
   go_quiet (fail)
   go_wp2_with fail
   refine ⟨⟨⟨k+1,hlt,rfl⟩,EX⟩,?_⟩
   simp [intOf]
   omega
  ·obtain rfl:k=n:=by omega
   go_wp2_with fail
   (go_ret;refine Ret.mk ?_ ?_;(focus (rfl;done));(focus (exact EX;done)))
set_option maxHeartbeats 4000000 in
set_option maxRecDepth 100000 in
theorem hsame_true (g g':Nat) (t t':TypeId) (p p':Pv) (o n:List ByteArray) (w:World) (hb:Blk w g t (harr p)) (hb2:Blk w g' t' (harr p')) (ha:p.at_=p'.at_) (hn1:p.n1=p'.n1) (hn2:p.n2=p'.n2)
 (h1:Lst w p.A1 p.n1 o) (h2:Lst w p.A2 p.n2 n) (h3:Lst w p'.A1 p.n1 o) (h4:Lst w p'.A2 p.n2 n) (b1:p.n1≤1152921504606846976) (b2:p.n2≤1152921504606846976):
 Calls Tryz.prog 39 #[.slice (some ⟨g,0,none⟩) 1 1,.slice (some ⟨g',0,none⟩) 1 1] w (Ret (.bool true) w):=by
 have q1:∀ W,Ext w W→Calls Tryz.prog 54 #[.slice p.A1 p.n1 p.c1,.slice p'.A1 p.n1 p'.c1] W (Ret (.bool true) W):=fun W hW=>ssame_true p.A1 p'.A1 p.n1 p.c1 p'.c1 o W (h1.ext hW) (h3.ext hW) b1
 have q2:∀ W,Ext w W→Calls Tryz.prog 54 #[.slice p.A2 p.n2 p.c2,.slice p'.A2 p.n2 p'.c2] W (Ret (.bool true) W):=fun W hW=>ssame_true p.A2 p'.A2 p.n2 p.c2 p'.c2 n W (h2.ext hW) (h4.ext hW) b2
 have Q1:=Lib.hid q1
 have Q2:=Lib.hid q2
 have hcb0:∀ W,Ext w W→∀ i,W.cell? ⟨g,i,none⟩=(harr p)[i]?:=fun W hW=>(hb.ext hW).cell
 have hcb1:∀ W,Ext w W→∀ i,W.cell? ⟨g',i,none⟩=(#[.int .i64 p.at_,.slice p'.A1 p.n1 p'.c1,.slice p'.A2 p.n2 p'.c2]:Array Value)[i]?:=fun W hW i=>by rw [ha,hn1,hn2];exact (hb2.ext hW).cell i
 have HC0:=Lib.hid hcb0
 have HC1:=Lib.hid hcb1
 clear q1 q2 h1 h2 h3 h4 hcb0 hcb1 ha hn1 hn2
 go_enter Tryz.func39,Tryz.ntmps39
 have hx:=Ext.refl w
 have hc0:=HC0.out w hx
 have hc1:=HC1.out w hx
 go_wp2_with fail
 refine wp_loop_rounds 2 ?_
 rw [rounds_succ]
 go_wp2_with fail
 refine wp_region_ext (by kernel_rfl) (by kernel_rfl) ?_
 clear hc0 hc1
 repeat (first | go_big_quiet_skip | (go_big_quiet_want;first | (go_big_quiet_op;go_big_quiet_on) | (apply quiet_at;intro W hW;have hc0:=HC0.out W hW;have hc1:=HC1.out W hW;go_simp;(first | exact rfl | (simp only [Oper.quietUpon,true_and];first | exact rfl | ((first | (go_at_call 54;first | with_reducible exact quiet_call hW (Q1.out _ hW) (fun _ _ h=>Ret.bcell h) | with_reducible exact quiet_call hW (Q2.out _ hW) (fun _ _ h=>Ret.bcell h))))) | ((first | (go_at_call 54;first | with_reducible exact quiet_call hW (Q1.out _ hW) (fun _ _ h=>Ret.bcell h) | with_reducible exact quiet_call hW (Q2.out _ hW) (fun _ _ h=>Ret.bcell h)))));go_big_quiet_on;simp only [Act.put,sA,s0,sS])))
 refine wpQuiet_nil ?_
 intro w1 hx0
 clear hx
 have hx:=hx0
 clear hx0
 have hc0:=HC0.out w1 hx
 have hc1:=HC1.out w1 hx
 go_wp2_with fail
 rw [rounds_succ]
 go_wp2_with fail
 (go_ret;refine Ret.mk ?_ ?_;(focus (rfl;done));(focus (exact EX;done)))
set_option maxHeartbeats 16000000 in
set_option maxRecDepth 100000 in
theorem psame_true (p p':Pv) (q:Qp) (w:World) {F G:Nat→Prop} (h1:Is w F p q) (h2:Is w G p' q) (b1:q.old.length≤1152921504606846976) (b2:q.new.length≤1152921504606846976):
 Calls Tryz.prog 23 #[p.v,p'.v] w (Ret (.bool true) w):=by
 obtain ⟨A1,c1,A2,c2,rfl,⟨s1,s2⟩,_⟩:=h1
 obtain ⟨B1,d1,B2,d2,rfl,⟨t1,t2⟩,_⟩:=h2
 have S1:=Lib.hid s1
 have S2:=Lib.hid s2
 have T1:=Lib.hid t1
 have T2:=Lib.hid t2
 clear s1 s2 t1 t2
 go_enter Tryz.func23,Tryz.ntmps23
 have hx:=Ext.refl w
 go_wp2_with fail
 refine (hsame_true _ _ _ _ (q.pv A1 c1 A2 c2) (q.pv B1 d1 B2 d2) q.old q.new _ (Blk.alloc (Blk.new' (by simp)) _) (Blk.new' (by simp)) rfl rfl rfl (S1.out.ext EX).1 (S2.out.ext EX).1 (T1.out.ext EX).1 (T2.out.ext EX).1 b1 b2).mono ?_
 rintro e w1 ⟨rfl,hx0⟩
 have hb0:Blk w1 w.heap.size 42 (parr (q.pv A1 c1 A2 c2)):=Blk.ext hx0 (Blk.alloc (Blk.alloc (Blk.alloc (Blk.new' (by simp)) _) _) _)
 have hb1:Blk w1 (w.heap.size+1) 42 (parr (q.pv B1 d1 B2 d2)):=Blk.ext hx0 (Blk.alloc (Blk.alloc (Blk.new' (by simp)) _) _)
 have hx1:=Ext.trans (a:=w) EX hx0
 clear hx hx0
 have hx:=hx1
 clear hx1
 have hc0:=hb0.cell
 have hc1:=hb1.cell
 go_wp2_with fail
 (go_ret;refine Ret.mk ?_ ?_;(focus (rfl;done));(focus (exact EX;done)))
end Go.Proofs.YtlbhaimfjfdppaaGreatDoor
