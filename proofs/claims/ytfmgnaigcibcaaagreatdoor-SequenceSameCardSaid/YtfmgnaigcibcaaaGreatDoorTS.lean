import Derived.Test.YtfmgnaigcibcaaaGreatDoorTQ9
import Derived.Deep.DrawnRows
import Derived.Deep.CutBlock
import Derived.Deep.DeepCutAuto
set_option linter.unusedSimpArgs false
set_option linter.unusedVariables false
namespace Go.Proofs.YtfmgnaigcibcaaaGreatDoor
open Go.RowKit
attribute [local go_sem ↓] Go.wp_at_zero Go.wp_at_succ
theorem grown_trans {u v w:World} {b:Option Nat} (h:u.grownBy v b) (k:v.grownBy w b):u.grownBy w b:=
 ⟨k.os.trans h.os,k.tape.trans h.tape,k.output.trans h.output,Nat.le_trans h.size k.size,fun i hi hne=>(k.block i (Nat.lt_of_lt_of_le hi h.size) hne).trans (h.block i hi hne)⟩
theorem through_sizes (p q:Pv):(Pv.through p q).1.path.size≤q.to_.size+2 * p.path.size∧(Pv.through p q).1.to_.size≤q.to_.size+2 * p.to_.size:=by
 unfold Pv.through
 have h1:=Qm.newAfter_size q.kind q.path q.to_ p.path
 have h2:=Qm.after_size q.kind q.path q.to_ p.path
 have h3:=Qm.newAfter_size q.kind q.path q.to_ p.to_
 constructor
 ·dsimp only
  split <;> omega
 ·dsimp only
  split
  ·omega
  ·dsimp only;omega
theorem xset_b2 {w:World} {bX:Nat} {a b c d:Pv} (y:Pv) (h:Blk w bX 128 (xarr a b c d)):Blk ((((((((((((w.setCell ⟨bX,24,none⟩ (.int .i64 y.kind)).setCell ⟨bX,25,none⟩ (.string y.path)).setCell ⟨bX,26,none⟩ (.string y.to_)).setCell ⟨bX,27,none⟩ (.int .i64 y.ty)).setCell ⟨bX,28,none⟩ (.int .i64 y.at_)).setCell ⟨bX,29,none⟩ (.slice y.A1 y.n1 y.c1)).setCell ⟨bX,30,none⟩ (.slice y.A2 y.n2 y.c2)).setCell ⟨bX,31,none⟩ (.int .i64 y.off)).setCell ⟨bX,32,none⟩ (.string y.so)).setCell ⟨bX,33,none⟩ (.string y.sn)).setCell ⟨bX,34,none⟩ (.int .i64 y.om)).setCell ⟨bX,35,none⟩ (.int .i64 y.nm)) bX 128 (xarr a b y d):=by
 have h1:=((((((((((((h.set_ 24 (.int .i64 y.kind)).set_ 25 (.string y.path)).set_ 26 (.string y.to_)).set_ 27 (.int .i64 y.ty)).set_ 28 (.int .i64 y.at_)).set_ 29 (.slice y.A1 y.n1 y.c1)).set_ 30 (.slice y.A2 y.n2 y.c2)).set_ 31 (.int .i64 y.off)).set_ 32 (.string y.so)).set_ 33 (.string y.sn)).set_ 34 (.int .i64 y.om)).set_ 35 (.int .i64 y.nm))
 simp only [List.setIfInBounds_toArray,List.set_cons_succ,List.set_cons_zero] at h1
 exact h1
theorem xset_a2 {w:World} {bX:Nat} {a b c d:Pv} (y:Pv) (h:Blk w bX 128 (xarr a b c d)):Blk ((((((((((((w.setCell ⟨bX,36,none⟩ (.int .i64 y.kind)).setCell ⟨bX,37,none⟩ (.string y.path)).setCell ⟨bX,38,none⟩ (.string y.to_)).setCell ⟨bX,39,none⟩ (.int .i64 y.ty)).setCell ⟨bX,40,none⟩ (.int .i64 y.at_)).setCell ⟨bX,41,none⟩ (.slice y.A1 y.n1 y.c1)).setCell ⟨bX,42,none⟩ (.slice y.A2 y.n2 y.c2)).setCell ⟨bX,43,none⟩ (.int .i64 y.off)).setCell ⟨bX,44,none⟩ (.string y.so)).setCell ⟨bX,45,none⟩ (.string y.sn)).setCell ⟨bX,46,none⟩ (.int .i64 y.om)).setCell ⟨bX,47,none⟩ (.int .i64 y.nm)) bX 128 (xarr a b c y):=by
 have h1:=((((((((((((h.set_ 36 (.int .i64 y.kind)).set_ 37 (.string y.path)).set_ 38 (.string y.to_)).set_ 39 (.int .i64 y.ty)).set_ 40 (.int .i64 y.at_)).set_ 41 (.slice y.A1 y.n1 y.c1)).set_ 42 (.slice y.A2 y.n2 y.c2)).set_ 43 (.int .i64 y.off)).set_ 44 (.string y.so)).set_ 45 (.string y.sn)).set_ 46 (.int .i64 y.om)).set_ 47 (.int .i64 y.nm))
 simp only [List.setIfInBounds_toArray,List.set_cons_succ,List.set_cons_zero] at h1
 exact h1
theorem xset_grown {u w:World} {bX:Nat} (k:Nat) (v0 v1 v2 v3 v4 v5 v6 v7 v8 v9 v10 v11:Value) {k1 k2 k3 k4 k5 k6 k7 k8 k9 k10 k11:Nat} (h:u.grownBy w (some bX)):u.grownBy ((((((((((((w.setCell ⟨bX,k,none⟩ v0).setCell ⟨bX,k1,none⟩ v1).setCell ⟨bX,k2,none⟩ v2).setCell ⟨bX,k3,none⟩ v3).setCell ⟨bX,k4,none⟩ v4).setCell ⟨bX,k5,none⟩ v5).setCell ⟨bX,k6,none⟩ v6).setCell ⟨bX,k7,none⟩ v7).setCell ⟨bX,k8,none⟩ v8).setCell ⟨bX,k9,none⟩ v9).setCell ⟨bX,k10,none⟩ v10).setCell ⟨bX,k11,none⟩ v11) (some bX):=(grown_set (grown_set (grown_set (grown_set (grown_set (grown_set (grown_set (grown_set (grown_set (grown_set (grown_set (grown_set h _) _) _) _) _) _) _) _) _) _) _) _)
def Pv.xb (b:Pv) (qi:Qp):Pv × Bool:=Pv.through b (qi.pv none 0 none 0)
def Pv.xpaths (a b d:Pv) (qi:Qp):Pv × Pv × Bool:=((b.xb qi).1,if (b.xb qi).2 then (Pv.through a (b.xb qi).1).1 else d,(b.xb qi).2 && (Pv.through a (b.xb qi).1).2)
set_option maxHeartbeats 16000000 in
set_option maxRecDepth 100000 in
theorem xpaths_any (a b c d:Pv) (qa:Qp) (bX:Nat) (w:World) (hg:Glob w) {F:Nat→Prop} (ha:Is w F a qa) (hc:qa.check=0) (hbX:Blk w bX 128 (xarr a b c d))
 (a1:qa.path.size≤1048576) (a2:qa.to_.size≤1048576) (a3:b.path.size≤1048576) (a4:b.to_.size≤1048576) (i1:qa.inv.path.size≤1048576) (i2:qa.inv.to_.size≤1048576) (v1:a.path.size≤1048576) (v2:a.to_.size≤1048576):
 Calls Tryz.prog 92 #[.pointer (some ⟨bX,0,none⟩)] w (XRet bX a b (Pv.xpaths a b d qa.inv).1 (Pv.xpaths a b d qa.inv).2.1 (Pv.xpaths a b d qa.inv).2.2 w):=by
 obtain ⟨hcX,hfX,hlX⟩:=hbX.all
 have sm:=Qp.small hc
 have m1:qa.old.length≤1152921504606846976:=by omega
 have m2:qa.new.length≤1152921504606846976:=by omega
 have HA:=Lib.hid ha
 have HG:=Lib.hid hg
 have HC:=Lib.hid hc
 clear ha hg hc sm
 have z1:=through_sizes b (qa.inv.pv none 0 none 0)
 have HM:Hid (Pv.xpaths a b d qa.inv=((b.xb qa.inv).1,if (b.xb qa.inv).2 then (Pv.through a (b.xb qa.inv).1).1 else d,(b.xb qa.inv).2 && (Pv.through a (b.xb qa.inv).1).2)):=Lib.hid rfl
 generalize Pv.xpaths a b d qa.inv=R at HM ⊢
 have HB:Hid (∀ A1 c1 A2 c2,Pv.through b (qa.inv.pv A1 c1 A2 c2)=b.xb qa.inv):=Lib.hid (fun _ _ _ _=>rfl)
 have z2:(b.xb qa.inv).1.path.size≤4194304∧(b.xb qa.inv).1.to_.size≤4194304:=by
  have:b.xb qa.inv=Pv.through b (qa.inv.pv none 0 none 0):=rfl
  rw [this]
  dsimp only at z1
  omega
 clear z1
 generalize b.xb qa.inv=y at HM HB z2
 obtain ⟨y1,y2⟩:=y
 dsimp only at HM z2
 go_enter Tryz.func92,Tryz.ntmps92
 have hx:=Ext.refl w
 go_upto_region 2 with fail
 go_cut [3] (fun u3 wx=>Hid (w.grownBy wx (some bX))∧Blk wx bX 128 (xarr a b y1 d)∧u3=.bool y2)
 case first=>
  go_region_with (first
   | (go_at_call 114;refine (inverse_any a qa _ (HG.out.ext EX) (HA.out.ext EX) m1 m2 (by omega) (by omega) HC.out).mono ?_;rintro e w1 ⟨p',rfl,hs1,hx0⟩;obtain ⟨A1,c1,A2,c2,rfl,_⟩:=hs1;have hy:=Ext.trans (a:=w) EX hx0;clear hx;have hx:=hy;clear hy;have hnX:=BB hx0 (bX);(first | simp [↓heap_drew_at,↓heap_drewN_at,↓heap_alloc_at,↓heap_set_at,ne_two,ne_three,ne_two_left,ne_three_left,↓hbX.eq,hbX.lt,hbX.ne] at hnX | simp [↓heap_drew_at,↓heap_drewN_at,↓heap_alloc_at,↓heap_set_at,ne_two,ne_three,ne_two_left,ne_three_left] at hnX);(try clear hbX hcX hfX hlX);have hbX:=Blk.mk hnX;clear hnX;obtain ⟨hcX,hfX,hlX⟩:=hbX.all;(try clear hx0))
   | (go_at_call 113;refine (through_any b (qa.inv.pv A1 c1 A2 c2) _ (by first | omega | (dsimp only;omega)) (by first | omega | (dsimp only;omega)) (by first | omega | (dsimp only;omega)) (by first | omega | (dsimp only;omega))).mono ?_;rw [HB.out];rintro e w1 ⟨rfl,hx0⟩;have hy:=Ext.trans (a:=w) EX hx0;clear hx;have hx:=hy;clear hy;have hnX:=BB hx0 (bX);(first | simp [↓heap_drew_at,↓heap_drewN_at,↓heap_alloc_at,↓heap_set_at,ne_two,ne_three,ne_two_left,ne_three_left,↓hbX.eq,hbX.lt,hbX.ne] at hnX | simp [↓heap_drew_at,↓heap_drewN_at,↓heap_alloc_at,↓heap_set_at,ne_two,ne_three,ne_two_left,ne_three_left] at hnX);(try clear hbX hcX hfX hlX);have hbX:=Blk.mk hnX;clear hnX;obtain ⟨hcX,hfX,hlX⟩:=hbX.all;(try clear hx0)))
  all_goals (go_wp2_with fail;go_meet)
  all_goals exact ⟨Lib.hid (xset_grown _ _ _ _ _ _ _ _ _ _ _ _ _ (hx.grown _)),xset_b2 y1 hbX,rfl⟩
 case rest=>
  obtain ⟨HG1,hbX,rfl⟩:=hcut
  have hx:=Ext.refl wc
  obtain ⟨hcX,hfX,hlX⟩:=hbX.all
  clear HA HG HC HB
  cases y2
  ·go_wp2_with fail
   refine bodyPost_ret (v:=.bool false) (by simp [results,Tryz.results92,go_sem]) rfl ?_
   rw [HM.out]
   exact ⟨rfl,hbX,HG1.out⟩
  ·have z3:=z2.1
   have z4:=z2.2
   have hm:=HM.out
   rw [if_pos rfl,Bool.true_and] at hm
   have HT:Hid (∀ W,Calls Tryz.prog 113 #[a.v,y1.v] W (Ret (.tuple #[(Pv.through a y1).1.v,.bool (Pv.through a y1).2]) W)):=Lib.hid (fun W=>through_any a y1 W (by omega) (by omega) (by omega) (by omega))
   generalize Pv.through a y1=x at hm HT
   obtain ⟨x1,x2⟩:=x
   have HN:=Lib.hid hm
   clear hm HM z2
   obtain ⟨W1,hW1⟩:∃ W1:World,W1=wc:=⟨_,rfl⟩
   subst hW1
   go_upto_region 5 with fail
   go_cut [3] (fun u3 wx=>Hid (W1.grownBy wx (some bX))∧Blk wx bX 128 (xarr a b y1 x1)∧u3=.bool x2)
   case first=>
    go_region_with ((go_at_call 113;refine (HT.out _).mono ?_;rintro e w1 ⟨rfl,hx0⟩;obtain hy:=Ext.trans (a:=W1) EX hx0;clear hx;have hx:=hy;clear hy;have hnX:=BB hx0 (bX);(first | simp [↓heap_drew_at,↓heap_drewN_at,↓heap_alloc_at,↓heap_set_at,ne_two,ne_three,ne_two_left,ne_three_left,↓hbX.eq,hbX.lt,hbX.ne] at hnX | simp [↓heap_drew_at,↓heap_drewN_at,↓heap_alloc_at,↓heap_set_at,ne_two,ne_three,ne_two_left,ne_three_left] at hnX);(try clear hbX hcX hfX hlX);have hbX:=Blk.mk hnX;clear hnX;obtain ⟨hcX,hfX,hlX⟩:=hbX.all))
    all_goals (go_wp2_with fail;go_meet)
    all_goals exact ⟨Lib.hid (xset_grown _ _ _ _ _ _ _ _ _ _ _ _ _ (hx.grown _)),xset_a2 x1 hbX,rfl⟩
   case rest=>
    obtain ⟨HG2,hbX,rfl⟩:=hcut
    go_wp2_with fail
    refine bodyPost_ret (v:=.bool x2) (by simp [results,Tryz.results92,go_sem]) rfl ?_
    rw [HN.out]
    exact ⟨rfl,hbX,grown_trans HG1.out HG2.out⟩
end Go.Proofs.YtfmgnaigcibcaaaGreatDoor
