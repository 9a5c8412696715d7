import Derived.Test.YtfmgnaigcibcaaaGreatDoorTS
import Derived.Test.YtfmgnaigcibcaaaGreatDoorTQ7
set_option linter.unusedSimpArgs false
set_option linter.unusedVariables false
namespace Go.Proofs.YtfmgnaigcibcaaaGreatDoor
open Go.RowKit
attribute [local go_sem ↓] Go.wp_at_zero Go.wp_at_succ
def Pv.withHunk (p:Pv) (h:Hv):Pv:={ p with at_:=h.at_,A1:=h.A1,n1:=h.n1,c1:=h.c1,A2:=h.A2,n2:=h.n2,c2:=h.c2 }
def Pv.xcontents (a b c d:Pv):Pv × Pv × Bool:=
 if Qm.adds a.kind=true∨Qm.adds b.kind=true∨Qm.eqB a.path c.path=false then (c,d,true)
 else if b.kind=2∨(a.kind=8∧b.kind=8) then (c,d,false)
 else if a.kind=6∧b.kind=6 then (c.withHunk (a.hunk.commute b.hunk).1,d.withHunk (a.hunk.commute b.hunk).2.1,(a.hunk.commute b.hunk).2.2)
 else if a.kind=7∧b.kind=7 then a.xbytes b c d
 else if (a.kind=6∨a.kind=7)∧(b.kind=6∨b.kind=7) then (c,d,false)
 else (c,d,true)
theorem xset_hunks {w:World} {bX:Nat} {a b c d:Pv} (h1 h2:Hv) (h:Blk w bX 128 (xarr a b c d)):Blk ((((((w.setCell ⟨bX,28,none⟩ (.int .i64 h1.at_)).setCell ⟨bX,29,none⟩ (.slice h1.A1 h1.n1 h1.c1)).setCell ⟨bX,30,none⟩ (.slice h1.A2 h1.n2 h1.c2)).setCell ⟨bX,40,none⟩ (.int .i64 h2.at_)).setCell ⟨bX,41,none⟩ (.slice h2.A1 h2.n1 h2.c1)).setCell ⟨bX,42,none⟩ (.slice h2.A2 h2.n2 h2.c2)) bX 128 (xarr a b (c.withHunk h1) (d.withHunk h2)):=by
 have h1:=((((((h.set_ 28 (.int .i64 h1.at_)).set_ 29 (.slice h1.A1 h1.n1 h1.c1)).set_ 30 (.slice h1.A2 h1.n2 h1.c2)).set_ 40 (.int .i64 h2.at_)).set_ 41 (.slice h2.A1 h2.n1 h2.c1)).set_ 42 (.slice h2.A2 h2.n2 h2.c2))
 simp only [List.setIfInBounds_toArray,List.set_cons_succ,List.set_cons_zero] at h1
 exact h1
set_option maxHeartbeats 8000000 in
set_option maxRecDepth 100000 in
theorem xcontents_free (a b c d:Pv) (bX:Nat) (w:World) (hbX:Blk w bX 128 (xarr a b c d)) (hf:Qm.adds a.kind=true∨Qm.adds b.kind=true∨Qm.eqB a.path c.path=false):
 Calls Tryz.prog 96 #[.pointer (some ⟨bX,0,none⟩)] w (XRet bX a b c d true w):=by
 obtain ⟨hcX,hfX,hlX⟩:=hbX.all
 have hr:=fun W=>adds_any a W
 have hn:=fun W=>adds_any b W
 have hx:=Ext.refl w
 have hf':Qm.adds a.kind=true∨(Qm.adds a.kind=false∧Qm.adds b.kind=true)∨(Qm.adds a.kind=false∧Qm.adds b.kind=false∧(a.path.toList == c.path.toList)=false):=by
  cases h1:Qm.adds a.kind <;> cases h2:Qm.adds b.kind <;> simp_all [Qm.eqB]
 clear hf
 generalize Qm.adds a.kind=k1 at hr hf'
 generalize Qm.adds b.kind=k2 at hn hf'
 have Hr:=Lib.hid hr
 have Hn:=Lib.hid hn
 clear hr hn
 rcases hf' with rfl | ⟨rfl,rfl⟩ | ⟨rfl,rfl,he⟩
 all_goals
  go_enter Tryz.func96,Tryz.ntmps96
  go_wp2_with fail
  refine wp_region_ext (by kernel_rfl) (by kernel_rfl) ?_
  repeat (first | go_big_quiet_skip | (go_big_quiet_want;first | (go_big_quiet_op;go_big_quiet_on) | (apply quiet_at;intro W hW;have hxW:=Ext.trans (a:=w) EX hW;have hnX:=BB hW (bX);(first | simp [↓heap_drew_at,↓heap_drewN_at,↓heap_alloc_at,↓heap_set_at,ne_two,ne_three,ne_two_left,ne_three_left,↓hbX.eq,hbX.lt,hbX.ne] at hnX | simp [↓heap_drew_at,↓heap_drewN_at,↓heap_alloc_at,↓heap_set_at,ne_two,ne_three,ne_two_left,ne_three_left] at hnX);(try clear hbX hcX hfX hlX);have hbX:=Blk.mk hnX;clear hnX;obtain ⟨hcX,hfX,hlX⟩:=hbX.all;go_simp;(first | exact rfl | (simp only [Oper.quietUpon,true_and];first | exact rfl | (first | with_reducible exact quiet_call hW (Hr.out _) (fun _ _ h=>Ret.bcell h) | with_reducible exact quiet_call hW (Hn.out _) (fun _ _ h=>Ret.bcell h))) | (first | with_reducible exact quiet_call hW (Hr.out _) (fun _ _ h=>Ret.bcell h) | with_reducible exact quiet_call hW (Hn.out _) (fun _ _ h=>Ret.bcell h)));go_big_quiet_on;simp only [Act.put,sA,s0,sS])))
  refine wpQuiet_nil ?_
  intro w1 hx0
  have hy:=Ext.trans (a:=w) EX hx0;clear hx;have hx:=hy;clear hy;have hnX:=BB hx0 (bX);(first | simp [↓heap_drew_at,↓heap_drewN_at,↓heap_alloc_at,↓heap_set_at,ne_two,ne_three,ne_two_left,ne_three_left,↓hbX.eq,hbX.lt,hbX.ne] at hnX | simp [↓heap_drew_at,↓heap_drewN_at,↓heap_alloc_at,↓heap_set_at,ne_two,ne_three,ne_two_left,ne_three_left] at hnX);(try clear hbX hcX hfX hlX);have hbX:=Blk.mk hnX;clear hnX;obtain ⟨hcX,hfX,hlX⟩:=hbX.all;(try clear hx0)
  go_wp2
  refine bodyPost_ret (v:=.bool true) (by simp [results,Tryz.results96,go_sem]) rfl ?_
  exact ⟨rfl,hbX,hx.grown _⟩
theorem switch_ways {α:Type} (ak bk:Int) (F H X T r:α)
 (hr:r=if bk=2∨(ak=8∧bk=8) then F else if ak=6∧bk=6 then H else if ak=7∧bk=7 then X else if (ak=6∨ak=7)∧(bk=6∨bk=7) then F else T):
 ((bk == 2)=true∧r=F)∨((bk == 2)=false∧(ak == 8)=true∧(bk == 8)=true∧r=F) ∨
 ((bk == 2)=false∧(ak == 8)=false∧(ak == 6)=true∧(bk == 6)=true∧r=H) ∨
 ((bk == 2)=false∧(ak == 8)=false∧(ak == 6)=false∧(ak == 7)=true∧(bk == 7)=true∧r=X) ∨
 ((bk == 2)=false∧(ak == 8)=false∧(ak == 6)=true∧(ak == 7)=false∧(bk == 6)=false∧(bk == 7)=true∧r=F) ∨
 ((bk == 2)=false∧(ak == 8)=false∧(ak == 6)=false∧(ak == 7)=true∧(bk == 6)=true∧(bk == 7)=false∧r=F) ∨
 ((bk == 2)=false∧(ak == 8)=true∧(bk == 8)=false∧(ak == 6)=false∧(ak == 7)=false∧r=T) ∨
 ((bk == 2)=false∧(ak == 8)=false∧(ak == 6)=false∧(ak == 7)=false∧r=T) ∨
 ((bk == 2)=false∧(ak == 8)=false∧(ak == 6)=true∧(ak == 7)=false∧(bk == 6)=false∧(bk == 7)=false∧r=T) ∨
 ((bk == 2)=false∧(ak == 8)=false∧(ak == 6)=false∧(ak == 7)=true∧(bk == 6)=false∧(bk == 7)=false∧r=T):=by
 by_cases b2:bk=2
 ·simp [hr,b2]
 by_cases a8:ak=8
 ·by_cases b8:bk=8 <;> simp [hr,b2,a8,b8]
 by_cases a6:ak=6
 ·by_cases b6:bk=6
  ·simp [hr,b2,a6,b6]
  ·by_cases b7:bk=7 <;> simp [hr,b2,a6,b6,b7]
 by_cases a7:ak=7
 ·by_cases b7:bk=7
  ·simp [hr,b2,a7,b7]
  ·by_cases b6:bk=6 <;> simp [hr,b2,a7,b6,b7]
 simp [hr,b2,a8,a6,a7]
set_option maxHeartbeats 8000000 in
set_option maxRecDepth 100000 in
theorem xcontents_met (a b c d:Pv) (bX:Nat) (w:World) (hbX:Blk w bX 128 (xarr a b c d)) (f1:Qm.adds a.kind=false) (f2:Qm.adds b.kind=false) (he:(a.path.toList == c.path.toList)=true)
 (o1:0≤a.off) (o2:a.off≤65536) (o3:0≤b.off) (o4:b.off≤65536) (s1:a.so.size≤65536) (s2:a.sn.size≤65536) (s3:b.so.size≤65536) (s4:b.sn.size≤65536) (n1:a.hunk.fair) (n2:b.hunk.fair):
 Calls Tryz.prog 96 #[.pointer (some ⟨bX,0,none⟩)] w (XRet bX a b (a.xcontents b c d).1 (a.xcontents b c d).2.1 (a.xcontents b c d).2.2 w):=by
 obtain ⟨hcX,hfX,hlX⟩:=hbX.all
 have hr:=fun W=>adds_any a W
 have hn:=fun W=>adds_any b W
 have hx:=Ext.refl w
 rw [f1] at hr
 rw [f2] at hn
 have Hr:=Lib.hid hr
 have Hn:=Lib.hid hn
 have HM:Hid (a.xcontents b c d=_):=Lib.hid (by unfold Pv.xcontents;rw [if_neg (by rw [f1,f2,Qm.eqB,he];simp)])
 generalize a.xcontents b c d=R at HM ⊢
 clear hr hn f1 f2
 go_enter Tryz.func96,Tryz.ntmps96
 go_wp2_with fail
 refine wp_region_ext (by kernel_rfl) (by kernel_rfl) ?_
 repeat (first | go_big_quiet_skip | (go_big_quiet_want;first | (go_big_quiet_op;go_big_quiet_on) | (apply quiet_at;intro W hW;have hxW:=Ext.trans (a:=w) EX hW;have hnX:=BB hW (bX);(first | simp [↓heap_drew_at,↓heap_drewN_at,↓heap_alloc_at,↓heap_set_at,ne_two,ne_three,ne_two_left,ne_three_left,↓hbX.eq,hbX.lt,hbX.ne] at hnX | simp [↓heap_drew_at,↓heap_drewN_at,↓heap_alloc_at,↓heap_set_at,ne_two,ne_three,ne_two_left,ne_three_left] at hnX);(try clear hbX hcX hfX hlX);have hbX:=Blk.mk hnX;clear hnX;obtain ⟨hcX,hfX,hlX⟩:=hbX.all;go_simp;(first | exact rfl | (simp only [Oper.quietUpon,true_and];first | exact rfl | (first | with_reducible exact quiet_call hW (Hr.out _) (fun _ _ h=>Ret.bcell h) | with_reducible exact quiet_call hW (Hn.out _) (fun _ _ h=>Ret.bcell h))) | (first | with_reducible exact quiet_call hW (Hr.out _) (fun _ _ h=>Ret.bcell h) | with_reducible exact quiet_call hW (Hn.out _) (fun _ _ h=>Ret.bcell h)));go_big_quiet_on;simp only [Act.put,sA,s0,sS])))
 refine wpQuiet_nil ?_
 intro w1 hx0
 have hy:=Ext.trans (a:=w) EX hx0;clear hx;have hx:=hy;clear hy;have hnX:=BB hx0 (bX);(first | simp [↓heap_drew_at,↓heap_drewN_at,↓heap_alloc_at,↓heap_set_at,ne_two,ne_three,ne_two_left,ne_three_left,↓hbX.eq,hbX.lt,hbX.ne] at hnX | simp [↓heap_drew_at,↓heap_drewN_at,↓heap_alloc_at,↓heap_set_at,ne_two,ne_three,ne_two_left,ne_three_left] at hnX);(try clear hbX hcX hfX hlX);have hbX:=Blk.mk hnX;clear hnX;obtain ⟨hcX,hfX,hlX⟩:=hbX.all;(try clear hx0)
 clear he
 go_wp2_with fail
 obtain ⟨Wc,rfl⟩:∃ Wc:World,Wc=w1:=⟨_,rfl⟩
 refine wp_region_ext (by kernel_rfl) (by kernel_rfl) ?_
 repeat (first | go_big_quiet_skip | (go_big_quiet_want;first | (go_big_quiet_op;go_big_quiet_on) | (apply quiet_at;intro W hW;have hxW:=Ext.trans (a:=w) EX hW;have hnX:=BB hW (bX);(first | simp [↓heap_drew_at,↓heap_drewN_at,↓heap_alloc_at,↓heap_set_at,ne_two,ne_three,ne_two_left,ne_three_left,↓hbX.eq,hbX.lt,hbX.ne] at hnX | simp [↓heap_drew_at,↓heap_drewN_at,↓heap_alloc_at,↓heap_set_at,ne_two,ne_three,ne_two_left,ne_three_left] at hnX);(try clear hbX hcX hfX hlX);have hbX:=Blk.mk hnX;clear hnX;obtain ⟨hcX,hfX,hlX⟩:=hbX.all;go_simp;(first | exact rfl | (simp only [Oper.quietUpon,true_and];first | exact rfl | (fail)) | (fail));go_big_quiet_on;simp only [Act.put,sA,s0,sS])))
 refine wpQuiet_nil ?_
 intro w1 hx0
 have hbC:Blk w1 Wc.heap.size 3 #[.int .i64 6,.int .i64 7]:=Blk.ext hx0 (Blk.new' rfl)
 have hy:=Ext.trans (a:=w) EX hx0;clear hx;have hx:=hy;clear hy;have hnX:=BB hx0 (bX);(first | simp [↓heap_drew_at,↓heap_drewN_at,↓heap_alloc_at,↓heap_set_at,ne_two,ne_three,ne_two_left,ne_three_left,↓hbX.eq,hbX.lt,hbX.ne] at hnX | simp [↓heap_drew_at,↓heap_drewN_at,↓heap_alloc_at,↓heap_set_at,ne_two,ne_three,ne_two_left,ne_three_left] at hnX);(try clear hbX hcX hfX hlX);have hbX:=Blk.mk hnX;clear hnX;obtain ⟨hcX,hfX,hlX⟩:=hbX.all;(try clear hx0)
 have hK:∀ (x:Int) (W:World),Ext w1 W→Calls Tryz.prog 122 #[.slice (some ⟨Wc.heap.size,0,none⟩) 2 2,.int .i64 x] W (fun e w'=>e=.returned (.bool (x == 6 || x == 7))∧W=w'):=by
  intro x W hW
  have hb:=hbC.ext hW
  refine (Tryz.slices_Contains_int Wc.heap.size 0 2 2 [6,7] x W (by simp) (by omega) (fun j hj=>?_)).mono ?_
  ·rw [hb.cell]
   simp only [List.length_cons,List.length_nil] at hj
   match j,hj with
   | 0,_=>rfl
   | 1,_=>rfl
  ·rintro e w' ⟨rfl,rfl⟩
   refine ⟨?_,rfl⟩
   cases h6:(x == 6) <;> cases h7:(x == 7) <;> simp [List.contains,List.elem,h6,h7]
 have HK:=Lib.hid hK
 have hxb:=fun W (hW:Ext w1 W)=>xbytes_any a b c d bX W (hbX.ext hW) o1 (by omega) o3 (by omega) (by omega) (by omega) (by omega) (by omega)
 have HXb:=Lib.hid hxb
 clear hK hbC hxb Hr Hn
 have hw:=switch_ways _ _ _ _ _ _ _ HM.out
 clear HM
 have HK2:Hid (∀ W,Ext w1 W→Calls Tryz.prog 120 #[a.hunk.v,b.hunk.v] W (Ret (.tuple #[(a.hunk.commute b.hunk).1.v,(a.hunk.commute b.hunk).2.1.v,.bool (a.hunk.commute b.hunk).2.2]) W)):=Lib.hid (fun W _=>hcommute_any a.hunk b.hunk W n1 n2)
 generalize a.hunk.commute b.hunk=hh at hw HK2
 rcases hw with ⟨e1,hv⟩ | ⟨e1,e2,e3,hv⟩ | ⟨e1,e2,e3,e4,hv⟩ | ⟨e1,e2,e3,e4,e5,hv⟩ | ⟨e1,e2,e3,e4,e5,e6,hv⟩ | ⟨e1,e2,e3,e4,e5,e6,hv⟩ | ⟨e1,e2,e3,e4,e5,hv⟩ | ⟨e1,e2,e3,e4,hv⟩ | ⟨e1,e2,e3,e4,e5,e6,hv⟩ | ⟨e1,e2,e3,e4,e5,e6,hv⟩
 ·have Hv:=Lib.hid hv
  clear hv
  go_wp2_with (first
   | ((with_reducible refine (HK.out _ _ (Ext.refl _)).mono ?_);rintro e w2 ⟨rfl,rfl⟩)
   | ((with_reducible refine (HXb.out _ (Ext.refl _)).mono ?_);rintro e w2 ⟨rfl,hb2,hg2⟩))
  refine bodyPost_ret (v:=.bool false) (by simp [results,Tryz.results96,go_sem]) rfl ?_
  rw [Hv.out]
  exact ⟨rfl,hbX,hx.grown _⟩
 ·have Hv:=Lib.hid hv
  clear hv
  go_wp2_with (first
   | ((with_reducible refine (HK.out _ _ (Ext.refl _)).mono ?_);rintro e w2 ⟨rfl,rfl⟩)
   | ((with_reducible refine (HXb.out _ (Ext.refl _)).mono ?_);rintro e w2 ⟨rfl,hb2,hg2⟩))
  refine bodyPost_ret (v:=.bool false) (by simp [results,Tryz.results96,go_sem]) rfl ?_
  rw [Hv.out]
  exact ⟨rfl,hbX,hx.grown _⟩
 ·have Hv:=Lib.hid hv
  clear hv
  obtain ⟨h1,h2,ok⟩:=hh
  dsimp only at Hv
  clear HXb HK
  go_wp2_with fail
  obtain ⟨W1,hW1⟩:∃ W1:World,W1=w1:=⟨_,rfl⟩
  subst hW1
  have hy:=Ext.refl W1
  have HX:=Lib.hid hx
  clear hx
  have hx:=hy
  clear hy
  go_cut [6] (fun u6 wx=>Hid (W1.grownBy wx (some bX))∧Blk wx bX 128 (xarr a b (c.withHunk h1) (d.withHunk h2))∧u6=.bool ok)
  case first=>
   go_region_with (go_at_call 120;refine (HK2.out _ EX).mono ?_;rintro e w1 ⟨rfl,hx0⟩;obtain hy:=Ext.trans (a:=W1) EX hx0;clear hx;have hx:=hy;clear hy;have hnX:=BB hx0 (bX);(first | simp [↓heap_drew_at,↓heap_drewN_at,↓heap_alloc_at,↓heap_set_at,ne_two,ne_three,ne_two_left,ne_three_left,↓hbX.eq,hbX.lt,hbX.ne] at hnX | simp [↓heap_drew_at,↓heap_drewN_at,↓heap_alloc_at,↓heap_set_at,ne_two,ne_three,ne_two_left,ne_three_left] at hnX);(try clear hbX hcX hfX hlX);have hbX:=Blk.mk hnX;clear hnX;obtain ⟨hcX,hfX,hlX⟩:=hbX.all)
   all_goals (go_wp2_with fail;go_meet)
   all_goals exact ⟨Lib.hid (grown_set (grown_set (grown_set (grown_set (grown_set (grown_set (hx.grown _) _) _) _) _) _) _),xset_hunks h1 h2 hbX,rfl⟩
  case rest=>
   obtain ⟨HG2,hbX,rfl⟩:=hcut
   go_wp2_with fail
   refine bodyPost_ret (v:=.bool ok) (by simp [results,Tryz.results96,go_sem]) rfl ?_
   rw [Hv.out]
   exact ⟨rfl,hbX,grown_trans (HX.out.grown _) HG2.out⟩
 ·have Hv:=Lib.hid hv
  clear hv
  go_wp2_with (first
   | ((with_reducible refine (HK.out _ _ (Ext.refl _)).mono ?_);rintro e w2 ⟨rfl,rfl⟩)
   | ((with_reducible refine (HXb.out _ (Ext.refl _)).mono ?_);rintro e w2 ⟨rfl,hb2,hg2⟩))
  refine bodyPost_ret (v:=.bool (a.xbytes b c d).2.2) (by simp [results,Tryz.results96,go_sem]) rfl ?_
  rw [Hv.out]
  exact ⟨rfl,hb2,grown_trans (hx.grown _) hg2⟩
 ·have Hv:=Lib.hid hv
  clear hv
  go_wp2_with (first
   | ((with_reducible refine (HK.out _ _ (Ext.refl _)).mono ?_);rintro e w2 ⟨rfl,rfl⟩)
   | ((with_reducible refine (HXb.out _ (Ext.refl _)).mono ?_);rintro e w2 ⟨rfl,hb2,hg2⟩))
  refine bodyPost_ret (v:=.bool false) (by simp [results,Tryz.results96,go_sem]) rfl ?_
  rw [Hv.out]
  exact ⟨rfl,hbX,hx.grown _⟩
 ·have Hv:=Lib.hid hv
  clear hv
  go_wp2_with (first
   | ((with_reducible refine (HK.out _ _ (Ext.refl _)).mono ?_);rintro e w2 ⟨rfl,rfl⟩)
   | ((with_reducible refine (HXb.out _ (Ext.refl _)).mono ?_);rintro e w2 ⟨rfl,hb2,hg2⟩))
  refine bodyPost_ret (v:=.bool false) (by simp [results,Tryz.results96,go_sem]) rfl ?_
  rw [Hv.out]
  exact ⟨rfl,hbX,hx.grown _⟩
 ·have Hv:=Lib.hid hv
  clear hv
  go_wp2_with (first
   | ((with_reducible refine (HK.out _ _ (Ext.refl _)).mono ?_);rintro e w2 ⟨rfl,rfl⟩)
   | ((with_reducible refine (HXb.out _ (Ext.refl _)).mono ?_);rintro e w2 ⟨rfl,hb2,hg2⟩))
  refine bodyPost_ret (v:=.bool true) (by simp [results,Tryz.results96,go_sem]) rfl ?_
  rw [Hv.out]
  exact ⟨rfl,hbX,hx.grown _⟩
 ·have Hv:=Lib.hid hv
  clear hv
  go_wp2_with (first
   | ((with_reducible refine (HK.out _ _ (Ext.refl _)).mono ?_);rintro e w2 ⟨rfl,rfl⟩)
   | ((with_reducible refine (HXb.out _ (Ext.refl _)).mono ?_);rintro e w2 ⟨rfl,hb2,hg2⟩))
  refine bodyPost_ret (v:=.bool true) (by simp [results,Tryz.results96,go_sem]) rfl ?_
  rw [Hv.out]
  exact ⟨rfl,hbX,hx.grown _⟩
 ·have Hv:=Lib.hid hv
  clear hv
  go_wp2_with (first
   | ((with_reducible refine (HK.out _ _ (Ext.refl _)).mono ?_);rintro e w2 ⟨rfl,rfl⟩)
   | ((with_reducible refine (HXb.out _ (Ext.refl _)).mono ?_);rintro e w2 ⟨rfl,hb2,hg2⟩))
  refine bodyPost_ret (v:=.bool true) (by simp [results,Tryz.results96,go_sem]) rfl ?_
  rw [Hv.out]
  exact ⟨rfl,hbX,hx.grown _⟩
 ·have Hv:=Lib.hid hv
  clear hv
  go_wp2_with (first
   | ((with_reducible refine (HK.out _ _ (Ext.refl _)).mono ?_);rintro e w2 ⟨rfl,rfl⟩)
   | ((with_reducible refine (HXb.out _ (Ext.refl _)).mono ?_);rintro e w2 ⟨rfl,hb2,hg2⟩))
  refine bodyPost_ret (v:=.bool true) (by simp [results,Tryz.results96,go_sem]) rfl ?_
  rw [Hv.out]
  exact ⟨rfl,hbX,hx.grown _⟩
theorem xcontents_any (a b c d:Pv) (bX:Nat) (w:World) (hbX:Blk w bX 128 (xarr a b c d))
 (o1:0≤a.off) (o2:a.off≤65536) (o3:0≤b.off) (o4:b.off≤65536) (s1:a.so.size≤65536) (s2:a.sn.size≤65536) (s3:b.so.size≤65536) (s4:b.sn.size≤65536) (n1:a.hunk.fair) (n2:b.hunk.fair):
 Calls Tryz.prog 96 #[.pointer (some ⟨bX,0,none⟩)] w (XRet bX a b (a.xcontents b c d).1 (a.xcontents b c d).2.1 (a.xcontents b c d).2.2 w):=by
 by_cases hf:Qm.adds a.kind=true∨Qm.adds b.kind=true∨Qm.eqB a.path c.path=false
 ·have hm:a.xcontents b c d=(c,d,true):=by unfold Pv.xcontents;rw [if_pos hf]
  rw [hm]
  exact xcontents_free a b c d bX w hbX hf
 ·have f1:Qm.adds a.kind=false:=by cases h:Qm.adds a.kind <;> simp_all
  have f2:Qm.adds b.kind=false:=by cases h:Qm.adds b.kind <;> simp_all
  have he:(a.path.toList == c.path.toList)=true:=by
   cases h:(a.path.toList == c.path.toList)
   ·exact absurd (.inr (.inr h)) hf
   ·rfl
  exact xcontents_met a b c d bX w hbX f1 f2 he o1 o2 o3 o4 s1 s2 s3 s4 n1 n2
end Go.Proofs.YtfmgnaigcibcaaaGreatDoor
