import Derived.Test.YtfmgnaigcibcaaaGreatDoorTO
import Derived.Test.YtfmgnaigcibcaaaGreatDoorTB
set_option linter.unusedSimpArgs false
set_option linter.unusedVariables false
namespace Go.Proofs.YtfmgnaigcibcaaaGreatDoor
open Go.RowKit
abbrev xarr (a b c d:Pv):Array Value:=
 #[.int .i64 a.kind,.string a.path,.string a.to_,.int .i64 a.ty,.int .i64 a.at_,.slice a.A1 a.n1 a.c1,.slice a.A2 a.n2 a.c2,.int .i64 a.off,.string a.so,.string a.sn,.int .i64 a.om,.int .i64 a.nm,
  .int .i64 b.kind,.string b.path,.string b.to_,.int .i64 b.ty,.int .i64 b.at_,.slice b.A1 b.n1 b.c1,.slice b.A2 b.n2 b.c2,.int .i64 b.off,.string b.so,.string b.sn,.int .i64 b.om,.int .i64 b.nm,
  .int .i64 c.kind,.string c.path,.string c.to_,.int .i64 c.ty,.int .i64 c.at_,.slice c.A1 c.n1 c.c1,.slice c.A2 c.n2 c.c2,.int .i64 c.off,.string c.so,.string c.sn,.int .i64 c.om,.int .i64 c.nm,
  .int .i64 d.kind,.string d.path,.string d.to_,.int .i64 d.ty,.int .i64 d.at_,.slice d.A1 d.n1 d.c1,.slice d.A2 d.n2 d.c2,.int .i64 d.off,.string d.so,.string d.sn,.int .i64 d.om,.int .i64 d.nm]
def Qm.xmoves (ak:Int) (at_:ByteArray) (bk:Int) (bp:ByteArray):Bool:=ak != 5 || (bk != 5 || !Qm.eqB at_ bp)
set_option maxHeartbeats 4000000 in
set_option maxRecDepth 100000 in
theorem xmoves_any (a b c d:Pv) (bX:Nat) (w:World) (hbX:Blk w bX 128 (xarr a b c d)):
 Calls Tryz.prog 95 #[.pointer (some ⟨bX,0,none⟩)] w (Ret (.bool (Qm.xmoves a.kind a.to_ b.kind b.path)) w):=by
 have hcX:=hbX.cell
 have hlX:=hbX.lt
 cases k1:(a.kind != 5)
 ·cases k2:(b.kind != 5)
  ·
   go_enter Tryz.func95,Tryz.ntmps95
   have hx:=Ext.refl w
   go_wp2
   go_quiet (fail)
   go_wp2
   (go_ret;refine Ret.mk ?_ ?_;(focus (simp [Qm.xmoves,Qm.eqB,k1,k2];done));(focus (exact EX;done)))
  ·
   go_enter Tryz.func95,Tryz.ntmps95
   have hx:=Ext.refl w
   go_wp2
   go_quiet (fail)
   go_wp2
   (go_ret;refine Ret.mk ?_ ?_;(focus (simp [Qm.xmoves,k1,k2];done));(focus (exact EX;done)))
 ·
  go_enter Tryz.func95,Tryz.ntmps95
  have hx:=Ext.refl w
  go_wp2
  go_quiet (fail)
  go_wp2
  (go_ret;refine Ret.mk ?_ ?_;(focus (simp [Qm.xmoves,k1];done));(focus (exact EX;done)))
def Qm.xempty (bk ak:Int) (ap cp:ByteArray):Bool:=bk != 4 || (!Qm.frees ak || !Qm.below ap cp)
set_option maxHeartbeats 4000000 in
set_option maxRecDepth 100000 in
theorem xempty_any (a b c d:Pv) (bX:Nat) (w:World) (hbX:Blk w bX 128 (xarr a b c d)) (h1:c.path.size≤4611686018427387904):
 Calls Tryz.prog 94 #[.pointer (some ⟨bX,0,none⟩)] w (Ret (.bool (Qm.xempty b.kind a.kind a.path c.path)) w):=by
 obtain ⟨hcX,hfX,hlX⟩:=hbX.all
 cases k1:(b.kind != 4)
 ·have hfr:=fun W=>frees_any a W
  cases k2:Qm.frees a.kind
  all_goals
   rw [k2] at hfr
   have K2:=Lib.hid k2
   have Hfr:=Lib.hid hfr
   clear k2 hfr
   go_enter Tryz.func94,Tryz.ntmps94
   have hx:=Ext.refl w
   go_wp2
   refine wp_region_ext (by kernel_rfl) (by kernel_rfl) ?_
   repeat (first | go_big_quiet_skip | (go_big_quiet_want;first | (go_big_quiet_op;go_big_quiet_on) | (apply quiet_at;intro W hW;have hxW:=Ext.trans (a:=w) EX hW;have hnX:=BB hW (bX);(first | simp [↓heap_drew_at,↓heap_drewN_at,↓heap_alloc_at,↓heap_set_at,ne_two,ne_three,ne_two_left,ne_three_left,↓hbX.eq,hbX.lt,hbX.ne] at hnX | simp [↓heap_drew_at,↓heap_drewN_at,↓heap_alloc_at,↓heap_set_at,ne_two,ne_three,ne_two_left,ne_three_left] at hnX);(try clear hbX hcX hfX hlX);have hbX:=Blk.mk hnX;clear hnX;obtain ⟨hcX,hfX,hlX⟩:=hbX.all;go_simp;(first | exact rfl | (simp only [Oper.quietUpon,true_and];first | exact rfl | (first | (go_at_call 117;exact quiet_call hW (Hfr.out _) (fun _ _ h=>h)) | go_at_call 118;exact quiet_call hW (below_any _ _ _ h1) (fun _ _ h=>h))) | (first | (go_at_call 117;exact quiet_call hW (Hfr.out _) (fun _ _ h=>h)) | go_at_call 118;exact quiet_call hW (below_any _ _ _ h1) (fun _ _ h=>h)));go_big_quiet_on;simp only [Act.put,sA,s0,sS])))
   refine wpQuiet_nil ?_
   intro w1 hx0
   have hy:=Ext.trans (a:=w) EX hx0;clear hx;have hx:=hy;clear hy;have hnX:=BB hx0 (bX);(first | simp [↓heap_drew_at,↓heap_drewN_at,↓heap_alloc_at,↓heap_set_at,ne_two,ne_three,ne_two_left,ne_three_left,↓hbX.eq,hbX.lt,hbX.ne] at hnX | simp [↓heap_drew_at,↓heap_drewN_at,↓heap_alloc_at,↓heap_set_at,ne_two,ne_three,ne_two_left,ne_three_left] at hnX);(try clear hbX hcX hfX hlX);have hbX:=Blk.mk hnX;clear hnX;obtain ⟨hcX,hfX,hlX⟩:=hbX.all;(try clear hx0)
   go_wp2
   (go_ret;refine Ret.mk ?_ ?_;(focus (simp [Qm.xempty,k1,K2.out];done));(focus (exact EX;done)))
 ·
  go_enter Tryz.func94,Tryz.ntmps94
  have hx:=Ext.refl w
  go_wp2
  refine wp_region_ext (by kernel_rfl) (by kernel_rfl) ?_
  repeat (first | go_big_quiet_skip | (go_big_quiet_want;first | (go_big_quiet_op;go_big_quiet_on) | (apply quiet_at;intro W hW;have hxW:=Ext.trans (a:=w) EX hW;have hnX:=BB hW (bX);(first | simp [↓heap_drew_at,↓heap_drewN_at,↓heap_alloc_at,↓heap_set_at,ne_two,ne_three,ne_two_left,ne_three_left,↓hbX.eq,hbX.lt,hbX.ne] at hnX | simp [↓heap_drew_at,↓heap_drewN_at,↓heap_alloc_at,↓heap_set_at,ne_two,ne_three,ne_two_left,ne_three_left] at hnX);(try clear hbX hcX hfX hlX);have hbX:=Blk.mk hnX;clear hnX;obtain ⟨hcX,hfX,hlX⟩:=hbX.all;go_simp;(first | exact rfl | (simp only [Oper.quietUpon,true_and];first | exact rfl | (fail)) | (fail));go_big_quiet_on;simp only [Act.put,sA,s0,sS])))
  refine wpQuiet_nil ?_
  intro w1 hx0
  have hy:=Ext.trans (a:=w) EX hx0;clear hx;have hx:=hy;clear hy;have hnX:=BB hx0 (bX);(first | simp [↓heap_drew_at,↓heap_drewN_at,↓heap_alloc_at,↓heap_set_at,ne_two,ne_three,ne_two_left,ne_three_left,↓hbX.eq,hbX.lt,hbX.ne] at hnX | simp [↓heap_drew_at,↓heap_drewN_at,↓heap_alloc_at,↓heap_set_at,ne_two,ne_three,ne_two_left,ne_three_left] at hnX);(try clear hbX hcX hfX hlX);have hbX:=Blk.mk hnX;clear hnX;obtain ⟨hcX,hfX,hlX⟩:=hbX.all;(try clear hx0)
  go_wp2
  (go_ret;refine Ret.mk ?_ ?_;(focus (simp [Qm.xempty,k1];done));(focus (exact EX;done)))
def Qm.news (k:Int) (p t:ByteArray) (k':Int) (p' t':ByteArray):Bool:=
 !(Qm.newPath k p t).2 || (!(Qm.newPath k' p' t').2 || !Qm.eqB (Qm.newPath k p t).1 (Qm.newPath k' p' t').1)
set_option maxHeartbeats 4000000 in
set_option maxRecDepth 100000 in
theorem news_any (p q:Pv) (w:World):
 Calls Tryz.prog 115 #[p.v,q.v] w (Ret (.bool (Qm.news p.kind p.path p.to_ q.kind q.path q.to_)) w):=by
 have hp:=fun W=>newPath_any p W
 have hq:=fun W=>newPath_any q W
 obtain ⟨s,hs⟩:∃ s,s=(Qm.newPath p.kind p.path p.to_).1:=⟨_,rfl⟩
 obtain ⟨t,ht⟩:∃ t,t=(Qm.newPath q.kind q.path q.to_).1:=⟨_,rfl⟩
 rw [← hs] at hp
 rw [← ht] at hq
 cases k1:(Qm.newPath p.kind p.path p.to_).2
 all_goals cases k2:(Qm.newPath q.kind q.path q.to_).2
 all_goals
  rw [k1] at hp
  rw [k2] at hq
  have Hp:=Lib.hid hp
  have Hq:=Lib.hid hq
  have HM:Hid (Qm.news p.kind p.path p.to_ q.kind q.path q.to_=_):=Lib.hid (by unfold Qm.news;rw [k1,k2,← hs,← ht])
  clear k1 k2 hs ht hp hq
  go_enter Tryz.func115,Tryz.ntmps115
  have hx:=Ext.refl w
  go_wp2_with fail
  refine (Hp.out _).mono ?_
  rintro e w1 ⟨rfl,hx0⟩
  have hy:=Ext.trans (a:=w) EX hx0;clear hx;have hx:=hy;clear hy;have hn0:=BB hx0 (w.heap.size);have hn1:=BB hx0 (w.heap.size+1);(first | simp [↓heap_drew_at,↓heap_drewN_at,↓heap_alloc_at,↓heap_set_at,ne_two,ne_three,ne_two_left,ne_three_left,↓hb0.eq,hb0.lt,hb0.ne,↓hb1.eq,hb1.lt,hb1.ne] at hn0 hn1 | simp [↓heap_drew_at,↓heap_drewN_at,↓heap_alloc_at,↓heap_set_at,ne_two,ne_three,ne_two_left,ne_three_left] at hn0 hn1);(try clear hb0 hc0 hf0 hl0);(try clear hb1 hc1 hf1 hl1);have hb0:=Blk.mk hn0;clear hn0;obtain ⟨hc0,hf0,hl0⟩:=hb0.all;have hb1:=Blk.mk hn1;clear hn1;obtain ⟨hc1,hf1,hl1⟩:=hb1.all;(try clear hx0)
  go_wp2_with fail
  refine (Hq.out _).mono ?_
  rintro e w1 ⟨rfl,hx0⟩
  have hy:=Ext.trans (a:=w) EX hx0;clear hx;have hx:=hy;clear hy;have hn0:=BB hx0 (w.heap.size);have hn1:=BB hx0 (w.heap.size+1);(first | simp [↓heap_drew_at,↓heap_drewN_at,↓heap_alloc_at,↓heap_set_at,ne_two,ne_three,ne_two_left,ne_three_left,↓hb0.eq,hb0.lt,hb0.ne,↓hb1.eq,hb1.lt,hb1.ne] at hn0 hn1 | simp [↓heap_drew_at,↓heap_drewN_at,↓heap_alloc_at,↓heap_set_at,ne_two,ne_three,ne_two_left,ne_three_left] at hn0 hn1);(try clear hb0 hc0 hf0 hl0);(try clear hb1 hc1 hf1 hl1);have hb0:=Blk.mk hn0;clear hn0;obtain ⟨hc0,hf0,hl0⟩:=hb0.all;have hb1:=Blk.mk hn1;clear hn1;obtain ⟨hc1,hf1,hl1⟩:=hb1.all;(try clear hx0)
  go_wp2_with fail
  all_goals (go_ret;refine Ret.mk ?_ ?_;(focus (rw [HM.out];simp [Qm.eqB, *];done));(focus (exact EX;done)))
def Qm.xfree (a b c d:Pv):Bool:=
 !((Qm.newPath c.kind c.path c.to_).2 && Qm.frees a.kind && Qm.eqB (Qm.newPath c.kind c.path c.to_).1 a.path) &&
   (Qm.news a.kind a.path a.to_ b.kind b.path b.to_ && Qm.news d.kind d.path d.to_ c.kind c.path c.to_)
set_option maxHeartbeats 8000000 in
set_option maxRecDepth 100000 in
theorem xfree_any (a b c d:Pv) (bX:Nat) (w:World) (hbX:Blk w bX 128 (xarr a b c d)):
 Calls Tryz.prog 93 #[.pointer (some ⟨bX,0,none⟩)] w (Ret (.bool (Qm.xfree a b c d)) w):=by
 obtain ⟨hcX,hfX,hlX⟩:=hbX.all
 have hp:=fun W=>newPath_any c W
 have hr:=fun W=>frees_any a W
 have hn:=fun W=>news_any a b W
 have hm:=fun W=>news_any d c W
 have hx:=Ext.refl w
 have HM:Hid (Qm.xfree a b c d=_):=Lib.hid (by unfold Qm.xfree;rfl)
 generalize Qm.xfree a b c d=R at HM ⊢
 generalize (Qm.newPath c.kind c.path c.to_).1=s at hp HM
 generalize Qm.news d.kind d.path d.to_ c.kind c.path c.to_=N2 at hm HM
 generalize (Qm.newPath c.kind c.path c.to_).2=k1 at hp HM
 generalize Qm.frees a.kind=k2 at hr HM
 generalize Qm.news a.kind a.path a.to_ b.kind b.path b.to_=k3 at hn HM
 have Hp:=Lib.hid hp
 have Hr:=Lib.hid hr
 have Hn:=Lib.hid hn
 have Hm:=Lib.hid hm
 clear hp hr hn hm
 cases k1
 ·cases k3
  all_goals
   go_enter Tryz.func93,Tryz.ntmps93
   go_wp2_with fail
   refine (Hp.out _).mono ?_
   rintro e w1 ⟨rfl,hx0⟩
   have hy:=Ext.trans (a:=w) EX hx0;clear hx;have hx:=hy;clear hy;have hnX:=BB hx0 (bX);(first | simp [↓heap_drew_at,↓heap_drewN_at,↓heap_alloc_at,↓heap_set_at,ne_two,ne_three,ne_two_left,ne_three_left,↓hbX.eq,hbX.lt,hbX.ne] at hnX | simp [↓heap_drew_at,↓heap_drewN_at,↓heap_alloc_at,↓heap_set_at,ne_two,ne_three,ne_two_left,ne_three_left] at hnX);(try clear hbX hcX hfX hlX);have hbX:=Blk.mk hnX;clear hnX;obtain ⟨hcX,hfX,hlX⟩:=hbX.all;(try clear hx0)
   go_wp2_with fail
   refine wp_region_ext (by kernel_rfl) (by kernel_rfl) ?_
   repeat (first | go_big_quiet_skip | (go_big_quiet_want;first | (go_big_quiet_op;go_big_quiet_on) | (apply quiet_at;intro W hW;have hxW:=Ext.trans (a:=w) EX hW;have hnX:=BB hW (bX);(first | simp [↓heap_drew_at,↓heap_drewN_at,↓heap_alloc_at,↓heap_set_at,ne_two,ne_three,ne_two_left,ne_three_left,↓hbX.eq,hbX.lt,hbX.ne] at hnX | simp [↓heap_drew_at,↓heap_drewN_at,↓heap_alloc_at,↓heap_set_at,ne_two,ne_three,ne_two_left,ne_three_left] at hnX);(try clear hbX hcX hfX hlX);have hbX:=Blk.mk hnX;clear hnX;obtain ⟨hcX,hfX,hlX⟩:=hbX.all;go_simp;(first | exact rfl | (simp only [Oper.quietUpon,true_and];first | exact rfl | (first | (go_at_call 117;exact quiet_call hW (Hr.out _) (fun _ _ h=>h)) | with_reducible exact quiet_call hW (Hn.out _) (fun _ _ h=>Ret.bcell h) | with_reducible exact quiet_call hW (Hm.out _) (fun _ _ h=>Ret.bcell h))) | (first | (go_at_call 117;exact quiet_call hW (Hr.out _) (fun _ _ h=>h)) | with_reducible exact quiet_call hW (Hn.out _) (fun _ _ h=>Ret.bcell h) | with_reducible exact quiet_call hW (Hm.out _) (fun _ _ h=>Ret.bcell h)));go_big_quiet_on;simp only [Act.put,sA,s0,sS])))
   refine wpQuiet_nil ?_
   intro w1 hx0
   have hy:=Ext.trans (a:=w) EX hx0;clear hx;have hx:=hy;clear hy;have hnX:=BB hx0 (bX);(first | simp [↓heap_drew_at,↓heap_drewN_at,↓heap_alloc_at,↓heap_set_at,ne_two,ne_three,ne_two_left,ne_three_left,↓hbX.eq,hbX.lt,hbX.ne] at hnX | simp [↓heap_drew_at,↓heap_drewN_at,↓heap_alloc_at,↓heap_set_at,ne_two,ne_three,ne_two_left,ne_three_left] at hnX);(try clear hbX hcX hfX hlX);have hbX:=Blk.mk hnX;clear hnX;obtain ⟨hcX,hfX,hlX⟩:=hbX.all;(try clear hx0)
   go_wp2
   (go_ret;refine Ret.mk ?_ ?_;(focus (rw [HM.out];simp [Qm.eqB, *];done));(focus (exact EX;done)))
 cases k2
 ·cases k3
  all_goals
   go_enter Tryz.func93,Tryz.ntmps93
   go_wp2_with fail
   refine (Hp.out _).mono ?_
   rintro e w1 ⟨rfl,hx0⟩
   have hy:=Ext.trans (a:=w) EX hx0;clear hx;have hx:=hy;clear hy;have hnX:=BB hx0 (bX);(first | simp [↓heap_drew_at,↓heap_drewN_at,↓heap_alloc_at,↓heap_set_at,ne_two,ne_three,ne_two_left,ne_three_left,↓hbX.eq,hbX.lt,hbX.ne] at hnX | simp [↓heap_drew_at,↓heap_drewN_at,↓heap_alloc_at,↓heap_set_at,ne_two,ne_three,ne_two_left,ne_three_left] at hnX);(try clear hbX hcX hfX hlX);have hbX:=Blk.mk hnX;clear hnX;obtain ⟨hcX,hfX,hlX⟩:=hbX.all;(try clear hx0)
   go_wp2_with fail
   refine wp_region_ext (by kernel_rfl) (by kernel_rfl) ?_
   repeat (first | go_big_quiet_skip | (go_big_quiet_want;first | (go_big_quiet_op;go_big_quiet_on) | (apply quiet_at;intro W hW;have hxW:=Ext.trans (a:=w) EX hW;have hnX:=BB hW (bX);(first | simp [↓heap_drew_at,↓heap_drewN_at,↓heap_alloc_at,↓heap_set_at,ne_two,ne_three,ne_two_left,ne_three_left,↓hbX.eq,hbX.lt,hbX.ne] at hnX | simp [↓heap_drew_at,↓heap_drewN_at,↓heap_alloc_at,↓heap_set_at,ne_two,ne_three,ne_two_left,ne_three_left] at hnX);(try clear hbX hcX hfX hlX);have hbX:=Blk.mk hnX;clear hnX;obtain ⟨hcX,hfX,hlX⟩:=hbX.all;go_simp;(first | exact rfl | (simp only [Oper.quietUpon,true_and];first | exact rfl | (first | (go_at_call 117;exact quiet_call hW (Hr.out _) (fun _ _ h=>h)) | with_reducible exact quiet_call hW (Hn.out _) (fun _ _ h=>Ret.bcell h) | with_reducible exact quiet_call hW (Hm.out _) (fun _ _ h=>Ret.bcell h))) | (first | (go_at_call 117;exact quiet_call hW (Hr.out _) (fun _ _ h=>h)) | with_reducible exact quiet_call hW (Hn.out _) (fun _ _ h=>Ret.bcell h) | with_reducible exact quiet_call hW (Hm.out _) (fun _ _ h=>Ret.bcell h)));go_big_quiet_on;simp only [Act.put,sA,s0,sS])))
   refine wpQuiet_nil ?_
   intro w1 hx0
   have hy:=Ext.trans (a:=w) EX hx0;clear hx;have hx:=hy;clear hy;have hnX:=BB hx0 (bX);(first | simp [↓heap_drew_at,↓heap_drewN_at,↓heap_alloc_at,↓heap_set_at,ne_two,ne_three,ne_two_left,ne_three_left,↓hbX.eq,hbX.lt,hbX.ne] at hnX | simp [↓heap_drew_at,↓heap_drewN_at,↓heap_alloc_at,↓heap_set_at,ne_two,ne_three,ne_two_left,ne_three_left] at hnX);(try clear hbX hcX hfX hlX);have hbX:=Blk.mk hnX;clear hnX;obtain ⟨hcX,hfX,hlX⟩:=hbX.all;(try clear hx0)
   go_wp2
   (go_ret;refine Ret.mk ?_ ?_;(focus (rw [HM.out];simp [Qm.eqB, *];done));(focus (exact EX;done)))
 cases he:(s.toList == a.path.toList)
 ·cases k3
  all_goals
   go_enter Tryz.func93,Tryz.ntmps93
   go_wp2_with fail
   refine (Hp.out _).mono ?_
   rintro e w1 ⟨rfl,hx0⟩
   have hy:=Ext.trans (a:=w) EX hx0;clear hx;have hx:=hy;clear hy;have hnX:=BB hx0 (bX);(first | simp [↓heap_drew_at,↓heap_drewN_at,↓heap_alloc_at,↓heap_set_at,ne_two,ne_three,ne_two_left,ne_three_left,↓hbX.eq,hbX.lt,hbX.ne] at hnX | simp [↓heap_drew_at,↓heap_drewN_at,↓heap_alloc_at,↓heap_set_at,ne_two,ne_three,ne_two_left,ne_three_left] at hnX);(try clear hbX hcX hfX hlX);have hbX:=Blk.mk hnX;clear hnX;obtain ⟨hcX,hfX,hlX⟩:=hbX.all;(try clear hx0)
   go_wp2_with fail
   refine wp_region_ext (by kernel_rfl) (by kernel_rfl) ?_
   repeat (first | go_big_quiet_skip | (go_big_quiet_want;first | (go_big_quiet_op;go_big_quiet_on) | (apply quiet_at;intro W hW;have hxW:=Ext.trans (a:=w) EX hW;have hnX:=BB hW (bX);(first | simp [↓heap_drew_at,↓heap_drewN_at,↓heap_alloc_at,↓heap_set_at,ne_two,ne_three,ne_two_left,ne_three_left,↓hbX.eq,hbX.lt,hbX.ne] at hnX | simp [↓heap_drew_at,↓heap_drewN_at,↓heap_alloc_at,↓heap_set_at,ne_two,ne_three,ne_two_left,ne_three_left] at hnX);(try clear hbX hcX hfX hlX);have hbX:=Blk.mk hnX;clear hnX;obtain ⟨hcX,hfX,hlX⟩:=hbX.all;go_simp;(first | exact rfl | (simp only [Oper.quietUpon,true_and];first | exact rfl | (first | (go_at_call 117;exact quiet_call hW (Hr.out _) (fun _ _ h=>h)) | with_reducible exact quiet_call hW (Hn.out _) (fun _ _ h=>Ret.bcell h) | with_reducible exact quiet_call hW (Hm.out _) (fun _ _ h=>Ret.bcell h))) | (first | (go_at_call 117;exact quiet_call hW (Hr.out _) (fun _ _ h=>h)) | with_reducible exact quiet_call hW (Hn.out _) (fun _ _ h=>Ret.bcell h) | with_reducible exact quiet_call hW (Hm.out _) (fun _ _ h=>Ret.bcell h)));go_big_quiet_on;simp only [Act.put,sA,s0,sS])))
   refine wpQuiet_nil ?_
   intro w1 hx0
   have hy:=Ext.trans (a:=w) EX hx0;clear hx;have hx:=hy;clear hy;have hnX:=BB hx0 (bX);(first | simp [↓heap_drew_at,↓heap_drewN_at,↓heap_alloc_at,↓heap_set_at,ne_two,ne_three,ne_two_left,ne_three_left,↓hbX.eq,hbX.lt,hbX.ne] at hnX | simp [↓heap_drew_at,↓heap_drewN_at,↓heap_alloc_at,↓heap_set_at,ne_two,ne_three,ne_two_left,ne_three_left] at hnX);(try clear hbX hcX hfX hlX);have hbX:=Blk.mk hnX;clear hnX;obtain ⟨hcX,hfX,hlX⟩:=hbX.all;(try clear hx0)
   go_wp2
   (go_ret;refine Ret.mk ?_ ?_;(focus (rw [HM.out];simp [Qm.eqB, *];done));(focus (exact EX;done)))
 ·
  go_enter Tryz.func93,Tryz.ntmps93
  go_wp2_with fail
  refine (Hp.out _).mono ?_
  rintro e w1 ⟨rfl,hx0⟩
  have hy:=Ext.trans (a:=w) EX hx0;clear hx;have hx:=hy;clear hy;have hnX:=BB hx0 (bX);(first | simp [↓heap_drew_at,↓heap_drewN_at,↓heap_alloc_at,↓heap_set_at,ne_two,ne_three,ne_two_left,ne_three_left,↓hbX.eq,hbX.lt,hbX.ne] at hnX | simp [↓heap_drew_at,↓heap_drewN_at,↓heap_alloc_at,↓heap_set_at,ne_two,ne_three,ne_two_left,ne_three_left] at hnX);(try clear hbX hcX hfX hlX);have hbX:=Blk.mk hnX;clear hnX;obtain ⟨hcX,hfX,hlX⟩:=hbX.all;(try clear hx0)
  go_wp2_with fail
  refine wp_region_ext (by kernel_rfl) (by kernel_rfl) ?_
  repeat (first | go_big_quiet_skip | (go_big_quiet_want;first | (go_big_quiet_op;go_big_quiet_on) | (apply quiet_at;intro W hW;have hxW:=Ext.trans (a:=w) EX hW;have hnX:=BB hW (bX);(first | simp [↓heap_drew_at,↓heap_drewN_at,↓heap_alloc_at,↓heap_set_at,ne_two,ne_three,ne_two_left,ne_three_left,↓hbX.eq,hbX.lt,hbX.ne] at hnX | simp [↓heap_drew_at,↓heap_drewN_at,↓heap_alloc_at,↓heap_set_at,ne_two,ne_three,ne_two_left,ne_three_left] at hnX);(try clear hbX hcX hfX hlX);have hbX:=Blk.mk hnX;clear hnX;obtain ⟨hcX,hfX,hlX⟩:=hbX.all;go_simp;(first | exact rfl | (simp only [Oper.quietUpon,true_and];first | exact rfl | (first | (go_at_call 117;exact quiet_call hW (Hr.out _) (fun _ _ h=>h)) | with_reducible exact quiet_call hW (Hn.out _) (fun _ _ h=>Ret.bcell h) | with_reducible exact quiet_call hW (Hm.out _) (fun _ _ h=>Ret.bcell h))) | (first | (go_at_call 117;exact quiet_call hW (Hr.out _) (fun _ _ h=>h)) | with_reducible exact quiet_call hW (Hn.out _) (fun _ _ h=>Ret.bcell h) | with_reducible exact quiet_call hW (Hm.out _) (fun _ _ h=>Ret.bcell h)));go_big_quiet_on;simp only [Act.put,sA,s0,sS])))
  refine wpQuiet_nil ?_
  intro w1 hx0
  have hy:=Ext.trans (a:=w) EX hx0;clear hx;have hx:=hy;clear hy;have hnX:=BB hx0 (bX);(first | simp [↓heap_drew_at,↓heap_drewN_at,↓heap_alloc_at,↓heap_set_at,ne_two,ne_three,ne_two_left,ne_three_left,↓hbX.eq,hbX.lt,hbX.ne] at hnX | simp [↓heap_drew_at,↓heap_drewN_at,↓heap_alloc_at,↓heap_set_at,ne_two,ne_three,ne_two_left,ne_three_left] at hnX);(try clear hbX hcX hfX hlX);have hbX:=Blk.mk hnX;clear hnX;obtain ⟨hcX,hfX,hlX⟩:=hbX.all;(try clear hx0)
  go_wp2
  (go_ret;refine Ret.mk ?_ ?_;(focus (rw [HM.out];simp [Qm.eqB, *];done));(focus (exact EX;done)))
end Go.Proofs.YtfmgnaigcibcaaaGreatDoor
namespace Go.Proofs.YtfmgnaigcibcaaaGreatDoor
open Go.RowKit
def Pv.xbytes (a b c d:Pv):Pv × Pv × Bool:=
 if a.off+a.sn.size < b.off then ({ c with off:=b.off - ((a.sn.size:Int) - a.so.size) },d,true)
 else if b.off+b.so.size < a.off then (c,{ d with off:=a.off+b.sn.size - b.so.size },true)
 else (c,d,false)
def XRet (bX:Nat) (a b c d:Pv) (r:Bool) (w:World) (e:Ending) (w':World):Prop:=
 e=.returned (.bool r)∧Blk w' bX 128 (xarr a b c d)∧w.grownBy w' (some bX)
theorem Ext.grown {w w':World} (h:Ext w w') (r:Option Nat):w.grownBy w' r:=⟨h.os,h.tape,h.output,h.size,fun k hk _=>h.block k hk⟩
theorem grown_set {w w':World} {b k:Nat} (h:w.grownBy w' (some b)) (v:Value):w.grownBy (w'.setCell ⟨b,k,none⟩ v) (some b):=
 ⟨h.os,h.tape,h.output,by simpa using h.size,fun i hi hne=>(Below.heap_setCell w' ⟨b,k,none⟩ v i (fun e=>hne (by rw [e]))).trans (h.block i hi hne)⟩
set_option maxHeartbeats 8000000 in
set_option maxRecDepth 100000 in
theorem xbytes_any (a b c d:Pv) (bX:Nat) (w:World) (hbX:Blk w bX 128 (xarr a b c d)) (h1:0≤a.off) (h2:a.off≤1152921504606846976) (h3:0≤b.off) (h4:b.off≤1152921504606846976)
 (s1:a.so.size≤1152921504606846976) (s2:a.sn.size≤1152921504606846976) (s3:b.so.size≤1152921504606846976) (s4:b.sn.size≤1152921504606846976):
 Calls Tryz.prog 121 #[.pointer (some ⟨bX,0,none⟩)] w (XRet bX a b (a.xbytes b c d).1 (a.xbytes b c d).2.1 (a.xbytes b c d).2.2 w):=by
 obtain ⟨hcX,hfX,hlX⟩:=hbX.all
 have w1':IntKind.i64.wrap (a.off+(a.sn.size:Int))=a.off+a.sn.size:=IntWalk.i64_in _ (by omega)
 have w2':IntKind.i64.wrap ((a.sn.size:Int) - a.so.size)=(a.sn.size:Int) - a.so.size:=IntWalk.i64_in _ (by omega)
 have w3':IntKind.i64.wrap (b.off+(b.so.size:Int))=b.off+b.so.size:=IntWalk.i64_in _ (by omega)
 have w4':IntKind.i64.wrap (a.off+(b.sn.size:Int))=a.off+b.sn.size:=IntWalk.i64_in _ (by omega)
 have w5':IntKind.i64.wrap (a.off+(b.sn.size:Int) - b.so.size)=a.off+b.sn.size - b.so.size:=IntWalk.i64_in _ (by omega)
 by_cases k1:a.off+a.sn.size < b.off
 ·have hm:a.xbytes b c d=({ c with off:=b.off - ((a.sn.size:Int) - a.so.size) },d,true):=by rw [Pv.xbytes,if_pos k1]
  rw [hm]
  clear hm
  go_enter Tryz.func121,Tryz.ntmps121
  have hx:=Ext.refl w
  go_wp2
  refine wp_region_ext (by kernel_rfl) (by kernel_rfl) ?_
  repeat (first | go_big_quiet_skip | (go_big_quiet_want;first | (go_big_quiet_op;go_big_quiet_on) | (apply quiet_at;intro W hW;have hxW:=Ext.trans (a:=w) EX hW;have hnX:=BB hW (bX);(first | simp [↓heap_drew_at,↓heap_drewN_at,↓heap_alloc_at,↓heap_set_at,ne_two,ne_three,ne_two_left,ne_three_left,↓hbX.eq,hbX.lt,hbX.ne] at hnX | simp [↓heap_drew_at,↓heap_drewN_at,↓heap_alloc_at,↓heap_set_at,ne_two,ne_three,ne_two_left,ne_three_left] at hnX);(try clear hbX hcX hfX hlX);have hbX:=Blk.mk hnX;clear hnX;obtain ⟨hcX,hfX,hlX⟩:=hbX.all;go_simp;(first | exact rfl | (simp only [Oper.quietUpon,true_and];first | exact rfl | (fail)) | (fail));go_big_quiet_on;simp only [Act.put,sA,s0,sS])))
  refine wpQuiet_nil ?_
  intro w1 hx0
  have hy:=Ext.trans (a:=w) EX hx0;clear hx;have hx:=hy;clear hy;have hnX:=BB hx0 (bX);(first | simp [↓heap_drew_at,↓heap_drewN_at,↓heap_alloc_at,↓heap_set_at,ne_two,ne_three,ne_two_left,ne_three_left,↓hbX.eq,hbX.lt,hbX.ne] at hnX | simp [↓heap_drew_at,↓heap_drewN_at,↓heap_alloc_at,↓heap_set_at,ne_two,ne_three,ne_two_left,ne_three_left] at hnX);(try clear hbX hcX hfX hlX);have hbX:=Blk.mk hnX;clear hnX;obtain ⟨hcX,hfX,hlX⟩:=hbX.all;(try clear hx0)
  go_wp2
  refine wp_region_ext (by kernel_rfl) (by kernel_rfl) ?_
  repeat (first | go_big_quiet_skip | (go_big_quiet_want;first | (go_big_quiet_op;go_big_quiet_on) | (apply quiet_at;intro W hW;have hxW:=Ext.trans (a:=w) EX hW;have hnX:=BB hW (bX);(first | simp [↓heap_drew_at,↓heap_drewN_at,↓heap_alloc_at,↓heap_set_at,ne_two,ne_three,ne_two_left,ne_three_left,↓hbX.eq,hbX.lt,hbX.ne] at hnX | simp [↓heap_drew_at,↓heap_drewN_at,↓heap_alloc_at,↓heap_set_at,ne_two,ne_three,ne_two_left,ne_three_left] at hnX);(try clear hbX hcX hfX hlX);have hbX:=Blk.mk hnX;clear hnX;obtain ⟨hcX,hfX,hlX⟩:=hbX.all;go_simp;(first | exact rfl | (simp only [Oper.quietUpon,true_and];first | exact rfl | (fail)) | (fail));go_big_quiet_on;simp only [Act.put,sA,s0,sS])))
  refine wpQuiet_nil ?_
  intro w1 hx0
  have hy:=Ext.trans (a:=w) EX hx0;clear hx;have hx:=hy;clear hy;have hnX:=BB hx0 (bX);(first | simp [↓heap_drew_at,↓heap_drewN_at,↓heap_alloc_at,↓heap_set_at,ne_two,ne_three,ne_two_left,ne_three_left,↓hbX.eq,hbX.lt,hbX.ne] at hnX | simp [↓heap_drew_at,↓heap_drewN_at,↓heap_alloc_at,↓heap_set_at,ne_two,ne_three,ne_two_left,ne_three_left] at hnX);(try clear hbX hcX hfX hlX);have hbX:=Blk.mk hnX;clear hnX;obtain ⟨hcX,hfX,hlX⟩:=hbX.all;(try clear hx0)
  go_wp2
  refine bodyPost_ret (v:=.bool true) (by simp [results,Tryz.results121,go_sem]) rfl ?_
  exact ⟨rfl,hbX.set_ 31 _,grown_set (hx.grown _) _⟩
 ·by_cases k2:b.off+b.so.size < a.off
  ·have hm:a.xbytes b c d=(c,{ d with off:=a.off+b.sn.size - b.so.size },true):=by rw [Pv.xbytes,if_neg k1,if_pos k2]
   rw [hm]
   clear hm
   go_enter Tryz.func121,Tryz.ntmps121
   have hx:=Ext.refl w
   go_wp2
   refine wp_region_ext (by kernel_rfl) (by kernel_rfl) ?_
   repeat (first | go_big_quiet_skip | (go_big_quiet_want;first | (go_big_quiet_op;go_big_quiet_on) | (apply quiet_at;intro W hW;have hxW:=Ext.trans (a:=w) EX hW;have hnX:=BB hW (bX);(first | simp [↓heap_drew_at,↓heap_drewN_at,↓heap_alloc_at,↓heap_set_at,ne_two,ne_three,ne_two_left,ne_three_left,↓hbX.eq,hbX.lt,hbX.ne] at hnX | simp [↓heap_drew_at,↓heap_drewN_at,↓heap_alloc_at,↓heap_set_at,ne_two,ne_three,ne_two_left,ne_three_left] at hnX);(try clear hbX hcX hfX hlX);have hbX:=Blk.mk hnX;clear hnX;obtain ⟨hcX,hfX,hlX⟩:=hbX.all;go_simp;(first | exact rfl | (simp only [Oper.quietUpon,true_and];first | exact rfl | (fail)) | (fail));go_big_quiet_on;simp only [Act.put,sA,s0,sS])))
   refine wpQuiet_nil ?_
   intro w1 hx0
   have hy:=Ext.trans (a:=w) EX hx0;clear hx;have hx:=hy;clear hy;have hnX:=BB hx0 (bX);(first | simp [↓heap_drew_at,↓heap_drewN_at,↓heap_alloc_at,↓heap_set_at,ne_two,ne_three,ne_two_left,ne_three_left,↓hbX.eq,hbX.lt,hbX.ne] at hnX | simp [↓heap_drew_at,↓heap_drewN_at,↓heap_alloc_at,↓heap_set_at,ne_two,ne_three,ne_two_left,ne_three_left] at hnX);(try clear hbX hcX hfX hlX);have hbX:=Blk.mk hnX;clear hnX;obtain ⟨hcX,hfX,hlX⟩:=hbX.all;(try clear hx0)
   go_wp2
   refine wp_region_ext (by kernel_rfl) (by kernel_rfl) ?_
   repeat (first | go_big_quiet_skip | (go_big_quiet_want;first | (go_big_quiet_op;go_big_quiet_on) | (apply quiet_at;intro W hW;have hxW:=Ext.trans (a:=w) EX hW;have hnX:=BB hW (bX);(first | simp [↓heap_drew_at,↓heap_drewN_at,↓heap_alloc_at,↓heap_set_at,ne_two,ne_three,ne_two_left,ne_three_left,↓hbX.eq,hbX.lt,hbX.ne] at hnX | simp [↓heap_drew_at,↓heap_drewN_at,↓heap_alloc_at,↓heap_set_at,ne_two,ne_three,ne_two_left,ne_three_left] at hnX);(try clear hbX hcX hfX hlX);have hbX:=Blk.mk hnX;clear hnX;obtain ⟨hcX,hfX,hlX⟩:=hbX.all;go_simp;(first | exact rfl | (simp only [Oper.quietUpon,true_and];first | exact rfl | (fail)) | (fail));go_big_quiet_on;simp only [Act.put,sA,s0,sS])))
   refine wpQuiet_nil ?_
   intro w1 hx0
   have hy:=Ext.trans (a:=w) EX hx0;clear hx;have hx:=hy;clear hy;have hnX:=BB hx0 (bX);(first | simp [↓heap_drew_at,↓heap_drewN_at,↓heap_alloc_at,↓heap_set_at,ne_two,ne_three,ne_two_left,ne_three_left,↓hbX.eq,hbX.lt,hbX.ne] at hnX | simp [↓heap_drew_at,↓heap_drewN_at,↓heap_alloc_at,↓heap_set_at,ne_two,ne_three,ne_two_left,ne_three_left] at hnX);(try clear hbX hcX hfX hlX);have hbX:=Blk.mk hnX;clear hnX;obtain ⟨hcX,hfX,hlX⟩:=hbX.all;(try clear hx0)
   go_wp2
   refine wp_region_ext (by kernel_rfl) (by kernel_rfl) ?_
   repeat (first | go_big_quiet_skip | (go_big_quiet_want;first | (go_big_quiet_op;go_big_quiet_on) | (apply quiet_at;intro W hW;have hxW:=Ext.trans (a:=w) EX hW;have hnX:=BB hW (bX);(first | simp [↓heap_drew_at,↓heap_drewN_at,↓heap_alloc_at,↓heap_set_at,ne_two,ne_three,ne_two_left,ne_three_left,↓hbX.eq,hbX.lt,hbX.ne] at hnX | simp [↓heap_drew_at,↓heap_drewN_at,↓heap_alloc_at,↓heap_set_at,ne_two,ne_three,ne_two_left,ne_three_left] at hnX);(try clear hbX hcX hfX hlX);have hbX:=Blk.mk hnX;clear hnX;obtain ⟨hcX,hfX,hlX⟩:=hbX.all;go_simp;(first | exact rfl | (simp only [Oper.quietUpon,true_and];first | exact rfl | (fail)) | (fail));go_big_quiet_on;simp only [Act.put,sA,s0,sS])))
   refine wpQuiet_nil ?_
   intro w1 hx0
   have hy:=Ext.trans (a:=w) EX hx0;clear hx;have hx:=hy;clear hy;have hnX:=BB hx0 (bX);(first | simp [↓heap_drew_at,↓heap_drewN_at,↓heap_alloc_at,↓heap_set_at,ne_two,ne_three,ne_two_left,ne_three_left,↓hbX.eq,hbX.lt,hbX.ne] at hnX | simp [↓heap_drew_at,↓heap_drewN_at,↓heap_alloc_at,↓heap_set_at,ne_two,ne_three,ne_two_left,ne_three_left] at hnX);(try clear hbX hcX hfX hlX);have hbX:=Blk.mk hnX;clear hnX;obtain ⟨hcX,hfX,hlX⟩:=hbX.all;(try clear hx0)
   go_wp2
   refine wp_region_ext_tail 23 (by kernel_rfl) (by kernel_rfl) ?_
   simp only [List.take_succ_cons,List.take_zero,List.drop_succ_cons,List.drop_zero]
   repeat (first | go_big_quiet_skip | (go_big_quiet_want;first | (go_big_quiet_op;go_big_quiet_on) | (apply quiet_at;intro W hW;have hxW:=Ext.trans (a:=w) EX hW;have hnX:=BB hW (bX);(first | simp [↓heap_drew_at,↓heap_drewN_at,↓heap_alloc_at,↓heap_set_at,ne_two,ne_three,ne_two_left,ne_three_left,↓hbX.eq,hbX.lt,hbX.ne] at hnX | simp [↓heap_drew_at,↓heap_drewN_at,↓heap_alloc_at,↓heap_set_at,ne_two,ne_three,ne_two_left,ne_three_left] at hnX);(try clear hbX hcX hfX hlX);have hbX:=Blk.mk hnX;clear hnX;obtain ⟨hcX,hfX,hlX⟩:=hbX.all;go_simp;(first | exact rfl | (simp only [Oper.quietUpon,true_and];first | exact rfl | (fail)) | (fail));go_big_quiet_on;simp only [Act.put,sA,s0,sS])))
   refine wpQuiet_nil ?_
   intro w1 hx0
   have hy:=Ext.trans (a:=w) EX hx0;clear hx;have hx:=hy;clear hy;have hnX:=BB hx0 (bX);(first | simp [↓heap_drew_at,↓heap_drewN_at,↓heap_alloc_at,↓heap_set_at,ne_two,ne_three,ne_two_left,ne_three_left,↓hbX.eq,hbX.lt,hbX.ne] at hnX | simp [↓heap_drew_at,↓heap_drewN_at,↓heap_alloc_at,↓heap_set_at,ne_two,ne_three,ne_two_left,ne_three_left] at hnX);(try clear hbX hcX hfX hlX);have hbX:=Blk.mk hnX;clear hnX;obtain ⟨hcX,hfX,hlX⟩:=hbX.all;(try clear hx0)
   go_wp2
   refine bodyPost_ret (v:=.bool true) (by simp [results,Tryz.results121,go_sem]) rfl ?_
   exact ⟨rfl,hbX.set_ 43 _,grown_set (hx.grown _) _⟩
  ·have hm:a.xbytes b c d=(c,d,false):=by rw [Pv.xbytes,if_neg k1,if_neg k2]
   rw [hm]
   clear hm
   go_enter Tryz.func121,Tryz.ntmps121
   have hx:=Ext.refl w
   go_wp2
   refine wp_region_ext (by kernel_rfl) (by kernel_rfl) ?_
   repeat (first | go_big_quiet_skip | (go_big_quiet_want;first | (go_big_quiet_op;go_big_quiet_on) | (apply quiet_at;intro W hW;have hxW:=Ext.trans (a:=w) EX hW;have hnX:=BB hW (bX);(first | simp [↓heap_drew_at,↓heap_drewN_at,↓heap_alloc_at,↓heap_set_at,ne_two,ne_three,ne_two_left,ne_three_left,↓hbX.eq,hbX.lt,hbX.ne] at hnX | simp [↓heap_drew_at,↓heap_drewN_at,↓heap_alloc_at,↓heap_set_at,ne_two,ne_three,ne_two_left,ne_three_left] at hnX);(try clear hbX hcX hfX hlX);have hbX:=Blk.mk hnX;clear hnX;obtain ⟨hcX,hfX,hlX⟩:=hbX.all;go_simp;(first | exact rfl | (simp only [Oper.quietUpon,true_and];first | exact rfl | (fail)) | (fail));go_big_quiet_on;simp only [Act.put,sA,s0,sS])))
   refine wpQuiet_nil ?_
   intro w1 hx0
   have hy:=Ext.trans (a:=w) EX hx0;clear hx;have hx:=hy;clear hy;have hnX:=BB hx0 (bX);(first | simp [↓heap_drew_at,↓heap_drewN_at,↓heap_alloc_at,↓heap_set_at,ne_two,ne_three,ne_two_left,ne_three_left,↓hbX.eq,hbX.lt,hbX.ne] at hnX | simp [↓heap_drew_at,↓heap_drewN_at,↓heap_alloc_at,↓heap_set_at,ne_two,ne_three,ne_two_left,ne_three_left] at hnX);(try clear hbX hcX hfX hlX);have hbX:=Blk.mk hnX;clear hnX;obtain ⟨hcX,hfX,hlX⟩:=hbX.all;(try clear hx0)
   go_wp2
   refine wp_region_ext (by kernel_rfl) (by kernel_rfl) ?_
   repeat (first | go_big_quiet_skip | (go_big_quiet_want;first | (go_big_quiet_op;go_big_quiet_on) | (apply quiet_at;intro W hW;have hxW:=Ext.trans (a:=w) EX hW;have hnX:=BB hW (bX);(first | simp [↓heap_drew_at,↓heap_drewN_at,↓heap_alloc_at,↓heap_set_at,ne_two,ne_three,ne_two_left,ne_three_left,↓hbX.eq,hbX.lt,hbX.ne] at hnX | simp [↓heap_drew_at,↓heap_drewN_at,↓heap_alloc_at,↓heap_set_at,ne_two,ne_three,ne_two_left,ne_three_left] at hnX);(try clear hbX hcX hfX hlX);have hbX:=Blk.mk hnX;clear hnX;obtain ⟨hcX,hfX,hlX⟩:=hbX.all;go_simp;(first | exact rfl | (simp only [Oper.quietUpon,true_and];first | exact rfl | (fail)) | (fail));go_big_quiet_on;simp only [Act.put,sA,s0,sS])))
   refine wpQuiet_nil ?_
   intro w1 hx0
   have hy:=Ext.trans (a:=w) EX hx0;clear hx;have hx:=hy;clear hy;have hnX:=BB hx0 (bX);(first | simp [↓heap_drew_at,↓heap_drewN_at,↓heap_alloc_at,↓heap_set_at,ne_two,ne_three,ne_two_left,ne_three_left,↓hbX.eq,hbX.lt,hbX.ne] at hnX | simp [↓heap_drew_at,↓heap_drewN_at,↓heap_alloc_at,↓heap_set_at,ne_two,ne_three,ne_two_left,ne_three_left] at hnX);(try clear hbX hcX hfX hlX);have hbX:=Blk.mk hnX;clear hnX;obtain ⟨hcX,hfX,hlX⟩:=hbX.all;(try clear hx0)
   go_wp2
   refine wp_region_ext (by kernel_rfl) (by kernel_rfl) ?_
   repeat (first | go_big_quiet_skip | (go_big_quiet_want;first | (go_big_quiet_op;go_big_quiet_on) | (apply quiet_at;intro W hW;have hxW:=Ext.trans (a:=w) EX hW;have hnX:=BB hW (bX);(first | simp [↓heap_drew_at,↓heap_drewN_at,↓heap_alloc_at,↓heap_set_at,ne_two,ne_three,ne_two_left,ne_three_left,↓hbX.eq,hbX.lt,hbX.ne] at hnX | simp [↓heap_drew_at,↓heap_drewN_at,↓heap_alloc_at,↓heap_set_at,ne_two,ne_three,ne_two_left,ne_three_left] at hnX);(try clear hbX hcX hfX hlX);have hbX:=Blk.mk hnX;clear hnX;obtain ⟨hcX,hfX,hlX⟩:=hbX.all;go_simp;(first | exact rfl | (simp only [Oper.quietUpon,true_and];first | exact rfl | (fail)) | (fail));go_big_quiet_on;simp only [Act.put,sA,s0,sS])))
   refine wpQuiet_nil ?_
   intro w1 hx0
   have hy:=Ext.trans (a:=w) EX hx0;clear hx;have hx:=hy;clear hy;have hnX:=BB hx0 (bX);(first | simp [↓heap_drew_at,↓heap_drewN_at,↓heap_alloc_at,↓heap_set_at,ne_two,ne_three,ne_two_left,ne_three_left,↓hbX.eq,hbX.lt,hbX.ne] at hnX | simp [↓heap_drew_at,↓heap_drewN_at,↓heap_alloc_at,↓heap_set_at,ne_two,ne_three,ne_two_left,ne_three_left] at hnX);(try clear hbX hcX hfX hlX);have hbX:=Blk.mk hnX;clear hnX;obtain ⟨hcX,hfX,hlX⟩:=hbX.all;(try clear hx0)
   go_wp2
   refine bodyPost_ret (v:=.bool false) (by simp [results,Tryz.results121,go_sem]) rfl ?_
   exact ⟨rfl,hbX,hx.grown _⟩
end Go.Proofs.YtfmgnaigcibcaaaGreatDoor
