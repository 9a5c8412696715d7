import Derived.Test.YtlbhaimfjfdppaaGreatDoorP
set_option linter.unusedSimpArgs false
set_option linter.unusedVariables false
namespace Go.Proofs.YtlbhaimfjfdppaaGreatDoor
open Go.RowKit
def Pv.xbytes (a b c d:Pv):Pv × Pv × Bool:=
 if a.off+a.sn.size < b.off then ({ c with off:=b.off - ((a.sn.size:Int) - a.so.size) },d,true)
 else if b.off+b.so.size < a.off then (c,{ d with off:=a.off+b.sn.size - b.so.size },true)
 else (c,d,false)
def XRet (bX:Nat) (a b c d:Pv) (r:Bool) (w:World) (e:Ending) (w':World):Prop:=
 e=.returned (.bool r)∧Blk w' bX 105 (xarr a b c d)∧w.grownBy w' (some bX)
theorem Ext.grown {w w':World} (h:Ext w w') (r:Option Nat):w.grownBy w' r:=⟨h.os,h.tape,h.output,h.size,fun k hk _=>h.block k hk⟩
theorem grown_set {w w':World} {b k:Nat} (h:w.grownBy w' (some b)) (v:Value):w.grownBy (w'.setCell ⟨b,k,none⟩ v) (some b):=
 ⟨h.os,h.tape,h.output,by simpa using h.size,fun i hi hne=>(Below.heap_setCell w' ⟨b,k,none⟩ v i (fun e=>hne (by rw [e]))).trans (h.block i hi hne)⟩
set_option maxHeartbeats 8000000 in
set_option maxRecDepth 100000 in
theorem xbytes_any (a b c d:Pv) (bX:Nat) (w:World) (hbX:Blk w bX 105 (xarr a b c d)) (h1:0≤a.off) (h2:a.off≤1152921504606846976) (h3:0≤b.off) (h4:b.off≤1152921504606846976)
 (s1:a.so.size≤1152921504606846976) (s2:a.sn.size≤1152921504606846976) (s3:b.so.size≤1152921504606846976) (s4:b.sn.size≤1152921504606846976):
 Calls Tryz.prog 101 #[.pointer (some ⟨bX,0,none⟩)] w (XRet bX a b (a.xbytes b c d).1 (a.xbytes b c d).2.1 (a.xbytes b c d).2.2 w):=by
 obtain ⟨hcX,hfX,hlX⟩:=hbX.all
 have w1':IntKind.i64.wrap (a.off+(a.sn.size:Int))=a.off+a.sn.size:=IntWalk.i64_in _ (by omega)
 have w2':IntKind.i64.wrap ((a.sn.size:Int) - a.so.size)=(a.sn.size:Int) - a.so.size:=IntWalk.i64_in _ (by omega)
 have w3':IntKind.i64.wrap (b.off+(b.so.size:Int))=b.off+b.so.size:=IntWalk.i64_in _ (by omega)
 have w4':IntKind.i64.wrap (a.off+(b.sn.size:Int))=a.off+b.sn.size:=IntWalk.i64_in _ (by omega)
 have w5':IntKind.i64.wrap (a.off+(b.sn.size:Int) - b.so.size)=a.off+b.sn.size - b.so.size:=IntWalk.i64_in _ (by omega)
 by_cases k1:a.off+a.sn.size < b.off
 ·have hm:a.xbytes b c d=({ c with off:=b.off - ((a.sn.size:Int) - a.so.size) },d,true):=by rw [Pv.xbytes,if_pos k1]
  rw [hm]
  clear hm
  go_enter Tryz.func101,Tryz.ntmps101
  have hx:=Ext.refl w
  go_wp2
  refine wp_region_ext (by kernel_rfl) (by kernel_rfl) ?_
  repeat (first | go_big_quiet_skip | (go_big_quiet_want;first | (go_big_quiet_op;go_big_quiet_on) | (apply quiet_at;intro W hW;have hxW:=Ext.trans (a:=w) EX hW;have hnX:=BB hW (bX);(first | simp [↓heap_drew_at,↓heap_drewN_at,↓heap_alloc_at,↓heap_set_at,ne_two,ne_three,ne_two_left,ne_three_left,↓hbX.eq,hbX.lt,hbX.ne] at hnX | simp [↓heap_drew_at,↓heap_drewN_at,↓heap_alloc_at,↓heap_set_at,ne_two,ne_three,ne_two_left,ne_three_left] at hnX);(try clear hbX hcX hfX hlX);have hbX:=Blk.mk hnX;clear hnX;obtain ⟨hcX,hfX,hlX⟩:=hbX.all;go_simp;(first | exact rfl | (simp only [Oper.quietUpon,true_and];first | exact rfl | (fail)) | (fail));go_big_quiet_on;simp only [Act.put,sA,s0,sS])))
  refine wpQuiet_nil ?_
  intro w1 hx0
  have hy:=Ext.trans (a:=w) EX hx0;clear hx;have hx:=hy;clear hy;have hnX:=BB hx0 (bX);(first | simp [↓heap_drew_at,↓heap_drewN_at,↓heap_alloc_at,↓heap_set_at,ne_two,ne_three,ne_two_left,ne_three_left,↓hbX.eq,hbX.lt,hbX.ne] at hnX | simp [↓heap_drew_at,↓heap_drewN_at,↓heap_alloc_at,↓heap_set_at,ne_two,ne_three,ne_two_left,ne_three_left] at hnX);(try clear hbX hcX hfX hlX);have hbX:=Blk.mk hnX;clear hnX;obtain ⟨hcX,hfX,hlX⟩:=hbX.all;(try clear hx0)
  go_wp2
  refine wp_region_ext (by kernel_rfl) (by kernel_rfl) ?_
  repeat (first | go_big_quiet_skip | (go_big_quiet_want;first | (go_big_quiet_op;go_big_quiet_on) | (apply quiet_at;intro W hW;have hxW:=Ext.trans (a:=w) EX hW;have hnX:=BB hW (bX);(first | simp [↓heap_drew_at,↓heap_drewN_at,↓heap_alloc_at,↓heap_set_at,ne_two,ne_three,ne_two_left,ne_three_left,↓hbX.eq,hbX.lt,hbX.ne] at hnX | simp [↓heap_drew_at,↓heap_drewN_at,↓heap_alloc_at,↓heap_set_at,ne_two,ne_three,ne_two_left,ne_three_left] at hnX);(try clear hbX hcX hfX hlX);have hbX:=Blk.mk hnX;clear hnX;obtain ⟨hcX,hfX,hlX⟩:=hbX.all;go_simp;(first | exact rfl | (simp only [Oper.quietUpon,true_and];first | exact rfl | (fail)) | (fail));go_big_quiet_on;simp only [Act.put,sA,s0,sS])))
  refine wpQuiet_nil ?_
  intro w1 hx0
  have hy:=Ext.trans (a:=w) EX hx0;clear hx;have hx:=hy;clear hy;have hnX:=BB hx0 (bX);(first | simp [↓heap_drew_at,↓heap_drewN_at,↓heap_alloc_at,↓heap_set_at,ne_two,ne_three,ne_two_left,ne_three_left,↓hbX.eq,hbX.lt,hbX.ne] at hnX | simp [↓heap_drew_at,↓heap_drewN_at,↓heap_alloc_at,↓heap_set_at,ne_two,ne_three,ne_two_left,ne_three_left] at hnX);(try clear hbX hcX hfX hlX);have hbX:=Blk.mk hnX;clear hnX;obtain ⟨hcX,hfX,hlX⟩:=hbX.all;(try clear hx0)
  go_wp2
  refine bodyPost_ret (v:=.bool true) (by simp [results,Tryz.results101,go_sem]) rfl ?_
  exact ⟨rfl,hbX.set_ 31 _,grown_set (hx.grown _) _⟩
 ·by_cases k2:b.off+b.so.size < a.off
  ·have hm:a.xbytes b c d=(c,{ d with off:=a.off+b.sn.size - b.so.size },true):=by rw [Pv.xbytes,if_neg k1,if_pos k2]
   rw [hm]
   clear hm
   go_enter Tryz.func101,Tryz.ntmps101
   have hx:=Ext.refl w
   go_wp2
   refine wp_region_ext (by kernel_rfl) (by kernel_rfl) ?_
   repeat (first | go_big_quiet_skip | (go_big_quiet_want;first | (go_big_quiet_op;go_big_quiet_on) | (apply quiet_at;intro W hW;have hxW:=Ext.trans (a:=w) EX hW;have hnX:=BB hW (bX);(first | simp [↓heap_drew_at,↓heap_drewN_at,↓heap_alloc_at,↓heap_set_at,ne_two,ne_three,ne_two_left,ne_three_left,↓hbX.eq,hbX.lt,hbX.ne] at hnX | simp [↓heap_drew_at,↓heap_drewN_at,↓heap_alloc_at,↓heap_set_at,ne_two,ne_three,ne_two_left,ne_three_left] at hnX);(try clear hbX hcX hfX hlX);have hbX:=Blk.mk hnX;clear hnX;obtain ⟨hcX,hfX,hlX⟩:=hbX.all;go_simp;(first | exact rfl | (simp only [Oper.quietUpon,true_and];first | exact rfl | (fail)) | (fail));go_big_quiet_on;simp only [Act.put,sA,s0,sS])))
   refine wpQuiet_nil ?_
   intro w1 hx0
   have hy:=Ext.trans (a:=w) EX hx0;clear hx;have hx:=hy;clear hy;have hnX:=BB hx0 (bX);(first | simp [↓heap_drew_at,↓heap_drewN_at,↓heap_alloc_at,↓heap_set_at,ne_two,ne_three,ne_two_left,ne_three_left,↓hbX.eq,hbX.lt,hbX.ne] at hnX | simp [↓heap_drew_at,↓heap_drewN_at,↓heap_alloc_at,↓heap_set_at,ne_two,ne_three,ne_two_left,ne_three_left] at hnX);(try clear hbX hcX hfX hlX);have hbX:=Blk.mk hnX;clear hnX;obtain ⟨hcX,hfX,hlX⟩:=hbX.all;(try clear hx0)
   go_wp2
   refine wp_region_ext (by kernel_rfl) (by kernel_rfl) ?_
   repeat (first | go_big_quiet_skip | (go_big_quiet_want;first | (go_big_quiet_op;go_big_quiet_on) | (apply quiet_at;intro W hW;have hxW:=Ext.trans (a:=w) EX hW;have hnX:=BB hW (bX);(first | simp [↓heap_drew_at,↓heap_drewN_at,↓heap_alloc_at,↓heap_set_at,ne_two,ne_three,ne_two_left,ne_three_left,↓hbX.eq,hbX.lt,hbX.ne] at hnX | simp [↓heap_drew_at,↓heap_drewN_at,↓heap_alloc_at,↓heap_set_at,ne_two,ne_three,ne_two_left,ne_three_left] at hnX);(try clear hbX hcX hfX hlX);have hbX:=Blk.mk hnX;clear hnX;obtain ⟨hcX,hfX,hlX⟩:=hbX.all;go_simp;(first | exact rfl | (simp only [Oper.quietUpon,true_and];first | exact rfl | (fail)) | (fail));go_big_quiet_on;simp only [Act.put,sA,s0,sS])))
   refine wpQuiet_nil ?_
   intro w1 hx0
   have hy:=Ext.trans (a:=w) EX hx0;clear hx;have hx:=hy;clear hy;have hnX:=BB hx0 (bX);(first | simp [↓heap_drew_at,↓heap_drewN_at,↓heap_alloc_at,↓heap_set_at,ne_two,ne_three,ne_two_left,ne_three_left,↓hbX.eq,hbX.lt,hbX.ne] at hnX | simp [↓heap_drew_at,↓heap_drewN_at,↓heap_alloc_at,↓heap_set_at,ne_two,ne_three,ne_two_left,ne_three_left] at hnX);(try clear hbX hcX hfX hlX);have hbX:=Blk.mk hnX;clear hnX;obtain ⟨hcX,hfX,hlX⟩:=hbX.all;(try clear hx0)
   go_wp2
   refine wp_region_ext (by kernel_rfl) (by kernel_rfl) ?_
   repeat (first | go_big_quiet_skip | (go_big_quiet_want;first | (go_big_quiet_op;go_big_quiet_on) | (apply quiet_at;intro W hW;have hxW:=Ext.trans (a:=w) EX hW;have hnX:=BB hW (bX);(first | simp [↓heap_drew_at,↓heap_drewN_at,↓heap_alloc_at,↓heap_set_at,ne_two,ne_three,ne_two_left,ne_three_left,↓hbX.eq,hbX.lt,hbX.ne] at hnX | simp [↓heap_drew_at,↓heap_drewN_at,↓heap_alloc_at,↓heap_set_at,ne_two,ne_three,ne_two_left,ne_three_left] at hnX);(try clear hbX hcX hfX hlX);have hbX:=Blk.mk hnX;clear hnX;obtain ⟨hcX,hfX,hlX⟩:=hbX.all;go_simp;(first | exact rfl | (simp only [Oper.quietUpon,true_and];first | exact rfl | (fail)) | (fail));go_big_quiet_on;simp only [Act.put,sA,s0,sS])))
   refine wpQuiet_nil ?_
   intro w1 hx0
   have hy:=Ext.trans (a:=w) EX hx0;clear hx;have hx:=hy;clear hy;have hnX:=BB hx0 (bX);(first | simp [↓heap_drew_at,↓heap_drewN_at,↓heap_alloc_at,↓heap_set_at,ne_two,ne_three,ne_two_left,ne_three_left,↓hbX.eq,hbX.lt,hbX.ne] at hnX | simp [↓heap_drew_at,↓heap_drewN_at,↓heap_alloc_at,↓heap_set_at,ne_two,ne_three,ne_two_left,ne_three_left] at hnX);(try clear hbX hcX hfX hlX);have hbX:=Blk.mk hnX;clear hnX;obtain ⟨hcX,hfX,hlX⟩:=hbX.all;(try clear hx0)
   go_wp2
   refine wp_region_ext_tail 23 (by kernel_rfl) (by kernel_rfl) ?_
   simp only [List.take_succ_cons,List.take_zero,List.drop_succ_cons,List.drop_zero]
   repeat (first | go_big_quiet_skip | (go_big_quiet_want;first | (go_big_quiet_op;go_big_quiet_on) | (apply quiet_at;intro W hW;have hxW:=Ext.trans (a:=w) EX hW;have hnX:=BB hW (bX);(first | simp [↓heap_drew_at,↓heap_drewN_at,↓heap_alloc_at,↓heap_set_at,ne_two,ne_three,ne_two_left,ne_three_left,↓hbX.eq,hbX.lt,hbX.ne] at hnX | simp [↓heap_drew_at,↓heap_drewN_at,↓heap_alloc_at,↓heap_set_at,ne_two,ne_three,ne_two_left,ne_three_left] at hnX);(try clear hbX hcX hfX hlX);have hbX:=Blk.mk hnX;clear hnX;obtain ⟨hcX,hfX,hlX⟩:=hbX.all;go_simp;(first | exact rfl | (simp only [Oper.quietUpon,true_and];first | exact rfl | (fail)) | (fail));go_big_quiet_on;simp only [Act.put,sA,s0,sS])))
   refine wpQuiet_nil ?_
   intro w1 hx0
   have hy:=Ext.trans (a:=w) EX hx0;clear hx;have hx:=hy;clear hy;have hnX:=BB hx0 (bX);(first | simp [↓heap_drew_at,↓heap_drewN_at,↓heap_alloc_at,↓heap_set_at,ne_two,ne_three,ne_two_left,ne_three_left,↓hbX.eq,hbX.lt,hbX.ne] at hnX | simp [↓heap_drew_at,↓heap_drewN_at,↓heap_alloc_at,↓heap_set_at,ne_two,ne_three,ne_two_left,ne_three_left] at hnX);(try clear hbX hcX hfX hlX);have hbX:=Blk.mk hnX;clear hnX;obtain ⟨hcX,hfX,hlX⟩:=hbX.all;(try clear hx0)
   go_wp2
   refine bodyPost_ret (v:=.bool true) (by simp [results,Tryz.results101,go_sem]) rfl ?_
   exact ⟨rfl,hbX.set_ 43 _,grown_set (hx.grown _) _⟩
  ·have hm:a.xbytes b c d=(c,d,false):=by rw [Pv.xbytes,if_neg k1,if_neg k2]
   rw [hm]
   clear hm
   go_enter Tryz.func101,Tryz.ntmps101
   have hx:=Ext.refl w
   go_wp2
   refine wp_region_ext (by kernel_rfl) (by kernel_rfl) ?_
   repeat (first | go_big_quiet_skip | (go_big_quiet_want;first | (go_big_quiet_op;go_big_quiet_on) | (apply quiet_at;intro W hW;have hxW:=Ext.trans (a:=w) EX hW;have hnX:=BB hW (bX);(first | simp [↓heap_drew_at,↓heap_drewN_at,↓heap_alloc_at,↓heap_set_at,ne_two,ne_three,ne_two_left,ne_three_left,↓hbX.eq,hbX.lt,hbX.ne] at hnX | simp [↓heap_drew_at,↓heap_drewN_at,↓heap_alloc_at,↓heap_set_at,ne_two,ne_three,ne_two_left,ne_three_left] at hnX);(try clear hbX hcX hfX hlX);have hbX:=Blk.mk hnX;clear hnX;obtain ⟨hcX,hfX,hlX⟩:=hbX.all;go_simp;(first | exact rfl | (simp only [Oper.quietUpon,true_and];first | exact rfl | (fail)) | (fail));go_big_quiet_on;simp only [Act.put,sA,s0,sS])))
   refine wpQuiet_nil ?_
   intro w1 hx0
   have hy:=Ext.trans (a:=w) EX hx0;clear hx;have hx:=hy;clear hy;have hnX:=BB hx0 (bX);(first | simp [↓heap_drew_at,↓heap_drewN_at,↓heap_alloc_at,↓heap_set_at,ne_two,ne_three,ne_two_left,ne_three_left,↓hbX.eq,hbX.lt,hbX.ne] at hnX | simp [↓heap_drew_at,↓heap_drewN_at,↓heap_alloc_at,↓heap_set_at,ne_two,ne_three,ne_two_left,ne_three_left] at hnX);(try clear hbX hcX hfX hlX);have hbX:=Blk.mk hnX;clear hnX;obtain ⟨hcX,hfX,hlX⟩:=hbX.all;(try clear hx0)
   go_wp2
   refine wp_region_ext (by kernel_rfl) (by kernel_rfl) ?_
   repeat (first | go_big_quiet_skip | (go_big_quiet_want;first | (go_big_quiet_op;go_big_quiet_on) | (apply quiet_at;intro W hW;have hxW:=Ext.trans (a:=w) EX hW;have hnX:=BB hW (bX);(first | simp [↓heap_drew_at,↓heap_drewN_at,↓heap_alloc_at,↓heap_set_at,ne_two,ne_three,ne_two_left,ne_three_left,↓hbX.eq,hbX.lt,hbX.ne] at hnX | simp [↓heap_drew_at,↓heap_drewN_at,↓heap_alloc_at,↓heap_set_at,ne_two,ne_three,ne_two_left,ne_three_left] at hnX);(try clear hbX hcX hfX hlX);have hbX:=Blk.mk hnX;clear hnX;obtain ⟨hcX,hfX,hlX⟩:=hbX.all;go_simp;(first | exact rfl | (simp only [Oper.quietUpon,true_and];first | exact rfl | (fail)) | (fail));go_big_quiet_on;simp only [Act.put,sA,s0,sS])))
   refine wpQuiet_nil ?_
   intro w1 hx0
   have hy:=Ext.trans (a:=w) EX hx0;clear hx;have hx:=hy;clear hy;have hnX:=BB hx0 (bX);(first | simp [↓heap_drew_at,↓heap_drewN_at,↓heap_alloc_at,↓heap_set_at,ne_two,ne_three,ne_two_left,ne_three_left,↓hbX.eq,hbX.lt,hbX.ne] at hnX | simp [↓heap_drew_at,↓heap_drewN_at,↓heap_alloc_at,↓heap_set_at,ne_two,ne_three,ne_two_left,ne_three_left] at hnX);(try clear hbX hcX hfX hlX);have hbX:=Blk.mk hnX;clear hnX;obtain ⟨hcX,hfX,hlX⟩:=hbX.all;(try clear hx0)
   go_wp2
   refine wp_region_ext (by kernel_rfl) (by kernel_rfl) ?_
   repeat (first | go_big_quiet_skip | (go_big_quiet_want;first | (go_big_quiet_op;go_big_quiet_on) | (apply quiet_at;intro W hW;have hxW:=Ext.trans (a:=w) EX hW;have hnX:=BB hW (bX);(first | simp [↓heap_drew_at,↓heap_drewN_at,↓heap_alloc_at,↓heap_set_at,ne_two,ne_three,ne_two_left,ne_three_left,↓hbX.eq,hbX.lt,hbX.ne] at hnX | simp [↓heap_drew_at,↓heap_drewN_at,↓heap_alloc_at,↓heap_set_at,ne_two,ne_three,ne_two_left,ne_three_left] at hnX);(try clear hbX hcX hfX hlX);have hbX:=Blk.mk hnX;clear hnX;obtain ⟨hcX,hfX,hlX⟩:=hbX.all;go_simp;(first | exact rfl | (simp only [Oper.quietUpon,true_and];first | exact rfl | (fail)) | (fail));go_big_quiet_on;simp only [Act.put,sA,s0,sS])))
   refine wpQuiet_nil ?_
   intro w1 hx0
   have hy:=Ext.trans (a:=w) EX hx0;clear hx;have hx:=hy;clear hy;have hnX:=BB hx0 (bX);(first | simp [↓heap_drew_at,↓heap_drewN_at,↓heap_alloc_at,↓heap_set_at,ne_two,ne_three,ne_two_left,ne_three_left,↓hbX.eq,hbX.lt,hbX.ne] at hnX | simp [↓heap_drew_at,↓heap_drewN_at,↓heap_alloc_at,↓heap_set_at,ne_two,ne_three,ne_two_left,ne_three_left] at hnX);(try clear hbX hcX hfX hlX);have hbX:=Blk.mk hnX;clear hnX;obtain ⟨hcX,hfX,hlX⟩:=hbX.all;(try clear hx0)
   go_wp2
   refine bodyPost_ret (v:=.bool false) (by simp [results,Tryz.results101,go_sem]) rfl ?_
   exact ⟨rfl,hbX,hx.grown _⟩
end Go.Proofs.YtlbhaimfjfdppaaGreatDoor
