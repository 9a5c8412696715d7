import Derived.Test.YtfmgnaigcibcaaaGreatDoorTJi
import Derived.Test.YtfmgnaigcibcaaaGreatDoorTJh
import Derived.Test.YtfmgnaigcibcaaaGreatDoorTJd
import Derived.Test.YtfmgnaigcibcaaaGreatDoorTJe
import Derived.Test.YtfmgnaigcibcaaaGreatDoorTYj
import Derived.Test.YtfmgnaigcibcaaaGreatDoorTQc
set_option linter.unusedSimpArgs false
set_option linter.unusedVariables false
namespace Go.Proofs.YtfmgnaigcibcaaaGreatDoor
open Go Go.RowKit
theorem GivesU.back {r:List Pf × Int} {w W w':World} {e:Ending} (hx:Ext w W) (h:GivesU r W e w'):GivesU r w e w':=by
 obtain ⟨A,n,c,h1,h2,h3,h4⟩:=h
 exact ⟨A,n,c,h1,h2,Lib.hid ⟨h3.out.1,fun a ha=>Nat.le_trans hx.size_le (h3.out.2.1 a ha),h3.out.2.2⟩,hx.trans h4⟩
set_option maxHeartbeats 4000000 in
set_option maxRecDepth 100000 in
theorem rap_tree (p:Pv) (A:Option Addr) (n c:Nat) (w:World) (E:Int) (hE:(E != 0)=true)
 (HC:Hid (∀ W,Ext w W→Calls Tryz.prog 41 #[.slice A n c] W (Ret (.int .i64 E) W))):
 Calls Tryz.prog 15 #[.slice A n c,p.v] w (GivesU ([],E) w):=by
 go_enter Tryz.func15,Tryz.ntmps15
 have hx:=Ext.refl w
 go_wp2_with (go_at_call 41;refine (HC.out _ EX).mono ?_;rintro e w1 ⟨rfl,hx0⟩;have hsz:=(Ext.trans (a:=w) EX hx0).size_le;have hy:=Ext.trans (a:=w) EX hx0;clear hx;have hx:=hy;clear hy;have hn0:=BB hx0 (w.heap.size);(first | simp [↓heap_drew_at,↓heap_drewN_at,↓heap_alloc_at,↓heap_set_at,ne_two,ne_three,ne_two_left,ne_three_left,↓hb0.eq,hb0.lt,hb0.ne] at hn0 | simp [↓heap_drew_at,↓heap_drewN_at,↓heap_alloc_at,↓heap_set_at,ne_two,ne_three,ne_two_left,ne_three_left] at hn0);(try clear hb0 hc0 hf0 hl0);have hb0:=Blk.mk hn0;clear hn0;obtain ⟨hc0,hf0,hl0⟩:=hb0.all;(try clear hx0))
 go_ret2
 exact GivesU.empty EX (by first | omega | (simp;omega))
set_option maxHeartbeats 4000000 in
set_option maxRecDepth 100000 in
theorem rap_patch (p:Pv) (A:Option Addr) (n c:Nat) (w:World) (E:Int) (hE:(E != 0)=true)
 (HC:Hid (∀ W,Ext w W→Calls Tryz.prog 41 #[.slice A n c] W (Ret (.int .i64 0) W)))
 (HK:Hid (∀ W,Ext w W→Calls Tryz.prog 42 #[p.v] W (Ret (.int .i64 E) W))):
 Calls Tryz.prog 15 #[.slice A n c,p.v] w (GivesU ([],E) w):=by
 go_enter Tryz.func15,Tryz.ntmps15
 have hx:=Ext.refl w
 go_wp2_with (first
  | (go_at_call 41;refine (HC.out _ EX).mono ?_;rintro e w1 ⟨rfl,hx0⟩;have hy:=Ext.trans (a:=w) EX hx0;clear hx;have hx:=hy;clear hy;have hn0:=BB hx0 (w.heap.size);(first | simp [↓heap_drew_at,↓heap_drewN_at,↓heap_alloc_at,↓heap_set_at,ne_two,ne_three,ne_two_left,ne_three_left,↓hb0.eq,hb0.lt,hb0.ne] at hn0 | simp [↓heap_drew_at,↓heap_drewN_at,↓heap_alloc_at,↓heap_set_at,ne_two,ne_three,ne_two_left,ne_three_left] at hn0);(try clear hb0 hc0 hf0 hl0);have hb0:=Blk.mk hn0;clear hn0;obtain ⟨hc0,hf0,hl0⟩:=hb0.all;(try clear hx0))
  | (go_at_call 42;refine (HK.out _ EX).mono ?_;rintro e w2 ⟨rfl,hx0⟩;have hsz:=(Ext.trans (a:=w) EX hx0).size_le;have hy:=Ext.trans (a:=w) EX hx0;clear hx;have hx:=hy;clear hy;have hn0:=BB hx0 (w.heap.size);(first | simp [↓heap_drew_at,↓heap_drewN_at,↓heap_alloc_at,↓heap_set_at,ne_two,ne_three,ne_two_left,ne_three_left,↓hb0.eq,hb0.lt,hb0.ne] at hn0 | simp [↓heap_drew_at,↓heap_drewN_at,↓heap_alloc_at,↓heap_set_at,ne_two,ne_three,ne_two_left,ne_three_left] at hn0);(try clear hb0 hc0 hf0 hl0);have hb0:=Blk.mk hn0;clear hn0;obtain ⟨hc0,hf0,hl0⟩:=hb0.all;(try clear hx0)))
 go_ret2
 exact GivesU.empty EX (by first | omega | (simp;omega))
set_option maxHeartbeats 4000000 in
set_option maxRecDepth 100000 in
theorem rap_adds (p:Pv) (g:Pf) (A:Option Addr) (n c:Nat) (w:World) (r:List Pf × Int)
 (hk:(p.kind == 1)=true∧g=⟨p.path,p.ty,p.nm,p.sn⟩∨(p.kind == 1)=false∧(p.kind == 3)=true∧g=⟨p.path,4,0,⟨#[]⟩⟩)
 (HC:Hid (∀ W,Ext w W→Calls Tryz.prog 41 #[.slice A n c] W (Ret (.int .i64 0) W)))
 (HK:Hid (∀ W,Ext w W→Calls Tryz.prog 42 #[p.v] W (Ret (.int .i64 0) W)))
 (HA:Hid (∀ W,Ext w W→Calls Tryz.prog 43 #[.slice A n c,g.v] W (GivesU r w))):
 Calls Tryz.prog 15 #[.slice A n c,p.v] w (GivesU r w):=by
 rcases hk with ⟨k1',rfl⟩ | ⟨k1',k3',rfl⟩
 all_goals
  go_enter Tryz.func15,Tryz.ntmps15
  have hx:=Ext.refl w
  go_wp2_with (first
   | (go_at_call 41;refine (HC.out _ EX).mono ?_;rintro e w1 ⟨rfl,hx0⟩;have hy:=Ext.trans (a:=w) EX hx0;clear hx;have hx:=hy;clear hy;have hn0:=BB hx0 (w.heap.size);(first | simp [↓heap_drew_at,↓heap_drewN_at,↓heap_alloc_at,↓heap_set_at,ne_two,ne_three,ne_two_left,ne_three_left,↓hb0.eq,hb0.lt,hb0.ne] at hn0 | simp [↓heap_drew_at,↓heap_drewN_at,↓heap_alloc_at,↓heap_set_at,ne_two,ne_three,ne_two_left,ne_three_left] at hn0);(try clear hb0 hc0 hf0 hl0);have hb0:=Blk.mk hn0;clear hn0;obtain ⟨hc0,hf0,hl0⟩:=hb0.all;(try clear hx0))
   | (go_at_call 42;refine (HK.out _ EX).mono ?_;rintro e w2 ⟨rfl,hx0⟩;have hy:=Ext.trans (a:=w) EX hx0;clear hx;have hx:=hy;clear hy;have hn0:=BB hx0 (w.heap.size);(first | simp [↓heap_drew_at,↓heap_drewN_at,↓heap_alloc_at,↓heap_set_at,ne_two,ne_three,ne_two_left,ne_three_left,↓hb0.eq,hb0.lt,hb0.ne] at hn0 | simp [↓heap_drew_at,↓heap_drewN_at,↓heap_alloc_at,↓heap_set_at,ne_two,ne_three,ne_two_left,ne_three_left] at hn0);(try clear hb0 hc0 hf0 hl0);have hb0:=Blk.mk hn0;clear hn0;obtain ⟨hc0,hf0,hl0⟩:=hb0.all;(try clear hx0))
   | (go_at_call 43;refine (HA.out _ EX).mono ?_;rintro e w4 ⟨B,m,d,rfl,hm,hT,hx4⟩;have HX:=Lib.hid hx4;have Hm:=Lib.hid hm;clear hx hx4 hm hb0 hc0 hf0 hl0))
  go_ret2
  exact ⟨_,_,_,rfl,Hm.out,hT,HX.out⟩
set_option maxHeartbeats 4000000 in
set_option maxRecDepth 100000 in
theorem rap_none (p:Pv) (g:Pf) (A:Option Addr) (n c:Nat) (w:World) (k1':(p.kind == 1)=false) (k3':(p.kind == 3)=false)
 (HC:Hid (∀ W,Ext w W→Calls Tryz.prog 41 #[.slice A n c] W (Ret (.int .i64 0) W)))
 (HK:Hid (∀ W,Ext w W→Calls Tryz.prog 42 #[p.v] W (Ret (.int .i64 0) W)))
 (HF:Hid (∀ W,Ext w W→Calls Tryz.prog 44 #[.slice A n c,.string p.path] W (Ret (.tuple #[g.v,.bool false]) W))):
 Calls Tryz.prog 15 #[.slice A n c,p.v] w (GivesU ([],7) w):=by
 go_enter Tryz.func15,Tryz.ntmps15
 have hx:=Ext.refl w
 go_wp2_with (first
  | (go_at_call 41;refine (HC.out _ EX).mono ?_;rintro e w1 ⟨rfl,hx0⟩;have hy:=Ext.trans (a:=w) EX hx0;clear hx;have hx:=hy;clear hy;have hn0:=BB hx0 (w.heap.size);(first | simp [↓heap_drew_at,↓heap_drewN_at,↓heap_alloc_at,↓heap_set_at,ne_two,ne_three,ne_two_left,ne_three_left,↓hb0.eq,hb0.lt,hb0.ne] at hn0 | simp [↓heap_drew_at,↓heap_drewN_at,↓heap_alloc_at,↓heap_set_at,ne_two,ne_three,ne_two_left,ne_three_left] at hn0);(try clear hb0 hc0 hf0 hl0);have hb0:=Blk.mk hn0;clear hn0;obtain ⟨hc0,hf0,hl0⟩:=hb0.all;(try clear hx0))
  | (go_at_call 42;refine (HK.out _ EX).mono ?_;rintro e w2 ⟨rfl,hx0⟩;have hy:=Ext.trans (a:=w) EX hx0;clear hx;have hx:=hy;clear hy;have hn0:=BB hx0 (w.heap.size);(first | simp [↓heap_drew_at,↓heap_drewN_at,↓heap_alloc_at,↓heap_set_at,ne_two,ne_three,ne_two_left,ne_three_left,↓hb0.eq,hb0.lt,hb0.ne] at hn0 | simp [↓heap_drew_at,↓heap_drewN_at,↓heap_alloc_at,↓heap_set_at,ne_two,ne_three,ne_two_left,ne_three_left] at hn0);(try clear hb0 hc0 hf0 hl0);have hb0:=Blk.mk hn0;clear hn0;obtain ⟨hc0,hf0,hl0⟩:=hb0.all;(try clear hx0))
  | (go_at_call 44;refine (HF.out _ EX).mono ?_;rintro e w3 ⟨rfl,hx0⟩;have hsz:=(Ext.trans (a:=w) EX hx0).size_le;have hy:=Ext.trans (a:=w) EX hx0;clear hx;have hx:=hy;clear hy;have hn0:=BB hx0 (w.heap.size);(first | simp [↓heap_drew_at,↓heap_drewN_at,↓heap_alloc_at,↓heap_set_at,ne_two,ne_three,ne_two_left,ne_three_left,↓hb0.eq,hb0.lt,hb0.ne] at hn0 | simp [↓heap_drew_at,↓heap_drewN_at,↓heap_alloc_at,↓heap_set_at,ne_two,ne_three,ne_two_left,ne_three_left] at hn0);(try clear hb0 hc0 hf0 hl0);have hb0:=Blk.mk hn0;clear hn0;obtain ⟨hc0,hf0,hl0⟩:=hb0.all;(try clear hx0)))
 go_ret2
 exact GivesU.empty EX (by first | omega | (simp;omega))
end Go.Proofs.YtfmgnaigcibcaaaGreatDoor
namespace Go.Proofs.YtfmgnaigcibcaaaGreatDoor
open Go Go.RowKit
theorem GivesR.back {r:List Pf} {w W w':World} {e:Ending} (hx:Ext w W) (h:GivesR r W e w'):GivesR r w e w':=by
 obtain ⟨A,n,c,h1,h2,h5,h3,h4⟩:=h
 exact ⟨A,n,c,h1,h2,h5,Lib.hid ⟨h3.out.1,fun a ha=>Nat.le_trans hx.size_le (h3.out.2 a ha)⟩,hx.trans h4⟩
set_option maxHeartbeats 8000000 in
set_option maxRecDepth 100000 in
theorem rap_rems (p:Pv) (g:Pf) (A:Option Addr) (n c:Nat) (w:World) (r:List Pf × Int) (k1':(p.kind == 1)=false) (k3':(p.kind == 3)=false)
 (hk:(p.kind == 2)=true∨(p.kind == 2)=false∧(p.kind == 4)=true)
 (HC:Hid (∀ W,Ext w W→Calls Tryz.prog 41 #[.slice A n c] W (Ret (.int .i64 0) W)))
 (HK:Hid (∀ W,Ext w W→Calls Tryz.prog 42 #[p.v] W (Ret (.int .i64 0) W)))
 (HF:Hid (∀ W,Ext w W→Calls Tryz.prog 44 #[.slice A n c,.string p.path] W (Ret (.tuple #[g.v,.bool true]) W)))
 (HM:Hid (∀ W,Ext w W→Calls Tryz.prog 45 #[.slice A n c,g.v,p.v] W (GivesU r w))):
 Calls Tryz.prog 15 #[.slice A n c,p.v] w (GivesU r w):=by
 rcases hk with k2' | ⟨k2',k4'⟩
 all_goals
  go_enter Tryz.func15,Tryz.ntmps15
  have hx:=Ext.refl w
  go_wp2_with (first
   | (go_at_call 41;refine (HC.out _ EX).mono ?_;rintro e w1 ⟨rfl,hx0⟩;have hy:=Ext.trans (a:=w) EX hx0;clear hx;have hx:=hy;clear hy;have hn0:=BB hx0 (w.heap.size);(first | simp [↓heap_drew_at,↓heap_drewN_at,↓heap_alloc_at,↓heap_set_at,ne_two,ne_three,ne_two_left,ne_three_left,↓hb0.eq,hb0.lt,hb0.ne] at hn0 | simp [↓heap_drew_at,↓heap_drewN_at,↓heap_alloc_at,↓heap_set_at,ne_two,ne_three,ne_two_left,ne_three_left] at hn0);(try clear hb0 hc0 hf0 hl0);have hb0:=Blk.mk hn0;clear hn0;obtain ⟨hc0,hf0,hl0⟩:=hb0.all;(try clear hx0))
   | (go_at_call 42;refine (HK.out _ EX).mono ?_;rintro e w2 ⟨rfl,hx0⟩;have hy:=Ext.trans (a:=w) EX hx0;clear hx;have hx:=hy;clear hy;have hn0:=BB hx0 (w.heap.size);(first | simp [↓heap_drew_at,↓heap_drewN_at,↓heap_alloc_at,↓heap_set_at,ne_two,ne_three,ne_two_left,ne_three_left,↓hb0.eq,hb0.lt,hb0.ne] at hn0 | simp [↓heap_drew_at,↓heap_drewN_at,↓heap_alloc_at,↓heap_set_at,ne_two,ne_three,ne_two_left,ne_three_left] at hn0);(try clear hb0 hc0 hf0 hl0);have hb0:=Blk.mk hn0;clear hn0;obtain ⟨hc0,hf0,hl0⟩:=hb0.all;(try clear hx0))
   | (go_at_call 44;refine (HF.out _ EX).mono ?_;rintro e w3 ⟨rfl,hx0⟩;have hy:=Ext.trans (a:=w) EX hx0;clear hx;have hx:=hy;clear hy;have hn0:=BB hx0 (w.heap.size);(first | simp [↓heap_drew_at,↓heap_drewN_at,↓heap_alloc_at,↓heap_set_at,ne_two,ne_three,ne_two_left,ne_three_left,↓hb0.eq,hb0.lt,hb0.ne] at hn0 | simp [↓heap_drew_at,↓heap_drewN_at,↓heap_alloc_at,↓heap_set_at,ne_two,ne_three,ne_two_left,ne_three_left] at hn0);(try clear hb0 hc0 hf0 hl0);have hb0:=Blk.mk hn0;clear hn0;obtain ⟨hc0,hf0,hl0⟩:=hb0.all;(try clear hx0))
   | (go_at_call 45;refine (HM.out _ EX).mono ?_;rintro e w4 ⟨B,m,d,rfl,hm,hT,hx4⟩;have HX:=Lib.hid hx4;have Hm:=Lib.hid hm;clear hx hx4 hm hb0 hc0 hf0 hl0))
  go_ret2
  exact ⟨_,_,_,rfl,Hm.out,hT,HX.out⟩
set_option maxHeartbeats 8000000 in
set_option maxRecDepth 100000 in
theorem rap_move (p:Pv) (g:Pf) (A:Option Addr) (n c:Nat) (w:World) (r:List Pf × Int) (k1':(p.kind == 1)=false) (k3':(p.kind == 3)=false) (k2':(p.kind == 2)=false) (k4':(p.kind == 4)=false) (k5':(p.kind == 5)=true)
 (HC:Hid (∀ W,Ext w W→Calls Tryz.prog 41 #[.slice A n c] W (Ret (.int .i64 0) W)))
 (HK:Hid (∀ W,Ext w W→Calls Tryz.prog 42 #[p.v] W (Ret (.int .i64 0) W)))
 (HF:Hid (∀ W,Ext w W→Calls Tryz.prog 44 #[.slice A n c,.string p.path] W (Ret (.tuple #[g.v,.bool true]) W)))
 (HM:Hid (∀ W,Ext w W→Calls Tryz.prog 46 #[.slice A n c,p.v] W (GivesU r w))):
 Calls Tryz.prog 15 #[.slice A n c,p.v] w (GivesU r w):=by
 go_enter Tryz.func15,Tryz.ntmps15
 have hx:=Ext.refl w
 go_wp2_with (first
  | (go_at_call 41;refine (HC.out _ EX).mono ?_;rintro e w1 ⟨rfl,hx0⟩;have hy:=Ext.trans (a:=w) EX hx0;clear hx;have hx:=hy;clear hy;have hn0:=BB hx0 (w.heap.size);(first | simp [↓heap_drew_at,↓heap_drewN_at,↓heap_alloc_at,↓heap_set_at,ne_two,ne_three,ne_two_left,ne_three_left,↓hb0.eq,hb0.lt,hb0.ne] at hn0 | simp [↓heap_drew_at,↓heap_drewN_at,↓heap_alloc_at,↓heap_set_at,ne_two,ne_three,ne_two_left,ne_three_left] at hn0);(try clear hb0 hc0 hf0 hl0);have hb0:=Blk.mk hn0;clear hn0;obtain ⟨hc0,hf0,hl0⟩:=hb0.all;(try clear hx0))
  | (go_at_call 42;refine (HK.out _ EX).mono ?_;rintro e w2 ⟨rfl,hx0⟩;have hy:=Ext.trans (a:=w) EX hx0;clear hx;have hx:=hy;clear hy;have hn0:=BB hx0 (w.heap.size);(first | simp [↓heap_drew_at,↓heap_drewN_at,↓heap_alloc_at,↓heap_set_at,ne_two,ne_three,ne_two_left,ne_three_left,↓hb0.eq,hb0.lt,hb0.ne] at hn0 | simp [↓heap_drew_at,↓heap_drewN_at,↓heap_alloc_at,↓heap_set_at,ne_two,ne_three,ne_two_left,ne_three_left] at hn0);(try clear hb0 hc0 hf0 hl0);have hb0:=Blk.mk hn0;clear hn0;obtain ⟨hc0,hf0,hl0⟩:=hb0.all;(try clear hx0))
  | (go_at_call 44;refine (HF.out _ EX).mono ?_;rintro e w3 ⟨rfl,hx0⟩;have hy:=Ext.trans (a:=w) EX hx0;clear hx;have hx:=hy;clear hy;have hn0:=BB hx0 (w.heap.size);(first | simp [↓heap_drew_at,↓heap_drewN_at,↓heap_alloc_at,↓heap_set_at,ne_two,ne_three,ne_two_left,ne_three_left,↓hb0.eq,hb0.lt,hb0.ne] at hn0 | simp [↓heap_drew_at,↓heap_drewN_at,↓heap_alloc_at,↓heap_set_at,ne_two,ne_three,ne_two_left,ne_three_left] at hn0);(try clear hb0 hc0 hf0 hl0);have hb0:=Blk.mk hn0;clear hn0;obtain ⟨hc0,hf0,hl0⟩:=hb0.all;(try clear hx0))
  | (go_at_call 46;refine (HM.out _ EX).mono ?_;rintro e w4 ⟨B,m,d,rfl,hm,hT,hx4⟩;have HX:=Lib.hid hx4;have Hm:=Lib.hid hm;clear hx hx4 hm hb0 hc0 hf0 hl0))
 go_ret2
 exact ⟨_,_,_,rfl,Hm.out,hT,HX.out⟩
set_option maxHeartbeats 8000000 in
set_option maxRecDepth 100000 in
theorem rap_spoilt (p:Pv) (g:Pf) (A:Option Addr) (n c:Nat) (w:World) (E:Int) (hE:(E != 0)=true) (k1':(p.kind == 1)=false) (k3':(p.kind == 3)=false) (k2':(p.kind == 2)=false) (k4':(p.kind == 4)=false) (k5':(p.kind == 5)=false)
 (HC:Hid (∀ W,Ext w W→Calls Tryz.prog 41 #[.slice A n c] W (Ret (.int .i64 0) W)))
 (HK:Hid (∀ W,Ext w W→Calls Tryz.prog 42 #[p.v] W (Ret (.int .i64 0) W)))
 (HF:Hid (∀ W,Ext w W→Calls Tryz.prog 44 #[.slice A n c,.string p.path] W (Ret (.tuple #[g.v,.bool true]) W)))
 (HM:Hid (∀ W,Ext w W→Calls Tryz.prog 47 #[g.v,p.v] W (fun e w'=>∃ g':Pf,e=.returned (.tuple #[g'.v,.int .i64 E])∧Ext W w'))):
 Calls Tryz.prog 15 #[.slice A n c,p.v] w (GivesU ([],E) w):=by
 go_enter Tryz.func15,Tryz.ntmps15
 have hx:=Ext.refl w
 go_wp2_with (first
  | (go_at_call 41;refine (HC.out _ EX).mono ?_;rintro e w1 ⟨rfl,hx0⟩;have hy:=Ext.trans (a:=w) EX hx0;clear hx;have hx:=hy;clear hy;have hn0:=BB hx0 (w.heap.size);(first | simp [↓heap_drew_at,↓heap_drewN_at,↓heap_alloc_at,↓heap_set_at,ne_two,ne_three,ne_two_left,ne_three_left,↓hb0.eq,hb0.lt,hb0.ne] at hn0 | simp [↓heap_drew_at,↓heap_drewN_at,↓heap_alloc_at,↓heap_set_at,ne_two,ne_three,ne_two_left,ne_three_left] at hn0);(try clear hb0 hc0 hf0 hl0);have hb0:=Blk.mk hn0;clear hn0;obtain ⟨hc0,hf0,hl0⟩:=hb0.all;(try clear hx0))
  | (go_at_call 42;refine (HK.out _ EX).mono ?_;rintro e w2 ⟨rfl,hx0⟩;have hy:=Ext.trans (a:=w) EX hx0;clear hx;have hx:=hy;clear hy;have hn0:=BB hx0 (w.heap.size);(first | simp [↓heap_drew_at,↓heap_drewN_at,↓heap_alloc_at,↓heap_set_at,ne_two,ne_three,ne_two_left,ne_three_left,↓hb0.eq,hb0.lt,hb0.ne] at hn0 | simp [↓heap_drew_at,↓heap_drewN_at,↓heap_alloc_at,↓heap_set_at,ne_two,ne_three,ne_two_left,ne_three_left] at hn0);(try clear hb0 hc0 hf0 hl0);have hb0:=Blk.mk hn0;clear hn0;obtain ⟨hc0,hf0,hl0⟩:=hb0.all;(try clear hx0))
  | (go_at_call 44;refine (HF.out _ EX).mono ?_;rintro e w3 ⟨rfl,hx0⟩;have hsz:=(Ext.trans (a:=w) EX hx0).size_le;have hy:=Ext.trans (a:=w) EX hx0;clear hx;have hx:=hy;clear hy;have hn0:=BB hx0 (w.heap.size);(first | simp [↓heap_drew_at,↓heap_drewN_at,↓heap_alloc_at,↓heap_set_at,ne_two,ne_three,ne_two_left,ne_three_left,↓hb0.eq,hb0.lt,hb0.ne] at hn0 | simp [↓heap_drew_at,↓heap_drewN_at,↓heap_alloc_at,↓heap_set_at,ne_two,ne_three,ne_two_left,ne_three_left] at hn0);(try clear hb0 hc0 hf0 hl0);have hb0:=Blk.mk hn0;clear hn0;obtain ⟨hc0,hf0,hl0⟩:=hb0.all;(try clear hx0))
  | (go_at_call 47;refine (HM.out _ EX).mono ?_;rintro e w4 ⟨g',rfl,hx0⟩;have hnF:=BB hx0 (w3.heap.size);simp [↓heap_drew_at,↓heap_drewN_at,↓heap_alloc_at,↓heap_set_at,ne_two,ne_three,ne_two_left,ne_three_left] at hnF;have hbF:=Blk.mk hnF;clear hnF;obtain ⟨hcF,hfF,hlF⟩:=hbF.all;have hy:=Ext.trans (a:=w) EX hx0;have hsz4:=hy.size_le;clear hx hx0 hb0 hc0 hf0 hl0;have hx:=hy;clear hy))
 go_ret2
 exact GivesU.empty EX (by first | omega | (simp;omega))
set_option maxHeartbeats 8000000 in
set_option maxRecDepth 100000 in
theorem rap_edit (p:Pv) (g g':Pf) (A:Option Addr) (n c:Nat) (w:World) (r:List Pf) (k1':(p.kind == 1)=false) (k3':(p.kind == 3)=false) (k2':(p.kind == 2)=false) (k4':(p.kind == 4)=false) (k5':(p.kind == 5)=false)
 (HC:Hid (∀ W,Ext w W→Calls Tryz.prog 41 #[.slice A n c] W (Ret (.int .i64 0) W)))
 (HK:Hid (∀ W,Ext w W→Calls Tryz.prog 42 #[p.v] W (Ret (.int .i64 0) W)))
 (HF:Hid (∀ W,Ext w W→Calls Tryz.prog 44 #[.slice A n c,.string p.path] W (Ret (.tuple #[g.v,.bool true]) W)))
 (HM:Hid (∀ W,Ext w W→Calls Tryz.prog 47 #[g.v,p.v] W (Ret (.tuple #[g'.v,.int .i64 0]) W)))
 (HW:Hid (∀ W,Ext w W→Calls Tryz.prog 48 #[.slice A n c,g'.v] W (GivesR r w))):
 Calls Tryz.prog 15 #[.slice A n c,p.v] w (GivesU (r,0) w):=by
 go_enter Tryz.func15,Tryz.ntmps15
 have hx:=Ext.refl w
 go_wp2_with (first
  | (go_at_call 41;refine (HC.out _ EX).mono ?_;rintro e w1 ⟨rfl,hx0⟩;have hy:=Ext.trans (a:=w) EX hx0;clear hx;have hx:=hy;clear hy;have hn0:=BB hx0 (w.heap.size);(first | simp [↓heap_drew_at,↓heap_drewN_at,↓heap_alloc_at,↓heap_set_at,ne_two,ne_three,ne_two_left,ne_three_left,↓hb0.eq,hb0.lt,hb0.ne] at hn0 | simp [↓heap_drew_at,↓heap_drewN_at,↓heap_alloc_at,↓heap_set_at,ne_two,ne_three,ne_two_left,ne_three_left] at hn0);(try clear hb0 hc0 hf0 hl0);have hb0:=Blk.mk hn0;clear hn0;obtain ⟨hc0,hf0,hl0⟩:=hb0.all;(try clear hx0))
  | (go_at_call 42;refine (HK.out _ EX).mono ?_;rintro e w2 ⟨rfl,hx0⟩;have hy:=Ext.trans (a:=w) EX hx0;clear hx;have hx:=hy;clear hy;have hn0:=BB hx0 (w.heap.size);(first | simp [↓heap_drew_at,↓heap_drewN_at,↓heap_alloc_at,↓heap_set_at,ne_two,ne_three,ne_two_left,ne_three_left,↓hb0.eq,hb0.lt,hb0.ne] at hn0 | simp [↓heap_drew_at,↓heap_drewN_at,↓heap_alloc_at,↓heap_set_at,ne_two,ne_three,ne_two_left,ne_three_left] at hn0);(try clear hb0 hc0 hf0 hl0);have hb0:=Blk.mk hn0;clear hn0;obtain ⟨hc0,hf0,hl0⟩:=hb0.all;(try clear hx0))
  | (go_at_call 44;refine (HF.out _ EX).mono ?_;rintro e w3 ⟨rfl,hx0⟩;have hsz:=(Ext.trans (a:=w) EX hx0).size_le;have hy:=Ext.trans (a:=w) EX hx0;clear hx;have hx:=hy;clear hy;have hn0:=BB hx0 (w.heap.size);(first | simp [↓heap_drew_at,↓heap_drewN_at,↓heap_alloc_at,↓heap_set_at,ne_two,ne_three,ne_two_left,ne_three_left,↓hb0.eq,hb0.lt,hb0.ne] at hn0 | simp [↓heap_drew_at,↓heap_drewN_at,↓heap_alloc_at,↓heap_set_at,ne_two,ne_three,ne_two_left,ne_three_left] at hn0);(try clear hb0 hc0 hf0 hl0);have hb0:=Blk.mk hn0;clear hn0;obtain ⟨hc0,hf0,hl0⟩:=hb0.all;(try clear hx0))
  | (go_at_call 47;refine (HM.out _ EX).mono ?_;rintro e w4 ⟨rfl,hx0⟩;have hnF:=BB hx0 (w3.heap.size);simp [↓heap_drew_at,↓heap_drewN_at,↓heap_alloc_at,↓heap_set_at,ne_two,ne_three,ne_two_left,ne_three_left] at hnF;have hbF:=Blk.mk hnF;clear hnF;obtain ⟨hcF,hfF,hlF⟩:=hbF.all;have hy:=Ext.trans (a:=w) EX hx0;clear hx hx0 hb0 hc0 hf0 hl0;have hx:=hy;clear hy)
  | (go_at_call 48;refine (HW.out _ EX).mono ?_;rintro e w5 ⟨B,m,d,rfl,hm,hmd,hT,hx5⟩;have HX:=Lib.hid hx5;have Hm:=Lib.hid hm;have HTc:=Lib.hid (⟨hT.out.1,hT.out.2,hmd⟩:_∧_∧_);clear hx hx5 hm hmd hT hcF hfF hlF hbF))
 go_ret2
 exact ⟨_,_,_,rfl,Hm.out,HTc,HX.out⟩
end Go.Proofs.YtfmgnaigcibcaaaGreatDoor
namespace Go.Proofs.YtfmgnaigcibcaaaGreatDoor
open Go Go.RowKit Pa
theorem ty_of_rem {q:Qp} (h:q.check=0) (k:q.kind=2):1≤q.ty∧q.ty≤3:=by
 have ha:=(check_parts h).2.2.2
 unfold Pv.actCheck at ha
 rw [if_neg (by show ¬ (q.kind=1∨q.kind=3);omega),if_pos (by show (q.kind=2∨q.kind=4);omega)] at ha
 unfold Pv.remCheck at ha
 rw [if_neg (by show ¬ q.kind=4;omega)] at ha
 unfold Pv.whole at ha
 by_cases h1:q.ty < 1∨3 < q.ty
 ·rw [if_pos (by exact h1)] at ha;cases ha
 omega
theorem rremove_eq {l:List Pf} {q:Qp} {f:Pf} (hg:Tr.Good l) (hq:q.check=0) (k:q.kind=2∨q.kind=4) (hf:Tr.find l q.path=some f) (A1:Option Addr) (c1:Nat) (A2:Option Addr) (c2:Nat):
 Tr.rremove l f (q.pv A1 c1 A2 c2)=Tr.remove l (q.pv none 0 none 0).gone:=by
 obtain ⟨m1,m2⟩:=Tr.find_mem hf
 have hl:=check_lean hq
 have hne:q.path≠⟨#[]⟩:=Tr.isPath_ne (path_ok (check_parts hq).2.2.1).1
 unfold Tr.rremove Tr.remove
 rw [show (q.pv none 0 none 0).gone.path=q.path from rfl,hf]
 by_cases k4:q.kind=4
 ·have hE:=Tr.element_zero.1 (hg.el f m1)
  have e0:(q.pv none 0 none 0).gone=⟨q.path,4,0,⟨#[]⟩⟩:=by
   show (⟨q.path,if q.kind=4 then 4 else q.ty,q.om,q.so⟩:Pf)=_
   rw [if_pos k4,hl.om (by omega) (by omega),hl.so (by omega) (by omega)]
  rw [e0,if_neg (show ¬ q.kind=2 by omega)]
  show (if f.ty≠4 then (([]:List Pf),(8:Int)) else if l.any (fun x=>Qm.below x.path q.path)=true then ([],15) else (l.filter (fun x=>!Qm.eqB x.path q.path),0))=(if f.ty≠4 then ([],8) else if f.mode≠0∨Qm.eqB f.data ⟨#[]⟩=false then ([],15) else if l.any (fun x=>Qm.below x.path q.path)=true then ([],15) else (l.filter (fun x=>!Qm.eqB x.path q.path),0))
  by_cases e:f.ty=4
  ·obtain ⟨z1,z2⟩:=hE.2.2.2.1 e
   rw [if_neg (show ¬ (f.ty≠4) from fun h=>h e),if_neg (show ¬ (f.ty≠4) from fun h=>h e),if_neg (show ¬ (f.mode≠0∨Qm.eqB f.data ⟨#[]⟩=false) from ?_)]
   rintro (h | h)
   ·exact h z1
   ·rw [Qm.eqB_iff.2 z2] at h
    cases h
  ·rw [if_pos e,if_pos e]
 ·have k2:q.kind=2:=by omega
  have hty:=ty_of_rem hq k2
  have e0:(q.pv none 0 none 0).gone=⟨q.path,q.ty,q.om,q.so⟩:=by
   show (⟨q.path,if q.kind=4 then 4 else q.ty,q.om,q.so⟩:Pf)=_
   rw [if_neg k4]
  rw [e0,if_pos (show q.kind=2 from k2)]
  show (if f.ty≠q.ty then (([]:List Pf),(8:Int)) else if f.mode≠q.om∨Qm.eqB f.data q.so=false then ([],15) else (l.filter (fun x=>!Qm.eqB x.path q.path),0))=(if f.ty≠q.ty then ([],8) else if f.mode≠q.om∨Qm.eqB f.data q.so=false then ([],15) else if l.any (fun x=>Qm.below x.path q.path)=true then ([],15) else (l.filter (fun x=>!Qm.eqB x.path q.path),0))
  by_cases e:f.ty=q.ty
  ·have hnb:¬ l.any (fun x=>Qm.below x.path q.path)=true:=by
    rw [Tr.any_below]
    rintro ⟨x,hx,hb⟩
    obtain ⟨d,hd,e1,e2⟩:=hg.dir_above hx hne hb
    have e3:=hg.srt.uniq hd m1 (e2.trans m2.symm)
    subst e3
    omega
   rw [if_neg hnb]
  ·rw [if_pos e,if_pos e]
theorem rmove_eq {l:List Pf} {s t:ByteArray} {f:Pf} (hf:Tr.find l s=some f):Tr.rmove l s t=Tr.move l s t:=by
 unfold Tr.rmove Tr.move
 rw [hf]
 rfl
end Go.Proofs.YtfmgnaigcibcaaaGreatDoor
namespace Go.Proofs.YtfmgnaigcibcaaaGreatDoor
open Go Go.RowKit
theorem ref_check {p:Pv} {q:Qp} {w:World} {F:Nat→Prop} (h:Is w F p q) (m:q.Mild) (s1:∀ x∈q.old,x.size≤4611686018427387904) (s2:∀ x∈q.new,x.size≤4611686018427387904):
 Calls Tryz.prog 42 #[p.v] w (Ret (.int .i64 q.check) w):=by
 obtain ⟨A1,c1,A2,c2,rfl,⟨S1,S2⟩,_⟩:=h
 have h1:=m.path
 have h2:=m.to_
 have h3:=m.old
 have h4:=m.new
 have:=rcheck_any (q.pv A1 c1 A2 c2) q.old q.new w S1 S2 (by show q.old.length≤_;omega) (by show q.new.length≤_;omega) (by show q.path.size≤_;omega) (by show q.to_.size≤_;omega) s1 s2
 rwa [check_pv] at this
theorem redited_q (q:Qp) (f:Pf) (A1:Option Addr) (c1:Nat) (A2:Option Addr) (c2:Nat) (w:World) (hc:q.check=0) (hE:Tr.element f=0) (hK:q.kind=6∨q.kind=7∨q.kind=8)
 (S1:Sl w A1 q.old.length c1 q.old) (S2:Sl w A2 q.new.length c2 q.new) (s2:∀ x∈q.new,x.size≤4611686018427387904):
 Calls Tryz.prog 47 #[f.v,(q.pv A1 c1 A2 c2).v] w (GivesE (q.edits f) w):=by
 have he:=check_edit hc
 have hel:=Tr.element_zero.1 hE
 rcases hK with k | k | k
 ·obtain ⟨g1,g2,g3,_,g5,g6⟩:=he.six k
  have hh:(q.pv A1 c1 A2 c2).hunk.check=0:=by
   show (if q.at_ < 0∨1099511627776 < q.at_ then (2:Int) else if q.old.length+q.new.length=0 then 1 else 0)=0
   rw [if_neg (by omega),if_neg]
   intro e0
   have z1:=List.length_eq_zero_iff.1 (show q.old.length=0 by omega)
   have z2:=List.length_eq_zero_iff.1 (show q.new.length=0 by omega)
   exact g3 (z1.trans z2.symm)
  have e:q.edits f=({ f with data:=((q.pv A1 c1 A2 c2).relines q.old q.new f).1 },((q.pv A1 c1 A2 c2).relines q.old q.new f).2):=by
   unfold Qp.edits
   rw [if_pos k]
   rfl
  rw [e]
  refine redited_lines (q.pv A1 c1 A2 c2) q.old q.new f w q.at_.toNat k (Int.toNat_of_nonneg g1).symm (by omega) S1.1 S2.1 g5 g6 hh s2 (fun h1=>?_)
  exact (content_zero.1 hel.2.2.2.2).2 h1
 ·obtain ⟨g1,g2,_,g4,g5⟩:=he.seven k
  have e:q.edits f=({ f with data:=((q.pv A1 c1 A2 c2).splice f).1 },((q.pv A1 c1 A2 c2).splice f).2):=by
   unfold Qp.edits
   rw [if_neg (by omega),if_pos k]
   rfl
  rw [e]
  exact redited_bytes (q.pv A1 c1 A2 c2) f w q.off.toNat k (Int.toNat_of_nonneg g1).symm (by omega) (by have :=(content_zero.1 hel.2.2.2.2).1;omega) (by show q.so.size≤1000000;omega) (by show q.sn.size≤1000000;omega)
 ·have e:q.edits f=(q.pv A1 c1 A2 c2).chmod f:=by
   unfold Qp.edits
   rw [if_neg (by omega),if_neg (by omega)]
   rfl
  rw [e]
  exact redited_mode (q.pv A1 c1 A2 c2) f w k
set_option maxHeartbeats 4000000 in
theorem refapply_cap (p:Pv) (q:Qp) (A:Option Addr) (n c:Nat) (l:List Pf) (w:World) (h:Trs w A l) (hn:l.length=n) (hcap:n≤c) (hb:n≤10000000000000) {F:Nat→Prop} (hq:Is w F p q) (m:q.Mild)
 (s1:∀ x∈q.old,x.size≤4611686018427387904) (s2:∀ x∈q.new,x.size≤4611686018427387904):
 Calls Tryz.prog 15 #[.slice A n c,p.v] w (GivesU (Tr.apply l q) w):=by
 have HC:=fun W (hW:Ext w W)=>rchecktree_any A n c l W (h.ext hW) hn hb hcap
 have HK:=fun W (hW:Ext w W)=>ref_check (hq.ext hW) m s1 s2
 by_cases e1:Tr.checkTree l=0
 rotate_left
 ·have hv:Tr.apply l q=([],Tr.checkTree l):=by unfold Tr.apply;rw [if_pos e1]
  rw [hv]
  exact rap_tree p A n c w _ (by simpa using e1) (Lib.hid HC)
 rw [e1] at HC
 by_cases e2:q.check=0
 rotate_left
 ·have hv:Tr.apply l q=([],q.check):=by unfold Tr.apply;rw [if_neg (by simpa using e1),if_pos e2]
  rw [hv]
  exact rap_patch p A n c w _ (by simpa using e2) (Lib.hid HC) (Lib.hid HK)
 rw [e2] at HK
 have hap:Tr.apply l q=if q.kind=1∨q.kind=3 then Tr.add l (q.pv none 0 none 0).file
  else if q.kind=2∨q.kind=4 then Tr.remove l (q.pv none 0 none 0).gone
  else if q.kind=5 then Tr.move l q.path q.to_ else Tr.edit l q.path q.edits:=by
  unfold Tr.apply
  rw [if_neg (by simpa using e1),if_neg (by simpa using e2)]
 rw [hap]
 clear hap
 have hg:=Tr.good_iff.1 e1
 have hb2:n≤200:=by rw [← hn];exact hg.len
 obtain ⟨kk1,kk2⟩:=(check_parts e2).1
 obtain ⟨p1,p2⟩:=path_ok (check_parts e2).2.2.1
 have z1:=path_small p1
 have hl:=check_lean e2
 have hz:∀ g∈l,g.path.size≤200:=fun g hgm=>path_small (Tr.element_zero.1 (hg.el g hgm)).1
 have hq':=hq
 obtain ⟨A1,c1,A2,c2,rfl,⟨S1,S2⟩,_⟩:=hq
 by_cases k13:q.kind=1∨q.kind=3
 ·rw [if_pos k13]
  refine rap_adds (q.pv A1 c1 A2 c2) (q.pv none 0 none 0).file A n c w _ ?_ (Lib.hid HC) (Lib.hid HK) (Lib.hid fun W hW=>(radded_any A n c l (q.pv none 0 none 0).file W (h.ext hW) hn hcap hb2 (by show q.path.size≤1000000;omega)).mono fun e w' hh=>hh.back hW)
  rcases k13 with k | k
  ·refine .inl ⟨by show (q.kind == 1)=true;simp [k],?_⟩
   show (⟨q.path,if q.kind=3 then 4 else q.ty,q.nm,q.sn⟩:Pf)=⟨q.path,q.ty,q.nm,q.sn⟩
   rw [if_neg (by omega)]
  ·refine .inr ⟨by show (q.kind == 1)=false;simp [k],by show (q.kind == 3)=true;simp [k],?_⟩
   show (⟨q.path,if q.kind=3 then 4 else q.ty,q.nm,q.sn⟩:Pf)=⟨q.path,4,0,⟨#[]⟩⟩
   rw [if_pos k,hl.nm (by omega) (by omega),hl.sn (by omega) (by omega)]
 rw [if_neg k13]
 have k1':((q.pv A1 c1 A2 c2).kind == 1)=false:=by show (q.kind == 1)=false;simp;omega
 have k3':((q.pv A1 c1 A2 c2).kind == 3)=false:=by show (q.kind == 3)=false;simp;omega
 have HF:=fun W (hW:Ext w W)=>rtfind_any A n c q.path l W (h.ext hW) hn hb
 cases hf:Tr.find l q.path with
 | none=>
   have hv:(if q.kind=2∨q.kind=4 then Tr.remove l (q.pv none 0 none 0).gone
    else if q.kind=5 then Tr.move l q.path q.to_ else Tr.edit l q.path q.edits)=([],7):=by
    split
    ·unfold Tr.remove
     rw [show (q.pv none 0 none 0).gone.path=q.path from rfl,hf]
    ·split
     ·unfold Tr.move
      rw [hf]
      rfl
     ·unfold Tr.edit
      rw [hf]
   rw [hv]
   rw [found_none hf] at HF
   exact rap_none (q.pv A1 c1 A2 c2) Pf.zero A n c w k1' k3' (Lib.hid HC) (Lib.hid HK) (Lib.hid HF)
 | some f=>
   obtain ⟨m1,m2⟩:=Tr.find_mem hf
   rw [found_some hf] at HF
   by_cases k24:q.kind=2∨q.kind=4
   ·rw [if_pos k24,← rremove_eq hg e2 k24 hf A1 c1 A2 c2]
    refine rap_rems (q.pv A1 c1 A2 c2) f A n c w _ k1' k3' ?_ (Lib.hid HC) (Lib.hid HK) (Lib.hid HF) (Lib.hid fun W hW=>(rremoved_any (q.pv A1 c1 A2 c2) f A n c l W (h.ext hW) hn hb2 (fun g hgm=>by have :=hz g hgm;omega)).mono fun e w' hh=>hh.back hW)
    rcases k24 with k | k
    ·exact .inl (by show (q.kind == 2)=true;simp [k])
    ·exact .inr ⟨by show (q.kind == 2)=false;simp [k],by show (q.kind == 4)=true;simp [k]⟩
   rw [if_neg k24]
   have k2':((q.pv A1 c1 A2 c2).kind == 2)=false:=by show (q.kind == 2)=false;simp;omega
   have k4':((q.pv A1 c1 A2 c2).kind == 4)=false:=by show (q.kind == 4)=false;simp;omega
   by_cases k5:q.kind=5
   ·rw [if_pos k5,← rmove_eq hf]
    have z2:=path_small (p2 k5)
    exact rap_move (q.pv A1 c1 A2 c2) f A n c w _ k1' k3' k2' k4' (by show (q.kind == 5)=true;simp [k5]) (Lib.hid HC) (Lib.hid HK) (Lib.hid HF) (Lib.hid fun W hW=>(rmoved_any (q.pv A1 c1 A2 c2) A n c l W (h.ext hW) hn hb2 hz z1 z2).mono fun e w' hh=>hh.back hW)
   rw [if_neg k5]
   have k5':((q.pv A1 c1 A2 c2).kind == 5)=false:=by show (q.kind == 5)=false;simp;omega
   have HM:=fun W (hW:Ext w W)=>redited_q q f A1 c1 A2 c2 W e2 (hg.el f m1) (by omega) (S1.ext hW) (S2.ext hW) s2
   by_cases e3:(q.edits f).2=0
   ·have hv:Tr.edit l q.path q.edits=(Tr.putIn (q.edits f).1 l,0):=by unfold Tr.edit;rw [hf];exact if_neg (by simpa using e3)
    rw [hv]
    exact rap_edit (q.pv A1 c1 A2 c2) f (q.edits f).1 A n c w _ k1' k3' k2' k4' k5' (Lib.hid HC) (Lib.hid HK) (Lib.hid HF)
     (Lib.hid fun W hW=>(HM W hW).mono fun e w' ⟨g,h1,h2,h3⟩=>⟨by rw [h1,h2 e3,e3],h3⟩)
     (Lib.hid fun W hW=>(rwith_any A n c l (q.edits f).1 W (h.ext hW) hn hcap (by omega)).mono fun e w' hh=>hh.back hW)
   ·have hv:Tr.edit l q.path q.edits=([],(q.edits f).2):=by unfold Tr.edit;rw [hf];exact if_pos e3
    rw [hv]
    exact rap_spoilt (q.pv A1 c1 A2 c2) f A n c w _ (by simpa using e3) k1' k3' k2' k4' k5' (Lib.hid HC) (Lib.hid HK) (Lib.hid HF)
     (Lib.hid fun W hW=>(HM W hW).mono fun e w' ⟨g,h1,h2,h3⟩=>⟨g,h1,h3⟩)
theorem refapply_any (p:Pv) (q:Qp) (A:Option Addr) (n c:Nat) (l:List Pf) (w:World) (h:Trs w A l) (hn:l.length=n) (hcap:n≤c) (hb:n≤10000000000000) {F:Nat→Prop} (hq:Is w F p q) (m:q.Mild)
 (s1:∀ x∈q.old,x.size≤4611686018427387904) (s2:∀ x∈q.new,x.size≤4611686018427387904):
 Calls Tryz.prog 15 #[.slice A n c,p.v] w (GivesT (Tr.apply l q) w):=(refapply_cap p q A n c l w h hn hcap hb hq m s1 s2).mono fun _ _ h=>h.givesT
end Go.Proofs.YtfmgnaigcibcaaaGreatDoor
