import Derived.Test.YtfmgnaigcibcaaaGreatDoorTQ8
set_option linter.unusedSimpArgs false
set_option linter.unusedVariables false
namespace Go.Proofs.YtfmgnaigcibcaaaGreatDoor
open Go.RowKit
def GivesP (q:Qp) (v:Value) (w:World) (e:Ending) (w':World):Prop:=∃ p,e=.returned (.tuple #[p.v,v])∧Is w' (fun b=>w.heap.size≤b) p q∧Ext w w'
def GivesOne (q:Qp) (w:World) (e:Ending) (w':World):Prop:=∃ p,e=.returned p.v∧Is w' (fun b=>w.heap.size≤b) p q∧Ext w w'
set_option maxHeartbeats 4000000 in
set_option maxRecDepth 100000 in
theorem inv_bad (p:Pv) (q:Qp) (w:World) (hg:Glob w) {F:Nat→Prop} (h:Is w F p q) (b1:q.old.length≤1152921504606846976) (b2:q.new.length≤1152921504606846976) (b3:q.path.size≤1152921504606846976) (b4:q.to_.size≤1152921504606846976) (hc:q.check≠0):
 Calls Tryz.prog 51 #[p.v] w (GivesP Qp.zero (.int .i64 q.check) w):=by
 have H:=Lib.hid h
 have Hg:=Lib.hid hg
 have hc2:(q.check != 0)=true:=by simpa using hc
 clear h hg hc
 go_enter Tryz.func51,Tryz.ntmps51
 have hx:=Ext.refl w
 go_wp2_with (go_at_call 38;refine (check_q p q _ (Hg.out.ext EX) (H.out.ext EX) b1 b2 b3 b4).mono ?_;rintro e w1 ⟨rfl,hx0⟩;have hy:=Ext.trans (a:=w) EX hx0;clear hx;have hx:=hy;clear hy;have hn0:=BB hx0 (w.heap.size);have hn1:=BB hx0 (w.heap.size+1);(first | simp [↓heap_drew_at,↓heap_drewN_at,↓heap_alloc_at,↓heap_set_at,ne_two,ne_three,ne_two_left,ne_three_left,↓hb0.eq,hb0.lt,hb0.ne,↓hb1.eq,hb1.lt,hb1.ne] at hn0 hn1 | simp [↓heap_drew_at,↓heap_drewN_at,↓heap_alloc_at,↓heap_set_at,ne_two,ne_three,ne_two_left,ne_three_left] at hn0 hn1);(try clear hb0 hc0 hf0 hl0);(try clear hb1 hc1 hf1 hl1);have hb0:=Blk.mk hn0;clear hn0;obtain ⟨hc0,hf0,hl0⟩:=hb0.all;have hb1:=Blk.mk hn1;clear hn1;obtain ⟨hc1,hf1,hl1⟩:=hb1.all;(try clear hx0))
 refine bodyPost_ret (v:=.tuple #[(Qp.zero.pv none 0 none 0).v,.int .i64 q.check]) ?_ rfl ?_
 ·simp only [results,Tryz.results51]
  go_simp
  exact ⟨rfl,rfl,rfl,rfl,rfl,rfl,rfl,rfl,rfl,rfl,rfl,rfl⟩
 ·exact ⟨_,rfl,Is.none _ _ Qp.zero rfl rfl,EX⟩
set_option maxHeartbeats 4000000 in
set_option maxRecDepth 100000 in
theorem inv_add (p:Pv) (q:Qp) (w:World) (hg:Glob w) {F:Nat→Prop} (h:Is w F p q) (b1:q.old.length≤1152921504606846976) (b2:q.new.length≤1152921504606846976) (b3:q.path.size≤1152921504606846976) (b4:q.to_.size≤1152921504606846976) (hc:q.check=0) (hK:q.kind=1∨q.kind=3):
 Calls Tryz.prog 51 #[p.v] w (GivesP q.inv (.int .i64 0) w):=by
 have H:=Lib.hid h
 have Hg:=Lib.hid hg
 obtain ⟨A1,c1,A2,c2,rfl,_⟩:=h
 have ha:(q.pv A1 c1 A2 c2).act=.iface 103 (q.pv A1 c1 A2 c2).v:=by rw [Pv.act,if_pos hK]
 have hi:(q.pv A1 c1 A2 c2).addInv=q.inv.pv none 0 none 0:=by rcases hK with hK | hK <;> simp [Qp.inv,Pv.addInv,Pv.zero,Qp.zero,hK]
 have ho:q.inv.old=[]∧q.inv.new=[]:=by rcases hK with hK | hK <;> simp [Qp.inv,Pv.addInv,Pv.zero,Qp.zero,hK]
 have Ha:=Lib.hid ha
 have HI:=Lib.hid hi
 have Ho:=Lib.hid ho
 have Hc:=Lib.hid hc
 clear ha hi hg ho hc hK
 generalize hp:q.pv A1 c1 A2 c2=p at *
 clear hp
 go_enter Tryz.func51,Tryz.ntmps51
 have hx:=Ext.refl w
 go_wp2_with fail
 go_at_call 38;refine (check_q p q _ (Hg.out.ext EX) (H.out.ext EX) b1 b2 b3 b4).mono ?_;rintro e w1 ⟨rfl,hx0⟩;have hy:=Ext.trans (a:=w) EX hx0;clear hx;have hx:=hy;clear hy;have hn0:=BB hx0 (w.heap.size);have hn1:=BB hx0 (w.heap.size+1);(first | simp [↓heap_drew_at,↓heap_drewN_at,↓heap_alloc_at,↓heap_set_at,ne_two,ne_three,ne_two_left,ne_three_left,↓hb0.eq,hb0.lt,hb0.ne,↓hb1.eq,hb1.lt,hb1.ne] at hn0 hn1 | simp [↓heap_drew_at,↓heap_drewN_at,↓heap_alloc_at,↓heap_set_at,ne_two,ne_three,ne_two_left,ne_three_left] at hn0 hn1);(try clear hb0 hc0 hf0 hl0);(try clear hb1 hc1 hf1 hl1);have hb0:=Blk.mk hn0;clear hn0;obtain ⟨hc0,hf0,hl0⟩:=hb0.all;have hb1:=Blk.mk hn1;clear hn1;obtain ⟨hc1,hf1,hl1⟩:=hb1.all;(try clear hx0)
 rw [Hc.out]
 go_wp2_with fail
 go_at_call 40;refine (action_any p _).mono ?_;rintro e w1 ⟨rfl,hx0⟩;have hy:=Ext.trans (a:=w) EX hx0;clear hx;have hx:=hy;clear hy;have hn0:=BB hx0 (w.heap.size);have hn1:=BB hx0 (w.heap.size+1);(first | simp [↓heap_drew_at,↓heap_drewN_at,↓heap_alloc_at,↓heap_set_at,ne_two,ne_three,ne_two_left,ne_three_left,↓hb0.eq,hb0.lt,hb0.ne,↓hb1.eq,hb1.lt,hb1.ne] at hn0 hn1 | simp [↓heap_drew_at,↓heap_drewN_at,↓heap_alloc_at,↓heap_set_at,ne_two,ne_three,ne_two_left,ne_three_left] at hn0 hn1);(try clear hb0 hc0 hf0 hl0);(try clear hb1 hc1 hf1 hl1);have hb0:=Blk.mk hn0;clear hn0;obtain ⟨hc0,hf0,hl0⟩:=hb0.all;have hb1:=Blk.mk hn1;clear hn1;obtain ⟨hc1,hf1,hl1⟩:=hb1.all;(try clear hx0)
 rw [Ha.out]
 go_wp2_with fail
 refine upon_method (f:=179) (by kernel_rfl) (by kernel_rfl) ?_
 rw [Oper.upon_enter]
 go_at_call 179;refine (addInv_any p _).mono ?_;rintro e w1 ⟨rfl,hx0⟩;have hy:=Ext.trans (a:=w) EX hx0;clear hx;have hx:=hy;clear hy;have hn0:=BB hx0 (w.heap.size);have hn1:=BB hx0 (w.heap.size+1);(first | simp [↓heap_drew_at,↓heap_drewN_at,↓heap_alloc_at,↓heap_set_at,ne_two,ne_three,ne_two_left,ne_three_left,↓hb0.eq,hb0.lt,hb0.ne,↓hb1.eq,hb1.lt,hb1.ne] at hn0 hn1 | simp [↓heap_drew_at,↓heap_drewN_at,↓heap_alloc_at,↓heap_set_at,ne_two,ne_three,ne_two_left,ne_three_left] at hn0 hn1);(try clear hb0 hc0 hf0 hl0);(try clear hb1 hc1 hf1 hl1);have hb0:=Blk.mk hn0;clear hn0;obtain ⟨hc0,hf0,hl0⟩:=hb0.all;have hb1:=Blk.mk hn1;clear hn1;obtain ⟨hc1,hf1,hl1⟩:=hb1.all;(try clear hx0)
 rw [HI.out]
 go_wp2_with fail
 refine bodyPost_ret (v:=.tuple #[(q.inv.pv none 0 none 0).v,.int .i64 0]) ?_ rfl ?_
 ·simp only [results,Tryz.results51]
  go_simp
 ·exact ⟨_,rfl,Is.none _ _ q.inv Ho.out.1 Ho.out.2,EX⟩
set_option maxHeartbeats 4000000 in
set_option maxRecDepth 100000 in
theorem inv_rem (p:Pv) (q:Qp) (w:World) (hg:Glob w) {F:Nat→Prop} (h:Is w F p q) (b1:q.old.length≤1152921504606846976) (b2:q.new.length≤1152921504606846976) (b3:q.path.size≤1152921504606846976) (b4:q.to_.size≤1152921504606846976) (hc:q.check=0) (hK:q.kind=2∨q.kind=4):
 Calls Tryz.prog 51 #[p.v] w (GivesP q.inv (.int .i64 0) w):=by
 have H:=Lib.hid h
 have Hg:=Lib.hid hg
 obtain ⟨A1,c1,A2,c2,rfl,_⟩:=h
 have ha:(q.pv A1 c1 A2 c2).act=.iface 104 (q.pv A1 c1 A2 c2).v:=by rw [Pv.act,if_neg (by dsimp only;omega),if_pos hK]
 have hi:(q.pv A1 c1 A2 c2).remInv=q.inv.pv none 0 none 0:=by rcases hK with hK | hK <;> simp [Qp.inv,Pv.remInv,Pv.zero,Qp.zero,hK]
 have ho:q.inv.old=[]∧q.inv.new=[]:=by rcases hK with hK | hK <;> simp [Qp.inv,Pv.remInv,Pv.zero,Qp.zero,hK]
 have Ha:=Lib.hid ha
 have HI:=Lib.hid hi
 have Ho:=Lib.hid ho
 have Hc:=Lib.hid hc
 clear ha hi hg ho hc hK
 generalize hp:q.pv A1 c1 A2 c2=p at *
 clear hp
 go_enter Tryz.func51,Tryz.ntmps51
 have hx:=Ext.refl w
 go_wp2_with fail
 go_at_call 38;refine (check_q p q _ (Hg.out.ext EX) (H.out.ext EX) b1 b2 b3 b4).mono ?_;rintro e w1 ⟨rfl,hx0⟩;have hy:=Ext.trans (a:=w) EX hx0;clear hx;have hx:=hy;clear hy;have hn0:=BB hx0 (w.heap.size);have hn1:=BB hx0 (w.heap.size+1);(first | simp [↓heap_drew_at,↓heap_drewN_at,↓heap_alloc_at,↓heap_set_at,ne_two,ne_three,ne_two_left,ne_three_left,↓hb0.eq,hb0.lt,hb0.ne,↓hb1.eq,hb1.lt,hb1.ne] at hn0 hn1 | simp [↓heap_drew_at,↓heap_drewN_at,↓heap_alloc_at,↓heap_set_at,ne_two,ne_three,ne_two_left,ne_three_left] at hn0 hn1);(try clear hb0 hc0 hf0 hl0);(try clear hb1 hc1 hf1 hl1);have hb0:=Blk.mk hn0;clear hn0;obtain ⟨hc0,hf0,hl0⟩:=hb0.all;have hb1:=Blk.mk hn1;clear hn1;obtain ⟨hc1,hf1,hl1⟩:=hb1.all;(try clear hx0)
 rw [Hc.out]
 go_wp2_with fail
 go_at_call 40;refine (action_any p _).mono ?_;rintro e w1 ⟨rfl,hx0⟩;have hy:=Ext.trans (a:=w) EX hx0;clear hx;have hx:=hy;clear hy;have hn0:=BB hx0 (w.heap.size);have hn1:=BB hx0 (w.heap.size+1);(first | simp [↓heap_drew_at,↓heap_drewN_at,↓heap_alloc_at,↓heap_set_at,ne_two,ne_three,ne_two_left,ne_three_left,↓hb0.eq,hb0.lt,hb0.ne,↓hb1.eq,hb1.lt,hb1.ne] at hn0 hn1 | simp [↓heap_drew_at,↓heap_drewN_at,↓heap_alloc_at,↓heap_set_at,ne_two,ne_three,ne_two_left,ne_three_left] at hn0 hn1);(try clear hb0 hc0 hf0 hl0);(try clear hb1 hc1 hf1 hl1);have hb0:=Blk.mk hn0;clear hn0;obtain ⟨hc0,hf0,hl0⟩:=hb0.all;have hb1:=Blk.mk hn1;clear hn1;obtain ⟨hc1,hf1,hl1⟩:=hb1.all;(try clear hx0)
 rw [Ha.out]
 go_wp2_with fail
 refine upon_method (f:=202) (by kernel_rfl) (by kernel_rfl) ?_
 rw [Oper.upon_enter]
 go_at_call 202;refine (remInv_any p _).mono ?_;rintro e w1 ⟨rfl,hx0⟩;have hy:=Ext.trans (a:=w) EX hx0;clear hx;have hx:=hy;clear hy;have hn0:=BB hx0 (w.heap.size);have hn1:=BB hx0 (w.heap.size+1);(first | simp [↓heap_drew_at,↓heap_drewN_at,↓heap_alloc_at,↓heap_set_at,ne_two,ne_three,ne_two_left,ne_three_left,↓hb0.eq,hb0.lt,hb0.ne,↓hb1.eq,hb1.lt,hb1.ne] at hn0 hn1 | simp [↓heap_drew_at,↓heap_drewN_at,↓heap_alloc_at,↓heap_set_at,ne_two,ne_three,ne_two_left,ne_three_left] at hn0 hn1);(try clear hb0 hc0 hf0 hl0);(try clear hb1 hc1 hf1 hl1);have hb0:=Blk.mk hn0;clear hn0;obtain ⟨hc0,hf0,hl0⟩:=hb0.all;have hb1:=Blk.mk hn1;clear hn1;obtain ⟨hc1,hf1,hl1⟩:=hb1.all;(try clear hx0)
 rw [HI.out]
 go_wp2_with fail
 refine bodyPost_ret (v:=.tuple #[(q.inv.pv none 0 none 0).v,.int .i64 0]) ?_ rfl ?_
 ·simp only [results,Tryz.results51]
  go_simp
 ·exact ⟨_,rfl,Is.none _ _ q.inv Ho.out.1 Ho.out.2,EX⟩
set_option maxHeartbeats 4000000 in
set_option maxRecDepth 100000 in
theorem inv_mov (p:Pv) (q:Qp) (w:World) (hg:Glob w) {F:Nat→Prop} (h:Is w F p q) (b1:q.old.length≤1152921504606846976) (b2:q.new.length≤1152921504606846976) (b3:q.path.size≤1152921504606846976) (b4:q.to_.size≤1152921504606846976) (hc:q.check=0) (hK:q.kind=5):
 Calls Tryz.prog 51 #[p.v] w (GivesP q.inv (.int .i64 0) w):=by
 have H:=Lib.hid h
 have Hg:=Lib.hid hg
 obtain ⟨A1,c1,A2,c2,rfl,_⟩:=h
 have ha:(q.pv A1 c1 A2 c2).act=.iface 105 (q.pv A1 c1 A2 c2).v:=by rw [Pv.act,if_neg (by dsimp only;omega),if_neg (by dsimp only;omega),if_pos hK]
 have hi:(q.pv A1 c1 A2 c2).movInv=q.inv.pv none 0 none 0:=by simp [Qp.inv,Pv.movInv,Pv.zero,Qp.zero,hK]
 have ho:q.inv.old=[]∧q.inv.new=[]:=by simp [Qp.inv,Pv.movInv,Pv.zero,Qp.zero,hK]
 have Ha:=Lib.hid ha
 have HI:=Lib.hid hi
 have Ho:=Lib.hid ho
 have Hc:=Lib.hid hc
 clear ha hi hg ho hc hK
 generalize hp:q.pv A1 c1 A2 c2=p at *
 clear hp
 go_enter Tryz.func51,Tryz.ntmps51
 have hx:=Ext.refl w
 go_wp2_with fail
 go_at_call 38;refine (check_q p q _ (Hg.out.ext EX) (H.out.ext EX) b1 b2 b3 b4).mono ?_;rintro e w1 ⟨rfl,hx0⟩;have hy:=Ext.trans (a:=w) EX hx0;clear hx;have hx:=hy;clear hy;have hn0:=BB hx0 (w.heap.size);have hn1:=BB hx0 (w.heap.size+1);(first | simp [↓heap_drew_at,↓heap_drewN_at,↓heap_alloc_at,↓heap_set_at,ne_two,ne_three,ne_two_left,ne_three_left,↓hb0.eq,hb0.lt,hb0.ne,↓hb1.eq,hb1.lt,hb1.ne] at hn0 hn1 | simp [↓heap_drew_at,↓heap_drewN_at,↓heap_alloc_at,↓heap_set_at,ne_two,ne_three,ne_two_left,ne_three_left] at hn0 hn1);(try clear hb0 hc0 hf0 hl0);(try clear hb1 hc1 hf1 hl1);have hb0:=Blk.mk hn0;clear hn0;obtain ⟨hc0,hf0,hl0⟩:=hb0.all;have hb1:=Blk.mk hn1;clear hn1;obtain ⟨hc1,hf1,hl1⟩:=hb1.all;(try clear hx0)
 rw [Hc.out]
 go_wp2_with fail
 go_at_call 40;refine (action_any p _).mono ?_;rintro e w1 ⟨rfl,hx0⟩;have hy:=Ext.trans (a:=w) EX hx0;clear hx;have hx:=hy;clear hy;have hn0:=BB hx0 (w.heap.size);have hn1:=BB hx0 (w.heap.size+1);(first | simp [↓heap_drew_at,↓heap_drewN_at,↓heap_alloc_at,↓heap_set_at,ne_two,ne_three,ne_two_left,ne_three_left,↓hb0.eq,hb0.lt,hb0.ne,↓hb1.eq,hb1.lt,hb1.ne] at hn0 hn1 | simp [↓heap_drew_at,↓heap_drewN_at,↓heap_alloc_at,↓heap_set_at,ne_two,ne_three,ne_two_left,ne_three_left] at hn0 hn1);(try clear hb0 hc0 hf0 hl0);(try clear hb1 hc1 hf1 hl1);have hb0:=Blk.mk hn0;clear hn0;obtain ⟨hc0,hf0,hl0⟩:=hb0.all;have hb1:=Blk.mk hn1;clear hn1;obtain ⟨hc1,hf1,hl1⟩:=hb1.all;(try clear hx0)
 rw [Ha.out]
 go_wp2_with fail
 refine upon_method (f:=207) (by kernel_rfl) (by kernel_rfl) ?_
 rw [Oper.upon_enter]
 go_at_call 207;refine (movInv_any p _).mono ?_;rintro e w1 ⟨rfl,hx0⟩;have hy:=Ext.trans (a:=w) EX hx0;clear hx;have hx:=hy;clear hy;have hn0:=BB hx0 (w.heap.size);have hn1:=BB hx0 (w.heap.size+1);(first | simp [↓heap_drew_at,↓heap_drewN_at,↓heap_alloc_at,↓heap_set_at,ne_two,ne_three,ne_two_left,ne_three_left,↓hb0.eq,hb0.lt,hb0.ne,↓hb1.eq,hb1.lt,hb1.ne] at hn0 hn1 | simp [↓heap_drew_at,↓heap_drewN_at,↓heap_alloc_at,↓heap_set_at,ne_two,ne_three,ne_two_left,ne_three_left] at hn0 hn1);(try clear hb0 hc0 hf0 hl0);(try clear hb1 hc1 hf1 hl1);have hb0:=Blk.mk hn0;clear hn0;obtain ⟨hc0,hf0,hl0⟩:=hb0.all;have hb1:=Blk.mk hn1;clear hn1;obtain ⟨hc1,hf1,hl1⟩:=hb1.all;(try clear hx0)
 rw [HI.out]
 go_wp2_with fail
 refine bodyPost_ret (v:=.tuple #[(q.inv.pv none 0 none 0).v,.int .i64 0]) ?_ rfl ?_
 ·simp only [results,Tryz.results51]
  go_simp
 ·exact ⟨_,rfl,Is.none _ _ q.inv Ho.out.1 Ho.out.2,EX⟩
set_option maxHeartbeats 4000000 in
set_option maxRecDepth 100000 in
theorem inv_ed (p:Pv) (q:Qp) (w:World) (hg:Glob w) {F:Nat→Prop} (h:Is w F p q) (b1:q.old.length≤1152921504606846976) (b2:q.new.length≤1152921504606846976) (b3:q.path.size≤1152921504606846976) (b4:q.to_.size≤1152921504606846976) (hc:q.check=0) (hK:q.kind=6∨q.kind=7∨q.kind=8):
 Calls Tryz.prog 51 #[p.v] w (GivesP q.inv (.int .i64 0) w):=by
 have hsm:=Qp.small hc
 have m1:q.old.length≤4194304:=by omega
 have m2:q.new.length≤4194304:=by omega
 clear hsm
 have H:=Lib.hid h
 have Hg:=Lib.hid hg
 obtain ⟨A1,c1,A2,c2,rfl,⟨s1,s2⟩,_⟩:=h
 have ha:(q.pv A1 c1 A2 c2).act=.iface 106 (q.pv A1 c1 A2 c2).v:=by rw [Pv.act,if_neg (by dsimp only;omega),if_neg (by dsimp only;omega),if_neg (by dsimp only;omega),if_pos hK]
 have hi:q.inv={ q with old:=q.new,new:=q.old,so:=q.sn,sn:=q.so,om:=q.nm,nm:=q.om }:=by rw [Qp.inv,if_neg (by omega),if_neg (by omega),if_neg (by omega),if_neg (by omega),if_neg (by omega)]
 have Ha:=Lib.hid ha
 have HI:=Lib.hid hi
 have Hc:=Lib.hid hc
 have S1:=Lib.hid s1
 have S2:=Lib.hid s2
 clear ha hi hg hc hK s1 s2
 go_enter Tryz.func51,Tryz.ntmps51
 have hx:=Ext.refl w
 go_wp2_with fail
 go_at_call 38;refine (check_q (q.pv A1 c1 A2 c2) q _ (Hg.out.ext EX) (H.out.ext EX) b1 b2 b3 b4).mono ?_;rintro e w1 ⟨rfl,hx0⟩;have hy:=Ext.trans (a:=w) EX hx0;clear hx;have hx:=hy;clear hy;have hn0:=BB hx0 (w.heap.size);have hn1:=BB hx0 (w.heap.size+1);(first | simp [↓heap_drew_at,↓heap_drewN_at,↓heap_alloc_at,↓heap_set_at,ne_two,ne_three,ne_two_left,ne_three_left,↓hb0.eq,hb0.lt,hb0.ne,↓hb1.eq,hb1.lt,hb1.ne] at hn0 hn1 | simp [↓heap_drew_at,↓heap_drewN_at,↓heap_alloc_at,↓heap_set_at,ne_two,ne_three,ne_two_left,ne_three_left] at hn0 hn1);(try clear hb0 hc0 hf0 hl0);(try clear hb1 hc1 hf1 hl1);have hb0:=Blk.mk hn0;clear hn0;obtain ⟨hc0,hf0,hl0⟩:=hb0.all;have hb1:=Blk.mk hn1;clear hn1;obtain ⟨hc1,hf1,hl1⟩:=hb1.all;(try clear hx0)
 rw [Hc.out]
 go_wp2_with fail
 go_at_call 40;refine (action_any (q.pv A1 c1 A2 c2) _).mono ?_;rintro e w1 ⟨rfl,hx0⟩;have hy:=Ext.trans (a:=w) EX hx0;clear hx;have hx:=hy;clear hy;have hn0:=BB hx0 (w.heap.size);have hn1:=BB hx0 (w.heap.size+1);(first | simp [↓heap_drew_at,↓heap_drewN_at,↓heap_alloc_at,↓heap_set_at,ne_two,ne_three,ne_two_left,ne_three_left,↓hb0.eq,hb0.lt,hb0.ne,↓hb1.eq,hb1.lt,hb1.ne] at hn0 hn1 | simp [↓heap_drew_at,↓heap_drewN_at,↓heap_alloc_at,↓heap_set_at,ne_two,ne_three,ne_two_left,ne_three_left] at hn0 hn1);(try clear hb0 hc0 hf0 hl0);(try clear hb1 hc1 hf1 hl1);have hb0:=Blk.mk hn0;clear hn0;obtain ⟨hc0,hf0,hl0⟩:=hb0.all;have hb1:=Blk.mk hn1;clear hn1;obtain ⟨hc1,hf1,hl1⟩:=hb1.all;(try clear hx0)
 rw [Ha.out]
 go_wp2_with fail
 refine upon_method (f:=230) (by kernel_rfl) (by kernel_rfl) ?_
 rw [Oper.upon_enter]
 refine (edInv_any (q.pv A1 c1 A2 c2) q.old q.new _ (S1.out.ext EX) (S2.out.ext EX) m1 m2).mono ?_
 rintro e w1 ⟨B1,d1,B2,d2,rfl,t1,t2,i1,i2,hx0⟩
 replace i1:Hi (w.heap.size+1+1) B1:=i1.le (by first | exact hl1 | omega)
 replace i2:Hi (w.heap.size+1+1) B2:=i2.le (by first | exact hl1 | omega)
 have hy:=Ext.trans (a:=w) EX hx0;clear hx;have hx:=hy;clear hy;have hn0:=BB hx0 (w.heap.size);have hn1:=BB hx0 (w.heap.size+1);(first | simp [↓heap_drew_at,↓heap_drewN_at,↓heap_alloc_at,↓heap_set_at,ne_two,ne_three,ne_two_left,ne_three_left,↓hb0.eq,hb0.lt,hb0.ne,↓hb1.eq,hb1.lt,hb1.ne] at hn0 hn1 | simp [↓heap_drew_at,↓heap_drewN_at,↓heap_alloc_at,↓heap_set_at,ne_two,ne_three,ne_two_left,ne_three_left] at hn0 hn1);(try clear hb0 hc0 hf0 hl0);(try clear hb1 hc1 hf1 hl1);have hb0:=Blk.mk hn0;clear hn0;obtain ⟨hc0,hf0,hl0⟩:=hb0.all;have hb1:=Blk.mk hn1;clear hn1;obtain ⟨hc1,hf1,hl1⟩:=hb1.all;(try clear hx0)
 have T1:=Lib.hid t1
 have T2:=Lib.hid t2
 clear t1 t2
 go_wp2_with fail
 refine bodyPost_ret (v:=.tuple #[(Pv.v ⟨q.kind,q.path,q.to_,q.ty,q.at_,B1,q.new.length,d1,B2,q.old.length,d2,q.off,q.sn,q.so,q.nm,q.om⟩),.int .i64 0]) ?_ rfl ?_
 ·simp only [results,Tryz.results51]
  go_simp
 ·refine ⟨_,rfl,?_,?_⟩
  ·rw [HI.out]
   refine ⟨B1,d1,B2,d2,rfl,⟨?_,?_⟩,(i1.le (by omega)).fp _,(i2.le (by omega)).fp _⟩
   ·repeat (first | with_reducible exact T1.out | with_reducible refine Sl.set ?_ i1 _)
   ·repeat (first | with_reducible exact T2.out | with_reducible refine Sl.set ?_ i2 _)
  ·exact EX
theorem Qp.kinds {q:Qp} (h:q.check=0):(q.kind=1∨q.kind=3)∨(q.kind=2∨q.kind=4)∨q.kind=5∨(q.kind=6∨q.kind=7∨q.kind=8):=by
 have:=Qp.small h
 omega
theorem inv_good (p:Pv) (q:Qp) (w:World) (hg:Glob w) {F:Nat→Prop} (h:Is w F p q) (b1:q.old.length≤1152921504606846976) (b2:q.new.length≤1152921504606846976) (b3:q.path.size≤1152921504606846976) (b4:q.to_.size≤1152921504606846976) (hc:q.check=0):
 Calls Tryz.prog 51 #[p.v] w (GivesP q.inv (.int .i64 0) w):=by
 rcases Qp.kinds hc with k | k | k | k
 ·exact inv_add p q w hg h b1 b2 b3 b4 hc k
 ·exact inv_rem p q w hg h b1 b2 b3 b4 hc k
 ·exact inv_mov p q w hg h b1 b2 b3 b4 hc k
 ·exact inv_ed p q w hg h b1 b2 b3 b4 hc k
set_option maxHeartbeats 4000000 in
set_option maxRecDepth 100000 in
theorem inverse_any (p:Pv) (q:Qp) (w:World) (hg:Glob w) {F:Nat→Prop} (h:Is w F p q) (b1:q.old.length≤1152921504606846976) (b2:q.new.length≤1152921504606846976) (b3:q.path.size≤1152921504606846976) (b4:q.to_.size≤1152921504606846976) (hc:q.check=0):
 Calls Tryz.prog 114 #[p.v] w (GivesOne q.inv w):=by
 have H:=Lib.hid h
 have Hg:=Lib.hid hg
 have Hc:=Lib.hid hc
 clear h hg hc
 go_enter Tryz.func114,Tryz.ntmps114
 have hx:=Ext.refl w
 go_wp2_with fail
 refine (inv_good p q _ (Hg.out.ext EX) (H.out.ext EX) b1 b2 b3 b4 Hc.out).mono ?_
 rintro e w1 ⟨p',rfl,t1,hx0⟩
 have T1:=Lib.hid t1
 clear t1
 have hy:=Ext.trans (a:=w) EX hx0;clear hx;have hx:=hy;clear hy;have hn0:=BB hx0 (w.heap.size);have hn1:=BB hx0 (w.heap.size+1);(first | simp [↓heap_drew_at,↓heap_drewN_at,↓heap_alloc_at,↓heap_set_at,ne_two,ne_three,ne_two_left,ne_three_left,↓hb0.eq,hb0.lt,hb0.ne,↓hb1.eq,hb1.lt,hb1.ne] at hn0 hn1 | simp [↓heap_drew_at,↓heap_drewN_at,↓heap_alloc_at,↓heap_set_at,ne_two,ne_three,ne_two_left,ne_three_left] at hn0 hn1);(try clear hb0 hc0 hf0 hl0);(try clear hb1 hc1 hf1 hl1);have hb0:=Blk.mk hn0;clear hn0;obtain ⟨hc0,hf0,hl0⟩:=hb0.all;have hb1:=Blk.mk hn1;clear hn1;obtain ⟨hc1,hf1,hl1⟩:=hb1.all;(try clear hx0)
 go_wp2_with fail
 refine bodyPost_ret (v:=p'.v) ?_ rfl ?_
 ·simp only [results,Tryz.results114]
  go_simp
 ·have T:Is w1 (fun b=>w.heap.size+1+1≤b) p' q.inv:=T1.out.mono (fun b hb=>by simpa using hb)
  have n1:¬ (w.heap.size+1+1≤w.heap.size+1):=by omega
  refine ⟨p',rfl,Is.mono (F:=fun b=>w.heap.size+1+1≤b) ?_ ?_,?_⟩
  ·repeat (first | with_reducible exact T | with_reducible refine Is.alloc ?_ _ | refine Is.put ?_ n1 _)
  ·intro b hb
   omega
  ·exact EX
end Go.Proofs.YtfmgnaigcibcaaaGreatDoor
