import Derived.Test.YtfmgnaigcibcaaaGreatDoorTJa
import Derived.Test.YtfmgnaigcibcaaaGreatDoorTQ0
set_option linter.unusedSimpArgs false
set_option linter.unusedVariables false
namespace Go.Proofs.YtfmgnaigcibcaaaGreatDoor
open Go Go.RowKit Go.Lib
set_option maxHeartbeats 4000000 in
set_option maxRecDepth 100000 in
theorem put_none (n c:Nat) (f:Pf) (w:World):
 Calls Tryz.prog 181 #[.slice none n c,f.v] w fun e w'=>∃ g c',e=.returned (.slice (some ⟨g,0,none⟩) (Tr.putIn f []).length c')∧w.heap.size≤g∧Hid (OwnT w' g (Tr.putIn f []))∧Ext w w':=by
 go_enter Tryz.func181,Tryz.ntmps181
 have hx:=Ext.refl w
 go_wp2_with fail
 refine (clone_nil n c _).mono ?_
 rintro e w1 ⟨rfl,hx0⟩
 have hB:Blk w1 w.heap.size 61 f.arr:=Blk.ext hx0 (Blk.new' rfl)
 have hX1:Ext w w1:=Ext.trans (a:=w) EX hx0
 clear hx hx0
 go_wp2_with fail
 refine (delete_nil _ _).mono ?_
 rintro e w2 ⟨rfl,hx0⟩
 have hB2:=Blk.ext hx0 hB
 have hX2:=hX1.trans hx0
 clear hB hX1 hx0
 obtain ⟨hc0,hf0,hl0⟩:=hB2.all
 go_wp2_with fail
 refine (search_nil f _).mono ?_
 rintro e w3 ⟨bb,rfl,hx0⟩
 have hB3:=Blk.ext hx0 hB2
 have hX3:=hX2.trans hx0
 clear hc0 hf0 hl0 hB2 hX2 hx0
 obtain ⟨hc0,hf0,hl0⟩:=hB3.all
 have hx:=Ext.refl w3
 go_wp2_with fail
 refine (insert_nil f _ _ (Blk.new' rfl)).mono ?_
 rintro e w4 ⟨g',c'',rfl,hgg,hO4,hx4⟩
 have hss:=hX3.size_le
 have hgg':w3.heap.size+1≤g':=by simpa using hgg
 go_wp2_with fail
 go_ret
 refine ⟨g',c'',rfl,by omega,Lib.hid hO4.out,(hX3.trans EX).trans hx4⟩
theorem put_any (A:Option Addr) (n c:Nat) (l:List Pf) (f:Pf) (w:World) (h:Trs w A l) (hn:l.length=n) (hb:n≤100000) (hs:Tr.Srt l):
 Calls Tryz.prog 181 #[.slice A n c,f.v] w fun e w'=>∃ g c',e=.returned (.slice (some ⟨g,0,none⟩) (Tr.putIn f l).length c')∧w.heap.size≤g∧Hid (OwnT w' g (Tr.putIn f l))∧Ext w w':=by
 cases A with
 | none=>
   obtain rfl:l=[]:=by
    cases l with
    | nil=>rfl
    | cons x l=>
      obtain ⟨_,_,e,_⟩:=h (by simp)
      cases e
   exact put_none n c f w
 | some a=>exact put_some a n c l f w h hn hb hs
set_option maxHeartbeats 16000000 in
set_option maxRecDepth 100000 in
theorem aapply_any (p:Pv) (A:Option Addr) (n c:Nat) (l:List Pf) (w:World) (h:Trs w A l) (hn:l.length=n) (hs:Tr.Srt l) (hb:n≤200) (hp:p.path.size≤1000000):
 Calls Tryz.prog 177 #[p.v,.slice A n c] w (GivesT (Tr.add l p.file) w):=by
 have HR:=Lib.hid (fun W (hW:Ext w W)=>room_any A n c p.path l W (h.ext hW) hn (by omega) hp)
 have HP:Hid (∀ (f:Pf) W,Ext w W→Calls Tryz.prog 181 #[.slice A n c,f.v] W fun e w'=>∃ g c',e=.returned (.slice (some ⟨g,0,none⟩) (Tr.putIn f l).length c')∧w.heap.size≤g∧Hid (OwnT w' g (Tr.putIn f l))∧Ext w w'):=
  Lib.hid (fun f W hW=>(put_any A n c l f W (h.ext hW) hn (by omega) hs).mono fun e w' ⟨g,c',e1,e2,e3,e4⟩=>⟨g,c',e1,Nat.le_trans hW.size_le e2,e3,hW.trans e4⟩)
 by_cases h2:Tr.room l p.path=0
 rotate_left
 ·have hv:Tr.add l p.file=([],Tr.room l p.path):=by unfold Tr.add;rw [show p.file.path=p.path from rfl,if_pos h2]
  rw [hv]
  have h2':(Tr.room l p.path != 0)=true:=by simpa using h2
  clear h2 hv h hn hs HP
  generalize Tr.room l p.path=r at h2' HR ⊢
  go_enter Tryz.func177,Tryz.ntmps177
  have hx:=Ext.refl w
  go_wp2_with (go_at_call 180;refine (HR.out _ EX).mono ?_;rintro e w1 ⟨rfl,hx0⟩;have hy:=Ext.trans (a:=w) EX hx0;clear hx;have hx:=hy;clear hy hx0)
  go_ret2
  exact GivesT.none EX
 ·rw [h2] at HR
  by_cases h3:200≤n
  ·have hv:Tr.add l p.file=([],4):=by unfold Tr.add;rw [show p.file.path=p.path from rfl,if_neg (by simpa using h2),if_pos (by omega)]
   rw [hv]
   clear h2 hv h hn hs HP
   go_enter Tryz.func177,Tryz.ntmps177
   have hx:=Ext.refl w
   go_wp2_with (go_at_call 180;refine (HR.out _ EX).mono ?_;rintro e w1 ⟨rfl,hx0⟩;have hy:=Ext.trans (a:=w) EX hx0;clear hx;have hx:=hy;clear hy hx0)
   go_ret2
   exact GivesT.none EX
  ·have hv:Tr.add l p.file=(Tr.putIn p.file l,0):=by unfold Tr.add;rw [show p.file.path=p.path from rfl,if_neg (by simpa using h2),if_neg (by omega)]
   rw [hv]
   have HP1:=Lib.hid (HP.out p.file)
   clear h2 hv h hn hs HP
   by_cases hk:p.kind=3
   ·have hk':(p.kind == 3)=true:=by simpa using hk
    have hf:p.file=⟨p.path,4,p.nm,p.sn⟩:=by unfold Pv.file;rw [if_pos hk]
    rw [hf] at HP1 ⊢
    clear hf hk
    go_enter Tryz.func177,Tryz.ntmps177
    have hx:=Ext.refl w
    go_wp2_with (first
     | (go_at_call 180;refine (HR.out _ EX).mono ?_;rintro e w1 ⟨rfl,hx0⟩;have hy:=Ext.trans (a:=w) EX hx0;clear hx;have hx:=hy;clear hy;have hn0:=BB hx0 (w.heap.size);(first | simp [↓heap_drew_at,↓heap_drewN_at,↓heap_alloc_at,↓heap_set_at,ne_two,ne_three,ne_two_left,ne_three_left,↓hb0.eq,hb0.lt,hb0.ne] at hn0 | simp [↓heap_drew_at,↓heap_drewN_at,↓heap_alloc_at,↓heap_set_at,ne_two,ne_three,ne_two_left,ne_three_left] at hn0);(try clear hb0 hc0 hf0 hl0);have hb0:=Blk.mk hn0;clear hn0;obtain ⟨hc0,hf0,hl0⟩:=hb0.all;(try clear hx0))
     | (go_at_call 181;refine (HP1.out _ EX).mono ?_;rintro e w2 ⟨g,c',rfl,hg,hO,hx0⟩))
    go_ret2
    exact ⟨_,_,_,rfl,rfl,Lib.hid ⟨hO.out.trs,fun a ha=>by cases ha;exact hg⟩,hx0⟩
   ·have hk':(p.kind == 3)=false:=by simpa using hk
    have hf:p.file=⟨p.path,p.ty,p.nm,p.sn⟩:=by unfold Pv.file;rw [if_neg hk]
    rw [hf] at HP1 ⊢
    clear hf hk
    go_enter Tryz.func177,Tryz.ntmps177
    have hx:=Ext.refl w
    go_wp2_with (first
     | (go_at_call 180;refine (HR.out _ EX).mono ?_;rintro e w1 ⟨rfl,hx0⟩;have hy:=Ext.trans (a:=w) EX hx0;clear hx;have hx:=hy;clear hy;have hn0:=BB hx0 (w.heap.size);(first | simp [↓heap_drew_at,↓heap_drewN_at,↓heap_alloc_at,↓heap_set_at,ne_two,ne_three,ne_two_left,ne_three_left,↓hb0.eq,hb0.lt,hb0.ne] at hn0 | simp [↓heap_drew_at,↓heap_drewN_at,↓heap_alloc_at,↓heap_set_at,ne_two,ne_three,ne_two_left,ne_three_left] at hn0);(try clear hb0 hc0 hf0 hl0);have hb0:=Blk.mk hn0;clear hn0;obtain ⟨hc0,hf0,hl0⟩:=hb0.all;(try clear hx0))
     | (go_at_call 181;refine (HP1.out _ EX).mono ?_;rintro e w2 ⟨g,c',rfl,hg,hO,hx0⟩))
    go_ret2
    exact ⟨_,_,_,rfl,rfl,Lib.hid ⟨hO.out.trs,fun a ha=>by cases ha;exact hg⟩,hx0⟩
end Go.Proofs.YtfmgnaigcibcaaaGreatDoor
namespace Go.Proofs.YtfmgnaigcibcaaaGreatDoor
open Go Go.RowKit Go.Lib
set_option maxHeartbeats 16000000 in
set_option maxRecDepth 100000 in
theorem emode_any (p:Pv) (A:Option Addr) (n c:Nat) (l:List Pf) (w:World) (h:Trs w A l) (hn:l.length=n) (hs:Tr.Srt l) (hb:n≤200) (k6:p.kind≠6) (k7:p.kind≠7):
 Calls Tryz.prog 228 #[p.v,.slice A n c] w (GivesT (Tr.edit l p.path p.chmod) w):=by
 have HF:=Lib.hid (fun W (hW:Ext w W)=>find_any A n c p.path l W (h.ext hW) hn (by omega))
 have HP:Hid (∀ (f:Pf) W,Ext w W→Calls Tryz.prog 181 #[.slice A n c,f.v] W fun e w'=>∃ g c',e=.returned (.slice (some ⟨g,0,none⟩) (Tr.putIn f l).length c')∧w.heap.size≤g∧Hid (OwnT w' g (Tr.putIn f l))∧Ext w w'):=
  Lib.hid (fun f W hW=>(put_any A n c l f W (h.ext hW) hn (by omega) hs).mono fun e w' ⟨g,c',e1,e2,e3,e4⟩=>⟨g,c',e1,Nat.le_trans hW.size_le e2,e3,hW.trans e4⟩)
 have k6':(p.kind == 6)=false:=by simpa using k6
 have k7':(p.kind == 7)=false:=by simpa using k7
 clear h hn hs hb k6 k7
 cases h1:Tr.find l p.path with
 | none=>
   have hv:Tr.edit l p.path p.chmod=([],7):=by unfold Tr.edit;rw [h1]
   rw [hv]
   have H1:=Lib.hid (found_none h1)
   clear h1 hv HP
   go_enter Tryz.func228,Tryz.ntmps228
   have hx:=Ext.refl w
   go_wp2_with (go_at_call 183;refine (HF.out _ EX).mono ?_;rintro e w1 ⟨rfl,hx0⟩;rw [H1.out];have hy:=Ext.trans (a:=w) EX hx0;clear hx;have hx:=hy;clear hy hx0)
   go_ret2
   exact GivesT.none EX
 | some f=>
   have H1:=Lib.hid (found_some h1)
   have hv:Tr.edit l p.path p.chmod=if (p.chmod f).2≠0 then ([],(p.chmod f).2) else (Tr.putIn (p.chmod f).1 l,0):=by unfold Tr.edit;rw [h1]
   rw [hv]
   clear h1 hv
   by_cases h4:f.ty=4
   ·have h4':(f.ty == 4)=true:=by simpa using h4
    have e1:(p.chmod f).2=8:=by unfold Pv.chmod;rw [if_pos h4]
    rw [if_pos (by rw [e1];decide),e1]
    clear h4 e1 HP
    go_enter Tryz.func228,Tryz.ntmps228
    have hx:=Ext.refl w
    go_wp2_with (go_at_call 183;refine (HF.out _ EX).mono ?_;rintro e w1 ⟨rfl,hx0⟩;rw [H1.out];have hy:=Ext.trans (a:=w) EX hx0;clear hx;have hx:=hy;clear hy;have hn0:=BB hx0 (w.heap.size);(first | simp [↓heap_drew_at,↓heap_drewN_at,↓heap_alloc_at,↓heap_set_at,ne_two,ne_three,ne_two_left,ne_three_left,↓hb0.eq,hb0.lt,hb0.ne] at hn0 | simp [↓heap_drew_at,↓heap_drewN_at,↓heap_alloc_at,↓heap_set_at,ne_two,ne_three,ne_two_left,ne_three_left] at hn0);(try clear hb0 hc0 hf0 hl0);have hb0:=Blk.mk hn0;clear hn0;obtain ⟨hc0,hf0,hl0⟩:=hb0.all;(try clear hx0))
    go_ret2
    exact GivesT.none EX
   ·have h4':(f.ty == 4)=false:=by simpa using h4
    by_cases h5:f.mode=p.om
    ·have h5':(f.mode != p.om)=false:=by simpa using h5
     have e1:(p.chmod f).2=0:=by unfold Pv.chmod;rw [if_neg h4,if_neg (by simpa using h5)]
     rw [if_neg (by rw [e1];decide)]
     have HP1:Hid (_):=Lib.hid (HP.out (p.chmod f).1)
     rw [show (p.chmod f).1=⟨f.path,f.ty,p.nm,f.data⟩ from rfl] at HP1 ⊢
     clear h4 h5 e1 HP
     go_enter Tryz.func228,Tryz.ntmps228
     have hx:=Ext.refl w
     go_wp2_with (first
      | (go_at_call 183;refine (HF.out _ EX).mono ?_;rintro e w1 ⟨rfl,hx0⟩;rw [H1.out];have hy:=Ext.trans (a:=w) EX hx0;clear hx;have hx:=hy;clear hy;have hn0:=BB hx0 (w.heap.size);(first | simp [↓heap_drew_at,↓heap_drewN_at,↓heap_alloc_at,↓heap_set_at,ne_two,ne_three,ne_two_left,ne_three_left,↓hb0.eq,hb0.lt,hb0.ne] at hn0 | simp [↓heap_drew_at,↓heap_drewN_at,↓heap_alloc_at,↓heap_set_at,ne_two,ne_three,ne_two_left,ne_three_left] at hn0);(try clear hb0 hc0 hf0 hl0);have hb0:=Blk.mk hn0;clear hn0;obtain ⟨hc0,hf0,hl0⟩:=hb0.all;(try clear hx0))
      | (go_at_call 181;refine (HP1.out _ EX).mono ?_;rintro e w2 ⟨g,c',rfl,hg,hO,hx0⟩))
     go_ret2
     exact ⟨_,_,_,rfl,rfl,Lib.hid ⟨hO.out.trs,fun a ha=>by cases ha;exact hg⟩,hx0⟩
    ·have h5':(f.mode != p.om)=true:=by simpa using h5
     have e1:(p.chmod f).2=15:=by unfold Pv.chmod;rw [if_neg h4,if_pos (by simpa using h5)]
     rw [if_pos (by rw [e1];decide),e1]
     clear h4 h5 e1 HP
     go_enter Tryz.func228,Tryz.ntmps228
     have hx:=Ext.refl w
     go_wp2_with (go_at_call 183;refine (HF.out _ EX).mono ?_;rintro e w1 ⟨rfl,hx0⟩;rw [H1.out];have hy:=Ext.trans (a:=w) EX hx0;clear hx;have hx:=hy;clear hy;have hn0:=BB hx0 (w.heap.size);(first | simp [↓heap_drew_at,↓heap_drewN_at,↓heap_alloc_at,↓heap_set_at,ne_two,ne_three,ne_two_left,ne_three_left,↓hb0.eq,hb0.lt,hb0.ne] at hn0 | simp [↓heap_drew_at,↓heap_drewN_at,↓heap_alloc_at,↓heap_set_at,ne_two,ne_three,ne_two_left,ne_three_left] at hn0);(try clear hb0 hc0 hf0 hl0);have hb0:=Blk.mk hn0;clear hn0;obtain ⟨hc0,hf0,hl0⟩:=hb0.all;(try clear hx0))
     go_ret2
     exact GivesT.none EX
end Go.Proofs.YtfmgnaigcibcaaaGreatDoor
namespace Go.Proofs.YtfmgnaigcibcaaaGreatDoor
open Go Go.RowKit Go.Lib
theorem splice_len {o:Nat} {d t:ByteArray} (ho:o≤d.size) (h:Lib.hasPrefix (d.extract o d.size).data.toList t.data.toList=true):o+t.size≤d.size:=by
 unfold Lib.hasPrefix at h
 have h1:=(List.isPrefixOf_iff_prefix.1 h).length_le
 simp only [Array.length_toList,ByteArray.size_data,ByteArray.size_extract] at h1
 omega
set_option maxHeartbeats 16000000 in
set_option maxRecDepth 100000 in
theorem ebytes_any (p:Pv) (f:Pf) (w:World) (o:Nat) (ho:p.off=(o:Int)) (hb:o≤1000000) (hd:f.data.size≤1000000) (hso:p.so.size≤1000000) (hsn:p.sn.size≤1000000):
 Calls Tryz.prog 232 #[p.v,f.v] w (Ret (.tuple #[.string (p.splice f).1,.int .i64 (p.splice f).2]) w):=by
 have hto:p.off.toNat=o:=by rw [ho];rfl
 by_cases h1:f.ty≠2∧f.ty≠3
 ·have hv:p.splice f=(⟨#[]⟩,8):=by unfold Pv.splice;rw [if_pos h1]
  rw [hv]
  have h2':(f.ty != 2)=true:=by simpa using h1.1
  have h3':(f.ty != 3)=true:=by simpa using h1.2
  clear h1 hv hto ho
  go_enter Tryz.func232,Tryz.ntmps232
  have hx:=Ext.refl w
  go_wp2
  go_ret2
  exact ⟨rfl,EX⟩
 ·have h1':¬ ((f.ty != 2)=true∧(f.ty != 3)=true):=by simpa using h1
  by_cases h4:f.data.size < o
  ·have hv:p.splice f=(⟨#[]⟩,2):=by unfold Pv.splice;rw [if_neg h1,hto,if_pos h4]
   rw [hv]
   clear h1 hv hto
   by_cases h2:f.ty=2
   ·have h2':(f.ty != 2)=false:=by simpa using h2
    clear h1' h2
    go_enter Tryz.func232,Tryz.ntmps232
    have hx:=Ext.refl w
    go_wp2
    go_ret2
    exact ⟨rfl,EX⟩
   ·have h2':(f.ty != 2)=true:=by simpa using h2
    have h3':(f.ty != 3)=false:=by simpa [h2'] using h1'
    clear h1' h2
    go_enter Tryz.func232,Tryz.ntmps232
    have hx:=Ext.refl w
    go_wp2
    go_ret2
    exact ⟨rfl,EX⟩
  ·have h4':¬ ((f.data.size:Int) < (o:Int)):=by omega
   have h6':(o:Int)≤(f.data.size:Int):=by omega
   have h7':o≤f.data.size:=by omega
   by_cases h2:f.ty=2
   ·have h2':(f.ty != 2)=false:=by simpa using h2
    clear h2
    cases h5:Lib.hasPrefix (f.data.extract o f.data.size).data.toList p.so.data.toList
    ·have hv:p.splice f=(⟨#[]⟩,15):=by unfold Pv.splice;rw [if_neg h1,hto,if_neg h4,if_pos h5]
     rw [hv]
     clear h1 hv hto h1'
     have HH:Hid (∀ W,Calls Tryz.prog 132 #[.string (f.data.extract o f.data.size),.string p.so] W (Ret (.bool false) W)):=Lib.hid (fun W=>(Tryz.strings_HasPrefix (f.data.extract o f.data.size) p.so W).mono (fun e w' h=>⟨by rw [h.1,h5],by rw [h.2];exact Ext.refl _⟩))
     have HC0:Hid (∀ W,Ext ((w.alloc (.cells ({ p with off:=(o:Int) }:Pv).box 106)).alloc (.cells f.arr 61)) W→∀ i,W.cell? ⟨w.heap.size,i,none⟩=({ p with off:=(o:Int) }:Pv).box[i]?):=Lib.hid (fun W hW=>(Blk.ext hW ((Blk.new' rfl).alloc _)).cell)
     have HC1:Hid (∀ W,Ext ((w.alloc (.cells ({ p with off:=(o:Int) }:Pv).box 106)).alloc (.cells f.arr 61)) W→∀ i,W.cell? ⟨w.heap.size+1,i,none⟩=f.arr[i]?):=Lib.hid (fun W hW=>(Blk.ext hW (Blk.new' (by simp))).cell)
     have HX:=Lib.hid (((Ext.refl w).alloc (.cells ({ p with off:=(o:Int) }:Pv).box 106)).alloc (.cells f.arr 61))
     clear h5
     go_enter Tryz.func232,Tryz.ntmps232
     have hx:=Ext.refl w
     go_wp2_with fail
     refine wp_region_ext (by kernel_rfl) (by kernel_rfl) ?_
     repeat (first | go_big_quiet_skip | (go_big_quiet_want;first | (go_big_quiet_op;go_big_quiet_on) | (apply quiet_at;intro W hW;have hc0:=HC0.out W hW;have hc1:=HC1.out W hW;go_simp;(first | exact rfl | (simp only [Oper.quietUpon,true_and];first | exact rfl | (go_at_call 132;exact quiet_call hW (HH.out _) (fun _ _ h=>Ret.bcell h))) | (go_at_call 132;exact quiet_call hW (HH.out _) (fun _ _ h=>Ret.bcell h)));go_big_quiet_on;simp only [Act.put,sA,s0,sS])))
     refine wpQuiet_nil ?_
     intro w2 hx0
     go_wp2_with fail
     go_ret2
     exact ⟨rfl,HX.out.trans hx0⟩
    ·have HPL:Hid (o+p.so.size≤f.data.size):=Lib.hid (splice_len (by omega) h5)
     have hv0:p.splice f=if 65536 < (f.data.extract 0 o ++ p.sn ++ f.data.extract (o+p.so.size) f.data.size).size then (⟨#[]⟩,4) else (f.data.extract 0 o ++ p.sn ++ f.data.extract (o+p.so.size) f.data.size,0):=by
      unfold Pv.splice
      rw [if_neg h1,hto,if_neg h4,if_neg (by rw [h5];decide)]
     rw [hv0]
     clear h1 hv0 hto h1'
     by_cases h9:65536 < (f.data.extract 0 o ++ p.sn ++ f.data.extract (o+p.so.size) f.data.size).size
     ·rw [if_pos h9]
      have H9:=Lib.hid h9
      clear h9
      have HH:Hid (∀ W,Calls Tryz.prog 132 #[.string (f.data.extract o f.data.size),.string p.so] W (Ret (.bool true) W)):=Lib.hid (fun W=>(Tryz.strings_HasPrefix (f.data.extract o f.data.size) p.so W).mono (fun e w' h=>⟨by rw [h.1,h5],by rw [h.2];exact Ext.refl _⟩))
      have HC0:Hid (∀ W,Ext ((w.alloc (.cells ({ p with off:=(o:Int) }:Pv).box 106)).alloc (.cells f.arr 61)) W→∀ i,W.cell? ⟨w.heap.size,i,none⟩=({ p with off:=(o:Int) }:Pv).box[i]?):=Lib.hid (fun W hW=>(Blk.ext hW ((Blk.new' rfl).alloc _)).cell)
      have HC1:Hid (∀ W,Ext ((w.alloc (.cells ({ p with off:=(o:Int) }:Pv).box 106)).alloc (.cells f.arr 61)) W→∀ i,W.cell? ⟨w.heap.size+1,i,none⟩=f.arr[i]?):=Lib.hid (fun W hW=>(Blk.ext hW (Blk.new' (by simp))).cell)
      have HX:=Lib.hid (((Ext.refl w).alloc (.cells ({ p with off:=(o:Int) }:Pv).box 106)).alloc (.cells f.arr 61))
      clear h5
      go_enter Tryz.func232,Tryz.ntmps232
      have hx:=Ext.refl w
      go_wp2_with fail
      refine wp_region_ext (by kernel_rfl) (by kernel_rfl) ?_
      repeat (first | go_big_quiet_skip | (go_big_quiet_want;first | (go_big_quiet_op;go_big_quiet_on) | (apply quiet_at;intro W hW;have hc0:=HC0.out W hW;have hc1:=HC1.out W hW;go_simp;(first | exact rfl | (simp only [Oper.quietUpon,true_and];first | exact rfl | (go_at_call 132;exact quiet_call hW (HH.out _) (fun _ _ h=>Ret.bcell h))) | (go_at_call 132;exact quiet_call hW (HH.out _) (fun _ _ h=>Ret.bcell h)));go_big_quiet_on;simp only [Act.put,sA,s0,sS])))
      refine wpQuiet_nil ?_
      intro w2 hx0
      have hpl:=HPL.out
      have hwr:IntKind.i64.wrap ((o:Int)+(p.so.size:Int))=(o:Int)+(p.so.size:Int):=by rw [IntKind.wrap_i64];omega
      have hnn:(0:Int)≤(o:Int)+(p.so.size:Int):=by omega
      have hle:(o:Int)+(p.so.size:Int)≤(f.data.size:Int):=by omega
      have htn:((o:Int)+(p.so.size:Int)).toNat=o+p.so.size:=by omega
      have hs1:¬ 9223372036854775807 < o+p.sn.size:=by omega
      have hs2:¬ 9223372036854775807 < o+p.sn.size+(f.data.size - (o+p.so.size)):=by omega
      have HC0':=Lib.hid (fun W (hW:Ext w2 W)=>HC0.out W (hx0.trans hW))
      have HC1':=Lib.hid (fun W (hW:Ext w2 W)=>HC1.out W (hx0.trans hW))
      clear HC0 HC1
      have HC0:=HC0'
      have HC1:=HC1'
      clear HC0' HC1'
      go_wp2_with fail
      refine wp_region_ext (by kernel_rfl) (by kernel_rfl) ?_
      repeat (first | go_big_quiet_skip | (go_big_quiet_want;first | (go_big_quiet_op;go_big_quiet_on) | (apply quiet_at;intro W hW;have hc0:=HC0.out W hW;have hc1:=HC1.out W hW;go_simp;(first | exact rfl | (simp only [Oper.quietUpon,true_and];first | exact rfl | (fail)) | (fail));go_big_quiet_on;simp only [Act.put,sA,s0,sS])))
      refine wpQuiet_nil ?_
      intro w3 hx3
      have HX3:=Lib.hid ((HX.out.trans hx0).trans hx3)
      clear HC0 HC1 hx0 hx3
      have h9:=H9.out
      clear H9
      generalize f.data.extract 0 o ++ p.sn ++ f.data.extract (o+p.so.size) f.data.size=r at *
      have h9':(65536:Int) < (r.size:Int):=by omega
      go_wp2_with fail
      go_ret2
      exact ⟨rfl,HX3.out⟩
     ·rw [if_neg h9]
      have H9:=Lib.hid h9
      clear h9
      have HH:Hid (∀ W,Calls Tryz.prog 132 #[.string (f.data.extract o f.data.size),.string p.so] W (Ret (.bool true) W)):=Lib.hid (fun W=>(Tryz.strings_HasPrefix (f.data.extract o f.data.size) p.so W).mono (fun e w' h=>⟨by rw [h.1,h5],by rw [h.2];exact Ext.refl _⟩))
      have HC0:Hid (∀ W,Ext ((w.alloc (.cells ({ p with off:=(o:Int) }:Pv).box 106)).alloc (.cells f.arr 61)) W→∀ i,W.cell? ⟨w.heap.size,i,none⟩=({ p with off:=(o:Int) }:Pv).box[i]?):=Lib.hid (fun W hW=>(Blk.ext hW ((Blk.new' rfl).alloc _)).cell)
      have HC1:Hid (∀ W,Ext ((w.alloc (.cells ({ p with off:=(o:Int) }:Pv).box 106)).alloc (.cells f.arr 61)) W→∀ i,W.cell? ⟨w.heap.size+1,i,none⟩=f.arr[i]?):=Lib.hid (fun W hW=>(Blk.ext hW (Blk.new' (by simp))).cell)
      have HX:=Lib.hid (((Ext.refl w).alloc (.cells ({ p with off:=(o:Int) }:Pv).box 106)).alloc (.cells f.arr 61))
      clear h5
      go_enter Tryz.func232,Tryz.ntmps232
      have hx:=Ext.refl w
      go_wp2_with fail
      refine wp_region_ext (by kernel_rfl) (by kernel_rfl) ?_
      repeat (first | go_big_quiet_skip | (go_big_quiet_want;first | (go_big_quiet_op;go_big_quiet_on) | (apply quiet_at;intro W hW;have hc0:=HC0.out W hW;have hc1:=HC1.out W hW;go_simp;(first | exact rfl | (simp only [Oper.quietUpon,true_and];first | exact rfl | (go_at_call 132;exact quiet_call hW (HH.out _) (fun _ _ h=>Ret.bcell h))) | (go_at_call 132;exact quiet_call hW (HH.out _) (fun _ _ h=>Ret.bcell h)));go_big_quiet_on;simp only [Act.put,sA,s0,sS])))
      refine wpQuiet_nil ?_
      intro w2 hx0
      have hpl:=HPL.out
      have hwr:IntKind.i64.wrap ((o:Int)+(p.so.size:Int))=(o:Int)+(p.so.size:Int):=by rw [IntKind.wrap_i64];omega
      have hnn:(0:Int)≤(o:Int)+(p.so.size:Int):=by omega
      have hle:(o:Int)+(p.so.size:Int)≤(f.data.size:Int):=by omega
      have htn:((o:Int)+(p.so.size:Int)).toNat=o+p.so.size:=by omega
      have hs1:¬ 9223372036854775807 < o+p.sn.size:=by omega
      have hs2:¬ 9223372036854775807 < o+p.sn.size+(f.data.size - (o+p.so.size)):=by omega
      have HC0':=Lib.hid (fun W (hW:Ext w2 W)=>HC0.out W (hx0.trans hW))
      have HC1':=Lib.hid (fun W (hW:Ext w2 W)=>HC1.out W (hx0.trans hW))
      clear HC0 HC1
      have HC0:=HC0'
      have HC1:=HC1'
      clear HC0' HC1'
      go_wp2_with fail
      refine wp_region_ext (by kernel_rfl) (by kernel_rfl) ?_
      repeat (first | go_big_quiet_skip | (go_big_quiet_want;first | (go_big_quiet_op;go_big_quiet_on) | (apply quiet_at;intro W hW;have hc0:=HC0.out W hW;have hc1:=HC1.out W hW;go_simp;(first | exact rfl | (simp only [Oper.quietUpon,true_and];first | exact rfl | (fail)) | (fail));go_big_quiet_on;simp only [Act.put,sA,s0,sS])))
      refine wpQuiet_nil ?_
      intro w3 hx3
      have HX3:=Lib.hid ((HX.out.trans hx0).trans hx3)
      clear HC0 HC1 hx0 hx3
      have h9:=H9.out
      clear H9
      generalize f.data.extract 0 o ++ p.sn ++ f.data.extract (o+p.so.size) f.data.size=r at *
      have h9':¬ (65536:Int) < (r.size:Int):=by omega
      go_wp2_with fail
      go_ret2
      exact ⟨rfl,HX3.out⟩
   ·have h2':(f.ty != 2)=true:=by simpa using h2
    have h3':(f.ty != 3)=false:=by simpa [h2'] using h1'
    clear h2
    cases h5:Lib.hasPrefix (f.data.extract o f.data.size).data.toList p.so.data.toList
    ·have hv:p.splice f=(⟨#[]⟩,15):=by unfold Pv.splice;rw [if_neg h1,hto,if_neg h4,if_pos h5]
     rw [hv]
     clear h1 hv hto h1'
     have HH:Hid (∀ W,Calls Tryz.prog 132 #[.string (f.data.extract o f.data.size),.string p.so] W (Ret (.bool false) W)):=Lib.hid (fun W=>(Tryz.strings_HasPrefix (f.data.extract o f.data.size) p.so W).mono (fun e w' h=>⟨by rw [h.1,h5],by rw [h.2];exact Ext.refl _⟩))
     have HC0:Hid (∀ W,Ext ((w.alloc (.cells ({ p with off:=(o:Int) }:Pv).box 106)).alloc (.cells f.arr 61)) W→∀ i,W.cell? ⟨w.heap.size,i,none⟩=({ p with off:=(o:Int) }:Pv).box[i]?):=Lib.hid (fun W hW=>(Blk.ext hW ((Blk.new' rfl).alloc _)).cell)
     have HC1:Hid (∀ W,Ext ((w.alloc (.cells ({ p with off:=(o:Int) }:Pv).box 106)).alloc (.cells f.arr 61)) W→∀ i,W.cell? ⟨w.heap.size+1,i,none⟩=f.arr[i]?):=Lib.hid (fun W hW=>(Blk.ext hW (Blk.new' (by simp))).cell)
     have HX:=Lib.hid (((Ext.refl w).alloc (.cells ({ p with off:=(o:Int) }:Pv).box 106)).alloc (.cells f.arr 61))
     clear h5
     go_enter Tryz.func232,Tryz.ntmps232
     have hx:=Ext.refl w
     go_wp2_with fail
     refine wp_region_ext (by kernel_rfl) (by kernel_rfl) ?_
     repeat (first | go_big_quiet_skip | (go_big_quiet_want;first | (go_big_quiet_op;go_big_quiet_on) | (apply quiet_at;intro W hW;have hc0:=HC0.out W hW;have hc1:=HC1.out W hW;go_simp;(first | exact rfl | (simp only [Oper.quietUpon,true_and];first | exact rfl | (go_at_call 132;exact quiet_call hW (HH.out _) (fun _ _ h=>Ret.bcell h))) | (go_at_call 132;exact quiet_call hW (HH.out _) (fun _ _ h=>Ret.bcell h)));go_big_quiet_on;simp only [Act.put,sA,s0,sS])))
     refine wpQuiet_nil ?_
     intro w2 hx0
     go_wp2_with fail
     go_ret2
     exact ⟨rfl,HX.out.trans hx0⟩
    ·have HPL:Hid (o+p.so.size≤f.data.size):=Lib.hid (splice_len (by omega) h5)
     have hv0:p.splice f=if 65536 < (f.data.extract 0 o ++ p.sn ++ f.data.extract (o+p.so.size) f.data.size).size then (⟨#[]⟩,4) else (f.data.extract 0 o ++ p.sn ++ f.data.extract (o+p.so.size) f.data.size,0):=by
      unfold Pv.splice
      rw [if_neg h1,hto,if_neg h4,if_neg (by rw [h5];decide)]
     rw [hv0]
     clear h1 hv0 hto h1'
     by_cases h9:65536 < (f.data.extract 0 o ++ p.sn ++ f.data.extract (o+p.so.size) f.data.size).size
     ·rw [if_pos h9]
      have H9:=Lib.hid h9
      clear h9
      have HH:Hid (∀ W,Calls Tryz.prog 132 #[.string (f.data.extract o f.data.size),.string p.so] W (Ret (.bool true) W)):=Lib.hid (fun W=>(Tryz.strings_HasPrefix (f.data.extract o f.data.size) p.so W).mono (fun e w' h=>⟨by rw [h.1,h5],by rw [h.2];exact Ext.refl _⟩))
      have HC0:Hid (∀ W,Ext ((w.alloc (.cells ({ p with off:=(o:Int) }:Pv).box 106)).alloc (.cells f.arr 61)) W→∀ i,W.cell? ⟨w.heap.size,i,none⟩=({ p with off:=(o:Int) }:Pv).box[i]?):=Lib.hid (fun W hW=>(Blk.ext hW ((Blk.new' rfl).alloc _)).cell)
      have HC1:Hid (∀ W,Ext ((w.alloc (.cells ({ p with off:=(o:Int) }:Pv).box 106)).alloc (.cells f.arr 61)) W→∀ i,W.cell? ⟨w.heap.size+1,i,none⟩=f.arr[i]?):=Lib.hid (fun W hW=>(Blk.ext hW (Blk.new' (by simp))).cell)
      have HX:=Lib.hid (((Ext.refl w).alloc (.cells ({ p with off:=(o:Int) }:Pv).box 106)).alloc (.cells f.arr 61))
      clear h5
      go_enter Tryz.func232,Tryz.ntmps232
      have hx:=Ext.refl w
      go_wp2_with fail
      refine wp_region_ext (by kernel_rfl) (by kernel_rfl) ?_
      repeat (first | go_big_quiet_skip | (go_big_quiet_want;first | (go_big_quiet_op;go_big_quiet_on) | (apply quiet_at;intro W hW;have hc0:=HC0.out W hW;have hc1:=HC1.out W hW;go_simp;(first | exact rfl | (simp only [Oper.quietUpon,true_and];first | exact rfl | (go_at_call 132;exact quiet_call hW (HH.out _) (fun _ _ h=>Ret.bcell h))) | (go_at_call 132;exact quiet_call hW (HH.out _) (fun _ _ h=>Ret.bcell h)));go_big_quiet_on;simp only [Act.put,sA,s0,sS])))
      refine wpQuiet_nil ?_
      intro w2 hx0
      have hpl:=HPL.out
      have hwr:IntKind.i64.wrap ((o:Int)+(p.so.size:Int))=(o:Int)+(p.so.size:Int):=by rw [IntKind.wrap_i64];omega
      have hnn:(0:Int)≤(o:Int)+(p.so.size:Int):=by omega
      have hle:(o:Int)+(p.so.size:Int)≤(f.data.size:Int):=by omega
      have htn:((o:Int)+(p.so.size:Int)).toNat=o+p.so.size:=by omega
      have hs1:¬ 9223372036854775807 < o+p.sn.size:=by omega
      have hs2:¬ 9223372036854775807 < o+p.sn.size+(f.data.size - (o+p.so.size)):=by omega
      have HC0':=Lib.hid (fun W (hW:Ext w2 W)=>HC0.out W (hx0.trans hW))
      have HC1':=Lib.hid (fun W (hW:Ext w2 W)=>HC1.out W (hx0.trans hW))
      clear HC0 HC1
      have HC0:=HC0'
      have HC1:=HC1'
      clear HC0' HC1'
      go_wp2_with fail
      refine wp_region_ext (by kernel_rfl) (by kernel_rfl) ?_
      repeat (first | go_big_quiet_skip | (go_big_quiet_want;first | (go_big_quiet_op;go_big_quiet_on) | (apply quiet_at;intro W hW;have hc0:=HC0.out W hW;have hc1:=HC1.out W hW;go_simp;(first | exact rfl | (simp only [Oper.quietUpon,true_and];first | exact rfl | (fail)) | (fail));go_big_quiet_on;simp only [Act.put,sA,s0,sS])))
      refine wpQuiet_nil ?_
      intro w3 hx3
      have HX3:=Lib.hid ((HX.out.trans hx0).trans hx3)
      clear HC0 HC1 hx0 hx3
      have h9:=H9.out
      clear H9
      generalize f.data.extract 0 o ++ p.sn ++ f.data.extract (o+p.so.size) f.data.size=r at *
      have h9':(65536:Int) < (r.size:Int):=by omega
      go_wp2_with fail
      go_ret2
      exact ⟨rfl,HX3.out⟩
     ·rw [if_neg h9]
      have H9:=Lib.hid h9
      clear h9
      have HH:Hid (∀ W,Calls Tryz.prog 132 #[.string (f.data.extract o f.data.size),.string p.so] W (Ret (.bool true) W)):=Lib.hid (fun W=>(Tryz.strings_HasPrefix (f.data.extract o f.data.size) p.so W).mono (fun e w' h=>⟨by rw [h.1,h5],by rw [h.2];exact Ext.refl _⟩))
      have HC0:Hid (∀ W,Ext ((w.alloc (.cells ({ p with off:=(o:Int) }:Pv).box 106)).alloc (.cells f.arr 61)) W→∀ i,W.cell? ⟨w.heap.size,i,none⟩=({ p with off:=(o:Int) }:Pv).box[i]?):=Lib.hid (fun W hW=>(Blk.ext hW ((Blk.new' rfl).alloc _)).cell)
      have HC1:Hid (∀ W,Ext ((w.alloc (.cells ({ p with off:=(o:Int) }:Pv).box 106)).alloc (.cells f.arr 61)) W→∀ i,W.cell? ⟨w.heap.size+1,i,none⟩=f.arr[i]?):=Lib.hid (fun W hW=>(Blk.ext hW (Blk.new' (by simp))).cell)
      have HX:=Lib.hid (((Ext.refl w).alloc (.cells ({ p with off:=(o:Int) }:Pv).box 106)).alloc (.cells f.arr 61))
      clear h5
      go_enter Tryz.func232,Tryz.ntmps232
      have hx:=Ext.refl w
      go_wp2_with fail
      refine wp_region_ext (by kernel_rfl) (by kernel_rfl) ?_
      repeat (first | go_big_quiet_skip | (go_big_quiet_want;first | (go_big_quiet_op;go_big_quiet_on) | (apply quiet_at;intro W hW;have hc0:=HC0.out W hW;have hc1:=HC1.out W hW;go_simp;(first | exact rfl | (simp only [Oper.quietUpon,true_and];first | exact rfl | (go_at_call 132;exact quiet_call hW (HH.out _) (fun _ _ h=>Ret.bcell h))) | (go_at_call 132;exact quiet_call hW (HH.out _) (fun _ _ h=>Ret.bcell h)));go_big_quiet_on;simp only [Act.put,sA,s0,sS])))
      refine wpQuiet_nil ?_
      intro w2 hx0
      have hpl:=HPL.out
      have hwr:IntKind.i64.wrap ((o:Int)+(p.so.size:Int))=(o:Int)+(p.so.size:Int):=by rw [IntKind.wrap_i64];omega
      have hnn:(0:Int)≤(o:Int)+(p.so.size:Int):=by omega
      have hle:(o:Int)+(p.so.size:Int)≤(f.data.size:Int):=by omega
      have htn:((o:Int)+(p.so.size:Int)).toNat=o+p.so.size:=by omega
      have hs1:¬ 9223372036854775807 < o+p.sn.size:=by omega
      have hs2:¬ 9223372036854775807 < o+p.sn.size+(f.data.size - (o+p.so.size)):=by omega
      have HC0':=Lib.hid (fun W (hW:Ext w2 W)=>HC0.out W (hx0.trans hW))
      have HC1':=Lib.hid (fun W (hW:Ext w2 W)=>HC1.out W (hx0.trans hW))
      clear HC0 HC1
      have HC0:=HC0'
      have HC1:=HC1'
      clear HC0' HC1'
      go_wp2_with fail
      refine wp_region_ext (by kernel_rfl) (by kernel_rfl) ?_
      repeat (first | go_big_quiet_skip | (go_big_quiet_want;first | (go_big_quiet_op;go_big_quiet_on) | (apply quiet_at;intro W hW;have hc0:=HC0.out W hW;have hc1:=HC1.out W hW;go_simp;(first | exact rfl | (simp only [Oper.quietUpon,true_and];first | exact rfl | (fail)) | (fail));go_big_quiet_on;simp only [Act.put,sA,s0,sS])))
      refine wpQuiet_nil ?_
      intro w3 hx3
      have HX3:=Lib.hid ((HX.out.trans hx0).trans hx3)
      clear HC0 HC1 hx0 hx3
      have h9:=H9.out
      clear H9
      generalize f.data.extract 0 o ++ p.sn ++ f.data.extract (o+p.so.size) f.data.size=r at *
      have h9':¬ (65536:Int) < (r.size:Int):=by omega
      go_wp2_with fail
      go_ret2
      exact ⟨rfl,HX3.out⟩
end Go.Proofs.YtfmgnaigcibcaaaGreatDoor
namespace Go.Proofs.YtfmgnaigcibcaaaGreatDoor
open Go Go.RowKit Go.Lib
set_option maxHeartbeats 16000000 in
set_option maxRecDepth 100000 in
theorem ebytes_apply (p:Pv) (A:Option Addr) (n c:Nat) (l:List Pf) (w:World) (h:Trs w A l) (hn:l.length=n) (hs:Tr.Srt l) (hb:n≤200) (k7:p.kind=7) (r:Pf→ByteArray × Int)
 (hr:∀ f∈l,∀ W,Ext w W→Calls Tryz.prog 232 #[p.v,f.v] W (Ret (.tuple #[.string (r f).1,.int .i64 (r f).2]) W)):
 Calls Tryz.prog 228 #[p.v,.slice A n c] w (GivesT (Tr.edit l p.path fun f=>({ f with data:=(r f).1 },(r f).2)) w):=by
 have HF:=Lib.hid (fun W (hW:Ext w W)=>find_any A n c p.path l W (h.ext hW) hn (by omega))
 have HP:Hid (∀ (f:Pf) W,Ext w W→Calls Tryz.prog 181 #[.slice A n c,f.v] W fun e w'=>∃ g c',e=.returned (.slice (some ⟨g,0,none⟩) (Tr.putIn f l).length c')∧w.heap.size≤g∧Hid (OwnT w' g (Tr.putIn f l))∧Ext w w'):=
  Lib.hid (fun f W hW=>(put_any A n c l f W (h.ext hW) hn (by omega) hs).mono fun e w' ⟨g,c',e1,e2,e3,e4⟩=>⟨g,c',e1,Nat.le_trans hW.size_le e2,e3,hW.trans e4⟩)
 have HR:=Lib.hid hr
 have k6':(p.kind == 6)=false:=by simp [k7]
 have k7':(p.kind == 7)=true:=by simp [k7]
 clear h hn hs hb k7 hr
 cases h1:Tr.find l p.path with
 | none=>
   have hv:(Tr.edit l p.path fun f=>({ f with data:=(r f).1 },(r f).2))=([],7):=by unfold Tr.edit;rw [h1]
   rw [hv]
   have H1:=Lib.hid (found_none h1)
   clear h1 hv HP HR
   go_enter Tryz.func228,Tryz.ntmps228
   have hx:=Ext.refl w
   go_wp2_with (go_at_call 183;refine (HF.out _ EX).mono ?_;rintro e w1 ⟨rfl,hx0⟩;rw [H1.out];have hy:=Ext.trans (a:=w) EX hx0;clear hx;have hx:=hy;clear hy hx0)
   go_ret2
   exact GivesT.none EX
 | some f=>
   have H1:=Lib.hid (found_some h1)
   have hv:(Tr.edit l p.path fun f=>({ f with data:=(r f).1 },(r f).2))=if (r f).2≠0 then ([],(r f).2) else (Tr.putIn { f with data:=(r f).1 } l,0):=by unfold Tr.edit;rw [h1]
   rw [hv]
   have HB:=Lib.hid (HR.out f (Tr.find_mem h1).1)
   have HP1:=Lib.hid (HP.out { f with data:=(r f).1 })
   clear h1 hv HR HP
   generalize r f=q at HB HP1 ⊢
   obtain ⟨d,k⟩:=q
   dsimp only at HB HP1 ⊢
   by_cases hk:k=0
   ·subst hk
    rw [if_neg (by decide)]
    go_enter Tryz.func228,Tryz.ntmps228
    have hx:=Ext.refl w
    go_wp2_with (first
     | (go_at_call 183;refine (HF.out _ EX).mono ?_;rintro e w1 ⟨rfl,hx0⟩;rw [H1.out];have hy:=Ext.trans (a:=w) EX hx0;clear hx;have hx:=hy;clear hy;have hn0:=BB hx0 (w.heap.size);(first | simp [↓heap_drew_at,↓heap_drewN_at,↓heap_alloc_at,↓heap_set_at,ne_two,ne_three,ne_two_left,ne_three_left,↓hb0.eq,hb0.lt,hb0.ne] at hn0 | simp [↓heap_drew_at,↓heap_drewN_at,↓heap_alloc_at,↓heap_set_at,ne_two,ne_three,ne_two_left,ne_three_left] at hn0);(try clear hb0 hc0 hf0 hl0);have hb0:=Blk.mk hn0;clear hn0;obtain ⟨hc0,hf0,hl0⟩:=hb0.all;(try clear hx0))
     | (go_at_call 232;refine (HB.out _ EX).mono ?_;rintro e w2 ⟨rfl,hx0⟩;have hf1:Blk w2 w1.heap.size 61 f.arr:=Blk.ext hx0 (Blk.new' rfl);have hy:=Ext.trans (a:=w) EX hx0;clear hx;have hx:=hy;clear hy hx0;obtain ⟨hcf,hff,hlf⟩:=hf1.all;clear hf1)
     | (go_at_call 181;refine (HP1.out _ EX).mono ?_;rintro e w3 ⟨g,c',rfl,hg,hO,hx0⟩))
    go_ret2
    exact ⟨_,_,_,rfl,rfl,Lib.hid ⟨hO.out.trs,fun a ha=>by cases ha;exact hg⟩,hx0⟩
   ·rw [if_pos hk]
    have hk':(k != 0)=true:=by simpa using hk
    clear hk HP1
    go_enter Tryz.func228,Tryz.ntmps228
    have hx:=Ext.refl w
    go_wp2_with (first
     | (go_at_call 183;refine (HF.out _ EX).mono ?_;rintro e w1 ⟨rfl,hx0⟩;rw [H1.out];have hy:=Ext.trans (a:=w) EX hx0;clear hx;have hx:=hy;clear hy;have hn0:=BB hx0 (w.heap.size);(first | simp [↓heap_drew_at,↓heap_drewN_at,↓heap_alloc_at,↓heap_set_at,ne_two,ne_three,ne_two_left,ne_three_left,↓hb0.eq,hb0.lt,hb0.ne] at hn0 | simp [↓heap_drew_at,↓heap_drewN_at,↓heap_alloc_at,↓heap_set_at,ne_two,ne_three,ne_two_left,ne_three_left] at hn0);(try clear hb0 hc0 hf0 hl0);have hb0:=Blk.mk hn0;clear hn0;obtain ⟨hc0,hf0,hl0⟩:=hb0.all;(try clear hx0))
     | (go_at_call 232;refine (HB.out _ EX).mono ?_;rintro e w2 ⟨rfl,hx0⟩;have hf1:Blk w2 w1.heap.size 61 f.arr:=Blk.ext hx0 (Blk.new' rfl);have hy:=Ext.trans (a:=w) EX hx0;clear hx;have hx:=hy;clear hy hx0;obtain ⟨hcf,hff,hlf⟩:=hf1.all;clear hf1))
    go_ret2
    exact GivesT.none EX
end Go.Proofs.YtfmgnaigcibcaaaGreatDoor
namespace Go.Proofs.YtfmgnaigcibcaaaGreatDoor
open Go Go.RowKit Go.Lib
set_option maxHeartbeats 16000000 in
set_option maxRecDepth 100000 in
theorem elines_apply (p:Pv) (A:Option Addr) (n c:Nat) (l:List Pf) (w:World) (h:Trs w A l) (hn:l.length=n) (hs:Tr.Srt l) (hb:n≤200) (k6:p.kind=6) (r:Pf→ByteArray × Int)
 (hr:∀ f∈l,∀ W,Ext w W→Calls Tryz.prog 231 #[p.v,f.v] W (Ret (.tuple #[.string (r f).1,.int .i64 (r f).2]) W)):
 Calls Tryz.prog 228 #[p.v,.slice A n c] w (GivesT (Tr.edit l p.path fun f=>({ f with data:=(r f).1 },(r f).2)) w):=by
 have HF:=Lib.hid (fun W (hW:Ext w W)=>find_any A n c p.path l W (h.ext hW) hn (by omega))
 have HP:Hid (∀ (f:Pf) W,Ext w W→Calls Tryz.prog 181 #[.slice A n c,f.v] W fun e w'=>∃ g c',e=.returned (.slice (some ⟨g,0,none⟩) (Tr.putIn f l).length c')∧w.heap.size≤g∧Hid (OwnT w' g (Tr.putIn f l))∧Ext w w'):=
  Lib.hid (fun f W hW=>(put_any A n c l f W (h.ext hW) hn (by omega) hs).mono fun e w' ⟨g,c',e1,e2,e3,e4⟩=>⟨g,c',e1,Nat.le_trans hW.size_le e2,e3,hW.trans e4⟩)
 have HR:=Lib.hid hr
 have k6':(p.kind == 6)=true:=by simp [k6]
 clear h hn hs hb k6 hr
 cases h1:Tr.find l p.path with
 | none=>
   have hv:(Tr.edit l p.path fun f=>({ f with data:=(r f).1 },(r f).2))=([],7):=by unfold Tr.edit;rw [h1]
   rw [hv]
   have H1:=Lib.hid (found_none h1)
   clear h1 hv HP HR
   go_enter Tryz.func228,Tryz.ntmps228
   have hx:=Ext.refl w
   go_wp2_with (go_at_call 183;refine (HF.out _ EX).mono ?_;rintro e w1 ⟨rfl,hx0⟩;rw [H1.out];have hy:=Ext.trans (a:=w) EX hx0;clear hx;have hx:=hy;clear hy hx0)
   go_ret2
   exact GivesT.none EX
 | some f=>
   have H1:=Lib.hid (found_some h1)
   have hv:(Tr.edit l p.path fun f=>({ f with data:=(r f).1 },(r f).2))=if (r f).2≠0 then ([],(r f).2) else (Tr.putIn { f with data:=(r f).1 } l,0):=by unfold Tr.edit;rw [h1]
   rw [hv]
   have HB:=Lib.hid (HR.out f (Tr.find_mem h1).1)
   have HP1:=Lib.hid (HP.out { f with data:=(r f).1 })
   clear h1 hv HR HP
   generalize r f=q at HB HP1 ⊢
   obtain ⟨d,k⟩:=q
   dsimp only at HB HP1 ⊢
   by_cases hk:k=0
   ·subst hk
    rw [if_neg (by decide)]
    go_enter Tryz.func228,Tryz.ntmps228
    have hx:=Ext.refl w
    go_wp2_with (first
     | (go_at_call 183;refine (HF.out _ EX).mono ?_;rintro e w1 ⟨rfl,hx0⟩;rw [H1.out];have hy:=Ext.trans (a:=w) EX hx0;clear hx;have hx:=hy;clear hy;have hn0:=BB hx0 (w.heap.size);(first | simp [↓heap_drew_at,↓heap_drewN_at,↓heap_alloc_at,↓heap_set_at,ne_two,ne_three,ne_two_left,ne_three_left,↓hb0.eq,hb0.lt,hb0.ne] at hn0 | simp [↓heap_drew_at,↓heap_drewN_at,↓heap_alloc_at,↓heap_set_at,ne_two,ne_three,ne_two_left,ne_three_left] at hn0);(try clear hb0 hc0 hf0 hl0);have hb0:=Blk.mk hn0;clear hn0;obtain ⟨hc0,hf0,hl0⟩:=hb0.all;(try clear hx0))
     | (go_at_call 231;refine (HB.out _ EX).mono ?_;rintro e w2 ⟨rfl,hx0⟩;have hf1:Blk w2 w1.heap.size 61 f.arr:=Blk.ext hx0 (Blk.new' rfl);have hy:=Ext.trans (a:=w) EX hx0;clear hx;have hx:=hy;clear hy hx0;obtain ⟨hcf,hff,hlf⟩:=hf1.all;clear hf1)
     | (go_at_call 181;refine (HP1.out _ EX).mono ?_;rintro e w3 ⟨g,c',rfl,hg,hO,hx0⟩))
    go_ret2
    exact ⟨_,_,_,rfl,rfl,Lib.hid ⟨hO.out.trs,fun a ha=>by cases ha;exact hg⟩,hx0⟩
   ·rw [if_pos hk]
    have hk':(k != 0)=true:=by simpa using hk
    clear hk HP1
    go_enter Tryz.func228,Tryz.ntmps228
    have hx:=Ext.refl w
    go_wp2_with (first
     | (go_at_call 183;refine (HF.out _ EX).mono ?_;rintro e w1 ⟨rfl,hx0⟩;rw [H1.out];have hy:=Ext.trans (a:=w) EX hx0;clear hx;have hx:=hy;clear hy;have hn0:=BB hx0 (w.heap.size);(first | simp [↓heap_drew_at,↓heap_drewN_at,↓heap_alloc_at,↓heap_set_at,ne_two,ne_three,ne_two_left,ne_three_left,↓hb0.eq,hb0.lt,hb0.ne] at hn0 | simp [↓heap_drew_at,↓heap_drewN_at,↓heap_alloc_at,↓heap_set_at,ne_two,ne_three,ne_two_left,ne_three_left] at hn0);(try clear hb0 hc0 hf0 hl0);have hb0:=Blk.mk hn0;clear hn0;obtain ⟨hc0,hf0,hl0⟩:=hb0.all;(try clear hx0))
     | (go_at_call 231;refine (HB.out _ EX).mono ?_;rintro e w2 ⟨rfl,hx0⟩;have hf1:Blk w2 w1.heap.size 61 f.arr:=Blk.ext hx0 (Blk.new' rfl);have hy:=Ext.trans (a:=w) EX hx0;clear hx;have hx:=hy;clear hy hx0;obtain ⟨hcf,hff,hlf⟩:=hf1.all;clear hf1))
    go_ret2
    exact GivesT.none EX
end Go.Proofs.YtfmgnaigcibcaaaGreatDoor
