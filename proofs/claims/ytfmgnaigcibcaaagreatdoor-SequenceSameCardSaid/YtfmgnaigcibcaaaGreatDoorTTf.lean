import Derived.Test.YtfmgnaigcibcaaaGreatDoorTTe
import Derived.Test.YtfmgnaigcibcaaaGreatDoorTQ2
set_option linter.unusedSimpArgs false
set_option linter.unusedVariables false
namespace Go.Proofs.YtfmgnaigcibcaaaGreatDoor
open Go Go.RowKit
abbrev Pv.box (p:Pv):Array Value:=
 #[.int .i64 p.kind,.string p.path,.string p.to_,.int .i64 p.ty,.int .i64 p.at_,.slice p.A1 p.n1 p.c1,.slice p.A2 p.n2 p.c2,.int .i64 p.off,.string p.so,.string p.sn,.int .i64 p.om,.int .i64 p.nm]
theorem fl_one {l:List Pf}:∀ u∈fl l,u.oneCell'=true:=by
 induction l with
 | nil=>intro u hu;cases hu
 | cons f l ih=>
   intro u hu
   rw [fl,List.mem_append] at hu
   rcases hu with hu | hu
   ·simp at hu
    rcases hu with rfl | rfl | rfl | rfl <;> rfl
   ·exact ih u hu
theorem tclone_any (b o n c:Nat) (l:List Pf) (w:World) (h:Trs w (some ⟨b,o,none⟩) l) (hn:l.length=n) (hb:n≤1000000):
 Calls Tryz.prog 185 #[.slice (some ⟨b,o,none⟩) n c] w fun e w'=>∃ g c',e=.returned (.slice (some ⟨g,0,none⟩) n c')∧w.heap.size≤g∧n≤c'∧OwnT w' g l∧Ext w w':=by
 obtain ⟨i0,hi0,hz0,hz1,hz2⟩:=info_parts (show (Tryz.prog.info? 61).map (fun i=>(i.zero,i.size,i.bytes))=some (some (.agg #[.string ⟨#[]⟩,.int .i64 0,.int .i64 0,.string ⟨#[]⟩]),4,48) by kernel_rfl)
 have hcells:∀ j u,(fl l)[j]?=some u→w.cell? ⟨b,o+j,none⟩=some u:=fun j u hu=>by
  have h0:0 < l.length:=by
   have:=(List.getElem?_eq_some_iff.1 hu).1
   rw [fl_length] at this
   omega
  obtain ⟨b',o',e,_,hr⟩:=h h0
  cases e
  exact hr j u hu
 have hcon:=AnyE.slices_Clone Tryz.laysClone i0 _ 4 48 hi0 hz0 hz1 hz2 rfl (by decide) Tryz.sizeOf61 b o n c (fl l) w (by rw [fl_length,hn]) (by unfold maxLen;omega) (by omega) hcells fl_one
 change Calls Tryz.prog 185 _ _ _ at hcon
 refine hcon.mono ?_
 rintro e w' ⟨v',rfl,⟨hl,hr⟩,hne,hx⟩
 rcases hr with ⟨rfl,_⟩ | ⟨g,cap,cur,rfl,hg,hb',hc1,hc2,hc3,hc4⟩
 ·exact (hne rfl).elim
 ·refine ⟨g,cap,rfl,hg,hc1,⟨cur.toList.drop (n * 4),?_⟩,hx⟩
  rw [← hc4,List.take_append_drop]
  exact hb'
namespace Tr
def mid (l:List Pf) (p q:ByteArray) (k:Nat):List Pf:=(l.map (shift p q)).take k ++ l.drop k
theorem mid_zero (l:List Pf) (p q:ByteArray):mid l p q 0=l:=rfl
theorem mid_all (l:List Pf) (p q:ByteArray):mid l p q l.length=l.map (shift p q):=by
 unfold mid
 rw [List.take_of_length_le (by simp),List.drop_length,List.append_nil]
theorem mid_at {l:List Pf} {p q:ByteArray} {k:Nat} {f:Pf} (h:l[k]?=some f):(mid l p q k)[k]?=some f:=by
 have hl:=(List.getElem?_eq_some_iff.1 h).1
 unfold mid
 rw [List.getElem?_append_right (by simp;omega)]
 simp only [List.length_take,List.length_map,Nat.min_eq_left (Nat.le_of_lt hl),Nat.sub_self]
 rw [List.getElem?_drop,Nat.add_zero,h]
theorem mid_next {l:List Pf} {p q:ByteArray} {k:Nat} {f:Pf} (h:l[k]?=some f):(mid l p q k).set k (shift p q f)=mid l p q (k+1):=by
 have hl:=(List.getElem?_eq_some_iff.1 h).1
 unfold mid
 rw [List.set_append_right _ _ (by simp;omega)]
 simp only [List.length_take,List.length_map,Nat.min_eq_left (Nat.le_of_lt hl),Nat.sub_self]
 rw [drop_at h,List.set_cons_zero,List.take_add_one,List.getElem?_map,h]
 simp
theorem mid_same {l:List Pf} {p q:ByteArray} {k:Nat} {f:Pf} (h:l[k]?=some f) (hs:shift p q f=f):mid l p q k=mid l p q (k+1):=by
 have hm:=mid_at (p:=p) (q:=q) h
 rw [← mid_next h,hs]
 refine List.ext_getElem? fun i=>?_
 rw [List.getElem?_set]
 split
 ·rename_i e
  subst e
  rw [hm,if_pos (List.getElem?_eq_some_iff.1 hm).1]
 ·rfl
theorem sorted_eq {l d:List Pf} (hl:Dst l) (hp:d.Perm l) (hs:d.Pairwise (fun a b=>lt b.path a.path=false)):d=sort l:=by
 have hd:Dst d:=(hp.pairwise_iff (R:=fun f g:Pf=>f.path≠g.path) (fun h=>Ne.symm h)).2 hl
 refine sort_eq hl ?_ (fun f=>hp.mem_iff)
 exact List.Pairwise.imp₂ (fun _ _ h1 h2=>lt_of h1 h2) hs hd
end Tr
set_option maxHeartbeats 16000000 in
set_option maxRecDepth 100000 in
theorem mapply_any (p:Pv) (A:Option Addr) (n c:Nat) (l:List Pf) (w:World) (h:Trs w A l) (hn:l.length=n) (hg:Tr.Good l) (hp:Qm.isPath p.path=true) (hq:Qm.isPath p.to_=true) (n1:¬ Pa.wi (Pa.L p.to_) (Pa.L p.path)) (n2:¬ Pa.wi (Pa.L p.path) (Pa.L p.to_)):
 Calls Tryz.prog 205 #[p.v,.slice A n c] w (GivesT (Tr.move l p.path p.to_) w):=by
 have hb:n≤200:=by rw [← hn];exact hg.len
 have sz:∀ s:ByteArray,Qm.isPath s=true→s.size≤200:=fun s hs=>by
  rw [isPath_pieces,Bool.and_eq_true] at hs
  exact of_decide_eq_true hs.1
 have s1:=sz _ hp
 have s2:=sz _ hq
 have HF:=Lib.hid (fun u W (hW:Ext w W)=>find_any A n c u l W (h.ext hW) hn (by omega))
 have HR:=Lib.hid (fun W (hW:Ext w W)=>room_any A n c p.to_ l W (h.ext hW) hn (by omega) (by omega))
 cases h1:Tr.find l p.path with
 | none=>
   have hv:Tr.move l p.path p.to_=([],7):=by unfold Tr.move;rw [h1];rfl
   rw [hv]
   have H1:=Lib.hid (found_none h1)
   clear h1 hv h hn hg hp hq n1 n2 sz
   go_enter Tryz.func205,Tryz.ntmps205
   have hx:=Ext.refl w
   go_wp2_with (go_at_call 183;refine (HF.out _ _ EX).mono ?_;rintro e w1 ⟨rfl,hx0⟩;rw [H1.out];have hy:=Ext.trans (a:=w) EX hx0;clear hx;have hx:=hy;clear hy hx0)
   go_ret2
   exact GivesT.none EX
 | some d=>
   have H1:=Lib.hid (found_some h1)
   by_cases h2:Tr.room l p.to_=0
   rotate_left
   ·have hv:Tr.move l p.path p.to_=([],Tr.room l p.to_):=by unfold Tr.move;rw [h1,if_neg (by simp),if_pos h2]
    rw [hv]
    have h2':(Tr.room l p.to_ != 0)=true:=by simpa using h2
    clear h1 h2 hv h hn hg hp hq n1 n2 sz
    generalize Tr.room l p.to_=r at h2' HR ⊢
    go_enter Tryz.func205,Tryz.ntmps205
    have hx:=Ext.refl w
    go_wp2_with (first
     | (go_at_call 183;refine (HF.out _ _ EX).mono ?_;rintro e w1 ⟨rfl,hx0⟩;rw [H1.out];have hy:=Ext.trans (a:=w) EX hx0;clear hx;have hx:=hy;clear hy;have hn0:=BB hx0 (w.heap.size);(first | simp [↓heap_drew_at,↓heap_drewN_at,↓heap_alloc_at,↓heap_set_at,ne_two,ne_three,ne_two_left,ne_three_left,↓hb0.eq,hb0.lt,hb0.ne] at hn0 | simp [↓heap_drew_at,↓heap_drewN_at,↓heap_alloc_at,↓heap_set_at,ne_two,ne_three,ne_two_left,ne_three_left] at hn0);(try clear hb0 hc0 hf0 hl0);have hb0:=Blk.mk hn0;clear hn0;obtain ⟨hc0,hf0,hl0⟩:=hb0.all;(try clear hx0))
     | (go_at_call 180;refine (HR.out _ EX).mono ?_;rintro e w1 ⟨rfl,hx0⟩;have hy:=Ext.trans (a:=w) EX hx0;clear hx;have hx:=hy;clear hy hx0))
    go_ret2
    exact GivesT.none EX
   ·have HM:Hid (((l.map (Tr.shift p.path p.to_)).any fun f=>decide (200 < f.path.size))=true→Tr.move l p.path p.to_=([],5)):=Lib.hid (fun k=>by
     unfold Tr.move
     rw [h1,if_neg (by simp),if_neg (by simpa using h2),if_pos k])
    have hD:(∀ f∈l,(Tr.shift p.path p.to_ f).path.size≤200)→Tr.Moves l p.path p.to_∧Tr.move l p.path p.to_=(Tr.sort (l.map (Tr.shift p.path p.to_)),0):=fun k=>by
     have hm:Tr.Moves l p.path p.to_:=⟨hg,hp,hq,n1,n2,⟨d,(Tr.find_mem h1).1,(Tr.find_mem h1).2⟩,((Tr.room_zero hg.srt).1 h2).1,((Tr.room_zero hg.srt).1 h2).2,k⟩
     exact ⟨hm,hm.move⟩
    have HD:=Lib.hid hD
    have hpos:0 < l.length:=List.length_pos_of_mem (Tr.find_mem h1).1
    obtain ⟨b,o,rfl,hbl,_⟩:=h hpos
    have HC:=Lib.hid (fun W (hW:Ext w W)=>tclone_any b o n c l W (h.ext hW) hn (by omega))
    have HR0:Hid (∀ W,Ext w W→Calls Tryz.prog 180 #[.slice (some ⟨b,o,none⟩) n c,.string p.to_] W (Ret (.int .i64 0) W)):=Lib.hid (fun W hW=>by
     have:=HR.out W hW
     rwa [h2] at this)
    have HZ:Hid (∀ f∈l,f.path.size≤200):=Lib.hid (fun f hf=>sz _ (Tr.element_path (hg.el f hf)))
    have HN:=Lib.hid hn
    clear h1 h2 hD h hn hg hp hq n1 n2 sz HR hpos hbl
    go_enter Tryz.func205,Tryz.ntmps205
    have hx:=Ext.refl w
    go_wp2_with (first
     | (go_at_call 183;refine (HF.out _ _ EX).mono ?_;rintro e w1 ⟨rfl,hx0⟩;rw [H1.out];have hy:=Ext.trans (a:=w) EX hx0;clear hx;have hx:=hy;clear hy;have hn0:=BB hx0 (w.heap.size);(first | simp [↓heap_drew_at,↓heap_drewN_at,↓heap_alloc_at,↓heap_set_at,ne_two,ne_three,ne_two_left,ne_three_left,↓hb0.eq,hb0.lt,hb0.ne] at hn0 | simp [↓heap_drew_at,↓heap_drewN_at,↓heap_alloc_at,↓heap_set_at,ne_two,ne_three,ne_two_left,ne_three_left] at hn0);(try clear hb0 hc0 hf0 hl0);have hb0:=Blk.mk hn0;clear hn0;obtain ⟨hc0,hf0,hl0⟩:=hb0.all;(try clear hx0))
     | (go_at_call 180;refine (HR0.out _ EX).mono ?_;rintro e w2 ⟨rfl,hx0⟩;have hy:=Ext.trans (a:=w) EX hx0;clear hx;have hx:=hy;clear hy;have hn0:=BB hx0 (w.heap.size);(first | simp [↓heap_drew_at,↓heap_drewN_at,↓heap_alloc_at,↓heap_set_at,ne_two,ne_three,ne_two_left,ne_three_left,↓hb0.eq,hb0.lt,hb0.ne] at hn0 | simp [↓heap_drew_at,↓heap_drewN_at,↓heap_alloc_at,↓heap_set_at,ne_two,ne_three,ne_two_left,ne_three_left] at hn0);(try clear hb0 hc0 hf0 hl0);have hb0:=Blk.mk hn0;clear hn0;obtain ⟨hc0,hf0,hl0⟩:=hb0.all;(try clear hx0))
     | (go_at_call 185;refine (HC.out _ EX).mono ?_;rintro e w3 ⟨g,c',rfl,hgw,hcc',hO,hx0⟩;have hg0:=Nat.lt_of_lt_of_le hl0 hgw;have HO:=Lib.hid hO;clear hO hgw;have hy:=Ext.trans (a:=w) EX hx0;clear hx;have hx:=hy;clear hy;have hn0:=BB hx0 (w.heap.size);(first | simp [↓heap_drew_at,↓heap_drewN_at,↓heap_alloc_at,↓heap_set_at,ne_two,ne_three,ne_two_left,ne_three_left,↓hb0.eq,hb0.lt,hb0.ne] at hn0 | simp [↓heap_drew_at,↓heap_drewN_at,↓heap_alloc_at,↓heap_set_at,ne_two,ne_three,ne_two_left,ne_three_left] at hn0);(try clear hb0 hc0 hf0 hl0);have hb0:=Blk.mk hn0;clear hn0;obtain ⟨hc0,hf0,hl0⟩:=hb0.all;(try clear hx0)))
    have HX0:=Lib.hid hx
    have HB0:=Lib.hid hb0
    clear hx hb0 hc0 hf0 hl0
    go_loopw [36] (fun i wr=>∃ k:Nat,k≤n∧i=.int .i64 k∧Hid (OwnT wr g (Tr.mid l p.path p.to_ k))∧Hid (Ext w wr)∧Hid (Blk wr w.heap.size 105 p.box)∧Hid (∀ (j:Nat) (f:Pf),j < k→l[j]?=some f→(Tr.shift p.path p.to_ f).path.size≤200)) (fun i wr=>n - (intOf i).toNat)
    case atStart=>exact ⟨0,Nat.zero_le _,rfl,HO,HX0,HB0,Lib.hid (fun j f hj=>absurd hj (Nat.not_lt_zero j))⟩
    case round=>
     clear HO HX0 HB0
     obtain ⟨k,hk,rfl,HO,HX,HB,HS⟩:=hrel
     have hx:=HX.out
     by_cases hlt:k < n
     ·have hkl:k < l.length:=by rw [HN.out];exact hlt
      have hf:l[k]?=some (l[k]'hkl):=List.getElem?_eq_getElem hkl
      have s3:=HZ.out _ (List.getElem_mem hkl)
      generalize l[k]'hkl=f at hf s3
      obtain ⟨c0,c1,c2,c3⟩:=HO.out.cells (Tr.mid_at (p:=p.path) (q:=p.to_) hf)
      have hfz:=HO.out.free
      have hgl:=HO.out.lt
      have hb0:=HB.out
      obtain ⟨hc0,hf0,hl0⟩:=hb0.all
      have HFl:=Lib.hid hf
      clear hf hkl hb0
      cases e1:Qm.eqB f.path p.path
      ·cases e2:Qm.below f.path p.path
       ·have e1':(f.path.toList == p.path.toList)=false:=e1
        have hsh:Tr.shift p.path p.to_ f=f:=by unfold Tr.shift;rw [e1,e2];rfl
        have HO2:Hid (OwnT wr g (Tr.mid l p.path p.to_ (k+1))):=Lib.hid (by rw [← Tr.mid_same HFl.out hsh];exact HO.out)
        have HS2:Hid (∀ (j:Nat) (f:Pf),j < k+1→l[j]?=some f→(Tr.shift p.path p.to_ f).path.size≤200):=Lib.hid (fun j f' hj hf'=>by
         rcases Nat.lt_succ_iff_lt_or_eq.1 hj with h | rfl
         ·exact HS.out j f' h hf'
         ·rw [HFl.out] at hf'
          obtain rfl:=Option.some.inj hf'
          rw [hsh]
          exact s3)
        have E2:=Lib.hid e2
        clear e1 e2 hsh
        go_wp2_with (go_at_call 203;refine (pbelow_any f.path p.path _ (by omega)).mono ?_;rintro e w1 ⟨rfl,hx0⟩;rw [E2.out];have HX1:=Lib.hid (((Ext.refl wr).alloc _).trans hx0);have hy:=Ext.trans (a:=w) EX hx0;clear hx;have hx:=hy;clear hy;obtain ⟨hcc,hff⟩:=bcell hx0;have hzz:=hx0.size_le;(try simp only [World.size_alloc] at hzz);have hzl:=Nat.lt_of_succ_le hzz;clear hx0)
        go_roundw
        case rel=>exact ⟨k+1,by omega,rfl,Lib.hid (HO2.out.ext HX1.out),Lib.hid hx,Lib.hid (HB.out.ext HX1.out),HS2⟩
        case measure=>simp [intOf];omega
       ·have e1':(f.path.toList == p.path.toList)=false:=e1
        have e3:p.path.size≤f.path.size:=Nat.le_of_lt (Qm.size_of_below e2)
        have hsh:Tr.shift p.path p.to_ f={ f with path:=p.to_ ++ f.path.extract p.path.size f.path.size }:=by unfold Tr.shift;rw [e1,e2];rfl
        have HBig:Hid (200 < (p.to_ ++ f.path.extract p.path.size f.path.size).size→Tr.move l p.path p.to_=([],5)):=Lib.hid (fun hz=>HM.out (by
         rw [List.any_eq_true]
         exact ⟨_,List.mem_map_of_mem (List.mem_of_getElem? HFl.out),by rw [hsh];simpa using hz⟩))
        have HSm:Hid ((p.to_ ++ f.path.extract p.path.size f.path.size).size≤200→∀ (j:Nat) (f:Pf),j < k+1→l[j]?=some f→(Tr.shift p.path p.to_ f).path.size≤200):=Lib.hid (fun hz j f' hj hf'=>by
         rcases Nat.lt_succ_iff_lt_or_eq.1 hj with h | rfl
         ·exact HS.out j f' h hf'
         ·rw [HFl.out] at hf'
          obtain rfl:=Option.some.inj hf'
          rw [hsh]
          exact hz)
        have HO3:Hid (∀ W,Ext wr W→OwnT (W.setCell ⟨g,k * 4,none⟩ (.string (p.to_ ++ f.path.extract p.path.size f.path.size))) g (Tr.mid l p.path p.to_ (k+1))):=Lib.hid (fun W hW=>by
         have:=(HO.out.ext hW).store (Tr.mid_at (p:=p.path) (q:=p.to_) HFl.out) (p.to_ ++ f.path.extract p.path.size f.path.size)
         rwa [← hsh,Tr.mid_next HFl.out] at this)
        have HB3:Hid (∀ W,Ext wr W→Blk (W.setCell ⟨g,k * 4,none⟩ (.string (p.to_ ++ f.path.extract p.path.size f.path.size))) w.heap.size 105 p.box):=Lib.hid (fun W hW=>(HB.out.ext hW).far (p:=⟨g,k * 4,none⟩) (by dsimp only;omega) _)
        have E2:=Lib.hid e2
        clear e1 e2 hsh
        go_wp2_with (go_at_call 203;refine (pbelow_any f.path p.path _ (by omega)).mono ?_;rintro e w1 ⟨rfl,hx0⟩;rw [E2.out];have HX1:=Lib.hid (((Ext.refl wr).alloc _).trans hx0);have hy:=Ext.trans (a:=w) EX hx0;clear hx;have hx:=hy;clear hy;obtain ⟨hcc,hff⟩:=bcell hx0;have hzz:=hx0.size_le;(try simp only [World.size_alloc] at hzz);have hzl:=Nat.lt_of_succ_le hzz;have hgl1:=Nat.lt_trans hgl hzl;obtain ⟨d0,_,_,_⟩:=(HO.out.ext HX1.out).cells (Tr.mid_at (p:=p.path) (q:=p.to_) HFl.out);have hfz1:=(HO.out.ext HX1.out).free;clear hx0)
        go_region
        go_wp2
        ·go_ret2
         rw [HBig.out (by first | omega | (simp only [ByteArray.size_append,ByteArray.size_extract] at *;omega))]
         exact GivesT.none EX
        ·refine ⟨⟨k+1,by omega,rfl,Lib.hid ((HO3.out _ HX1.out).ext EX),Lib.hid EX,Lib.hid ((HB3.out _ HX1.out).ext EX),HSm.out (by first | omega | (simp only [ByteArray.size_append,ByteArray.size_extract] at *;omega))⟩,by simp [intOf];omega⟩
      ·have e1':(f.path.toList == p.path.toList)=true:=e1
       have e3:p.path.size≤f.path.size:=by rw [Qm.eqB_iff.1 e1];exact Nat.le_refl _
       have hsh:Tr.shift p.path p.to_ f={ f with path:=p.to_ ++ f.path.extract p.path.size f.path.size }:=by unfold Tr.shift;rw [e1];rfl
       have HBig:Hid (200 < (p.to_ ++ f.path.extract p.path.size f.path.size).size→Tr.move l p.path p.to_=([],5)):=Lib.hid (fun hz=>HM.out (by
        rw [List.any_eq_true]
        exact ⟨_,List.mem_map_of_mem (List.mem_of_getElem? HFl.out),by rw [hsh];simpa using hz⟩))
       have HSm:Hid ((p.to_ ++ f.path.extract p.path.size f.path.size).size≤200→∀ (j:Nat) (f:Pf),j < k+1→l[j]?=some f→(Tr.shift p.path p.to_ f).path.size≤200):=Lib.hid (fun hz j f' hj hf'=>by
        rcases Nat.lt_succ_iff_lt_or_eq.1 hj with h | rfl
        ·exact HS.out j f' h hf'
        ·rw [HFl.out] at hf'
         obtain rfl:=Option.some.inj hf'
         rw [hsh]
         exact hz)
       have HO3:Hid (∀ W,Ext wr W→OwnT (W.setCell ⟨g,k * 4,none⟩ (.string (p.to_ ++ f.path.extract p.path.size f.path.size))) g (Tr.mid l p.path p.to_ (k+1))):=Lib.hid (fun W hW=>by
        have:=(HO.out.ext hW).store (Tr.mid_at (p:=p.path) (q:=p.to_) HFl.out) (p.to_ ++ f.path.extract p.path.size f.path.size)
        rwa [← hsh,Tr.mid_next HFl.out] at this)
       have HB3:Hid (∀ W,Ext wr W→Blk (W.setCell ⟨g,k * 4,none⟩ (.string (p.to_ ++ f.path.extract p.path.size f.path.size))) w.heap.size 105 p.box):=Lib.hid (fun W hW=>(HB.out.ext hW).far (p:=⟨g,k * 4,none⟩) (by dsimp only;omega) _)
       clear e1 hsh
       go_wp2
       go_region
       go_wp2
       ·go_ret2
        rw [HBig.out (by first | omega | (simp only [ByteArray.size_append,ByteArray.size_extract] at *;omega))]
        exact GivesT.none EX
       ·refine ⟨⟨k+1,by omega,rfl,Lib.hid ((HO3.out _ (Ext.refl _)).ext EX),Lib.hid EX,Lib.hid ((HB3.out _ (Ext.refl _)).ext EX),HSm.out (by first | omega | (simp only [ByteArray.size_append,ByteArray.size_extract] at *;omega))⟩,by simp [intOf];omega⟩
     ·have hkn:k=n:=by omega
      subst hkn
      have hO:OwnT wr g (l.map (Tr.shift p.path p.to_)):=by
       have:=HO.out
       rwa [← HN.out,Tr.mid_all] at this
      obtain ⟨hM,hv⟩:=HD.out (fun f hf=>by
       obtain ⟨j,hj,e⟩:=List.mem_iff_getElem.1 hf
       exact HS.out j f (by rw [← HN.out];exact hj) (by rw [List.getElem?_eq_getElem hj,e]))
      have HV:=Lib.hid hv
      have hS:=sortfunc_any g c' (l.map (Tr.shift p.path p.to_)) wr hO.holds hO.lt (by rw [List.length_map,HN.out];omega)
      rw [List.length_map,HN.out] at hS
      have hgl:=hO.lt
      have HM2:=Lib.hid hM
      clear hO hM hv
      go_wp2_with (go_at_call 208;refine hS.mono ?_;rintro e w4 ⟨rfl,dd,h1,h2,h3,h4⟩)
      go_ret2
      have hdd:=Tr.sorted_eq HM2.out.dst h1 h2
      subst hdd
      rw [HV.out]
      exact ⟨_,_,_,rfl,by rw [Tr.sort_length HM2.out.dst,List.length_map,HN.out],Lib.hid ⟨trs_of_holds h3 (Nat.lt_of_lt_of_le hgl h4.size),fun a ha=>by cases ha;exact Nat.le_of_lt hg0⟩,Below.grown hx h4 hx.size_le (fun j e=>by cases e;exact Nat.le_of_lt hg0)⟩
end Go.Proofs.YtfmgnaigcibcaaaGreatDoor
