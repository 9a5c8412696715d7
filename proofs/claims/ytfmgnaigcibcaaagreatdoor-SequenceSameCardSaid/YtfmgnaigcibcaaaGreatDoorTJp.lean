import Derived.Test.YtfmgnaigcibcaaaGreatDoorTJn
import Derived.Test.YtfmgnaigcibcaaaGreatDoorTJo
import Derived.Test.YtfmgnaigcibcaaaGreatDoorTQc
import Derived.Deep.RegionLaw
import Derived.Test.YtfmgnaigcibcaaaGreatDoorTQb
import Derived.Lib.AppendZerosOnto
import Derived.OwnWalk
set_option linter.unusedSimpArgs false
set_option linter.unusedVariables false
namespace Go.Proofs.YtfmgnaigcibcaaaGreatDoor
open Go Go.RowKit
attribute [local go_sem ↓] Go.wp_at_zero Go.wp_at_succ
theorem range_ext {w w':World} {b o:Nat} {cs:List Value} (h:w.rangeAt b o cs) (hb:b < w.heap.size) (hx:Ext w w'):w'.rangeAt b o cs:=fun j v hv=>by rw [hx.cell (p:=⟨b,_,none⟩) hb];exact h j v hv
set_option maxHeartbeats 8000000 in
set_option maxRecDepth 100000 in
theorem samelist_true (A B:Option Addr) (n c d:Nat) (l:List Qp) (w:World) {F G:Nat→Prop} (h1:Qs w F A l) (h2:Qs w G B l) (hn:l.length=n) (hb:n≤1000000000000) (hf:∀ q∈l,q.Fits):
 Calls Tryz.prog 23 #[.slice A n c,.slice B n d] w (Ret (.bool true) w):=by
 have H1:=Lib.hid h1
 have H2:=Lib.hid h2
 have HF:=Lib.hid hf
 have HN:=Lib.hid hn
 clear h1 h2 hf hn
 go_enter Tryz.func23,Tryz.ntmps23
 have hx:=Ext.refl w
 go_wp2_with fail
 go_loopw [5] (fun u wr=>∃ k:Nat,k≤n∧u=.int .i64 k∧Ext w wr) (fun u wr=>n - (intOf u).toNat)
 case atStart=>exact ⟨0,Nat.zero_le _,rfl,hx⟩
 case round=>
  clear hx
  obtain ⟨k,hk,rfl,hx⟩:=hrel
  by_cases hlt:k < n
  ·have hkl:k < l.length:=by rw [HN.out];exact hlt
   have e1:l[k]?=some (l[k]'hkl):=List.getElem?_eq_getElem hkl
   obtain ⟨b,o,p,rfl,hbl,hc,hi⟩:=(H1.out.ext hx).get e1
   obtain ⟨b2,o2,p2,rfl,hbl2,hc2,hi2⟩:=(H2.out.ext hx).get e1
   have ms:=HF.out _ (List.mem_of_getElem? e1)
   generalize l[k]'hkl=q at hi hi2 ms
   have HC:=Lib.hid (fun W (hW:Ext wr W)=>range_ext hc hbl hW)
   have HC2:=Lib.hid (fun W (hW:Ext wr W)=>range_ext hc2 hbl2 hW)
   have HS:=Lib.hid (fun W (hW:Ext wr W)=>psame_true p p2 q W (hi.ext hW) (hi2.ext hW) ms.1 ms.2.1)
   clear hc hc2 hi hi2 ms e1 hbl hbl2 hkl
   go_upto_region 6 with fail
   go_cut [26] (fun u26 wx=>u26=.bool false∧Ext wr wx)
   case first=>
    refine wp_region_noPanic (wp_region_held_drew (S:=fun w'=>Ext wr w') (by kernel_rfl) (Ext.refl wr).drew1 (fun hv=>?_))
    generalize wr.drew=v0 at hv ⊢
    refine tf (i:=0) (v:=.slice (some ⟨b,o,none⟩) n c) rfl rfl (fun _=>rfl) hv ?_
    try simp only [Act.put,sA,s0,sS]
    refine tf (i:=1) (v:=.int .i64 k) rfl rfl (fun _=>rfl) hv ?_
    try simp only [Act.put,sA,s0,sS]
    refine ti (i:=2) b o n c k rfl rfl rfl rfl rfl hlt Tryz.underlying37 hv ?_
    try simp only [Act.put,sA,s0,sS]
    refine tl (i:=3) (parr p).toList rfl rfl rfl rfl rfl Tryz.underlying28 rfl (fun _ h=>HC.out _ h) hv ?_
    try simp only [Act.put,sA,s0,sS]
    refine tf (i:=4) (v:=.slice (some ⟨b2,o2,none⟩) n d) rfl rfl (fun _=>rfl) hv ?_
    try simp only [Act.put,sA,s0,sS]
    refine tf (i:=5) (v:=.int .i64 k) rfl rfl (fun _=>rfl) hv ?_
    try simp only [Act.put,sA,s0,sS]
    refine ti (i:=6) b2 o2 n d k rfl rfl rfl rfl rfl hlt Tryz.underlying37 hv ?_
    try simp only [Act.put,sA,s0,sS]
    refine tl (i:=7) (parr p2).toList rfl rfl rfl rfl rfl Tryz.underlying28 rfl (fun _ h=>HC2.out _ h) hv ?_
    try simp only [Act.put,sA,s0,sS]
    refine wpAnyH_one (i:=8) (by kernel_rfl) rfl (by kernel_rfl) ?_
    go_simp
    refine (HS.out _ hv).mono ?_
    rintro e w3 ⟨rfl,hx0⟩
    refine ⟨hv.trans hx0,?_⟩
    have hv2:=hv.trans hx0
    clear hv hx0
    have hv:=hv2
    try simp only [Act.put,sA,s0,sS]
    refine tf (i:=9) (v:=.bool false) rfl rfl (fun _=>rfl) hv ?_
    try simp only [Act.put,sA,s0,sS]
    refine wpAnyH_done (by kernel_rfl) (NoPanic.normal ?_) _
    go_wp2_with fail
    go_meet
    exact ⟨rfl,hv⟩
   case rest=>
    obtain ⟨rfl,hx3⟩:=hcut
    have hx4:=hx.trans hx3
    clear hx hx3
    go_wp2_with fail
    go_roundw
    case rel=>
     exact ⟨k+1,hlt,rfl,hx4⟩
    case measure=>simp [intOf];omega
  ·obtain rfl:k=n:=by omega
   go_wp2_with fail
   (go_ret;refine Ret.mk ?_ ?_;(focus (rfl;done));(focus (exact EX;done)))
set_option maxHeartbeats 8000000 in
set_option maxRecDepth 100000 in
theorem rsame_true (A B:Option Addr) (n c d:Nat) (l:List Qp) (w:World) {F G:Nat→Prop} (h1:Qs w F A l) (h2:Qs w G B l) (hn:l.length=n) (hb:n≤1000000000000) (hf:∀ q∈l,q.Fits):
 Calls Tryz.prog 66 #[.slice A n c,.slice B n d] w (Ret (.bool true) w):=by
 have H1:=Lib.hid h1
 have H2:=Lib.hid h2
 have HF:=Lib.hid hf
 have HN:=Lib.hid hn
 clear h1 h2 hf hn
 go_enter Tryz.func66,Tryz.ntmps66
 have hx:=Ext.refl w
 go_wp2_with fail
 go_loopw [5] (fun u wr=>∃ k:Nat,k≤n∧u=.int .i64 k∧Ext w wr) (fun u wr=>n - (intOf u).toNat)
 case atStart=>exact ⟨0,Nat.zero_le _,rfl,hx⟩
 case round=>
  clear hx
  obtain ⟨k,hk,rfl,hx⟩:=hrel
  by_cases hlt:k < n
  ·have hkl:k < l.length:=by rw [HN.out];exact hlt
   have e1:l[k]?=some (l[k]'hkl):=List.getElem?_eq_getElem hkl
   obtain ⟨b,o,p,rfl,hbl,hc,hi⟩:=(H1.out.ext hx).get e1
   obtain ⟨b2,o2,p2,rfl,hbl2,hc2,hi2⟩:=(H2.out.ext hx).get e1
   have ms:=HF.out _ (List.mem_of_getElem? e1)
   generalize l[k]'hkl=q at hi hi2 ms
   have HC:=Lib.hid (fun W (hW:Ext wr W)=>range_ext hc hbl hW)
   have HC2:=Lib.hid (fun W (hW:Ext wr W)=>range_ext hc2 hbl2 hW)
   have HS:=Lib.hid (fun W (hW:Ext wr W)=>psame_true p p2 q W (hi.ext hW) (hi2.ext hW) ms.1 ms.2.1)
   clear hc hc2 hi hi2 ms e1 hbl hbl2 hkl
   go_upto_region 6 with fail
   go_cut [26] (fun u26 wx=>u26=.bool false∧Ext wr wx)
   case first=>
    refine wp_region_noPanic (wp_region_held_drew (S:=fun w'=>Ext wr w') (by kernel_rfl) (Ext.refl wr).drew1 (fun hv=>?_))
    generalize wr.drew=v0 at hv ⊢
    refine tf (i:=0) (v:=.slice (some ⟨b,o,none⟩) n c) rfl rfl (fun _=>rfl) hv ?_
    try simp only [Act.put,sA,s0,sS]
    refine tf (i:=1) (v:=.int .i64 k) rfl rfl (fun _=>rfl) hv ?_
    try simp only [Act.put,sA,s0,sS]
    refine ti (i:=2) b o n c k rfl rfl rfl rfl rfl hlt Tryz.underlying37 hv ?_
    try simp only [Act.put,sA,s0,sS]
    refine tl (i:=3) (parr p).toList rfl rfl rfl rfl rfl Tryz.underlying28 rfl (fun _ h=>HC.out _ h) hv ?_
    try simp only [Act.put,sA,s0,sS]
    refine tf (i:=4) (v:=.slice (some ⟨b2,o2,none⟩) n d) rfl rfl (fun _=>rfl) hv ?_
    try simp only [Act.put,sA,s0,sS]
    refine tf (i:=5) (v:=.int .i64 k) rfl rfl (fun _=>rfl) hv ?_
    try simp only [Act.put,sA,s0,sS]
    refine ti (i:=6) b2 o2 n d k rfl rfl rfl rfl rfl hlt Tryz.underlying37 hv ?_
    try simp only [Act.put,sA,s0,sS]
    refine tl (i:=7) (parr p2).toList rfl rfl rfl rfl rfl Tryz.underlying28 rfl (fun _ h=>HC2.out _ h) hv ?_
    try simp only [Act.put,sA,s0,sS]
    refine wpAnyH_one (i:=8) (by kernel_rfl) rfl (by kernel_rfl) ?_
    go_simp
    refine (HS.out _ hv).mono ?_
    rintro e w3 ⟨rfl,hx0⟩
    refine ⟨hv.trans hx0,?_⟩
    have hv2:=hv.trans hx0
    clear hv hx0
    have hv:=hv2
    try simp only [Act.put,sA,s0,sS]
    refine tf (i:=9) (v:=.bool false) rfl rfl (fun _=>rfl) hv ?_
    try simp only [Act.put,sA,s0,sS]
    refine wpAnyH_done (by kernel_rfl) (NoPanic.normal ?_) _
    go_wp2_with fail
    go_meet
    exact ⟨rfl,hv⟩
   case rest=>
    obtain ⟨rfl,hx3⟩:=hcut
    have hx4:=hx.trans hx3
    clear hx hx3
    go_wp2_with fail
    go_roundw
    case rel=>
     exact ⟨k+1,hlt,rfl,hx4⟩
    case measure=>simp [intOf];omega
  ·obtain rfl:k=n:=by omega
   go_wp2_with fail
   (go_ret;refine Ret.mk ?_ ?_;(focus (rfl;done));(focus (exact EX;done)))
theorem Qs.of_flat {w:World} {g:Nat} {G:Nat→Prop} {ps:List Pv} {l:List Qp} (h1:ps.length=l.length) (hb:Blk w g 28 (flat ps).toArray) (h3:∀ (i:Nat) (p:Pv) (q:Qp),ps[i]?=some p→l[i]?=some q→Is w G p q):Qs w G (some ⟨g,0,none⟩) l:=by
 refine ⟨ps,h1,fun h0=>⟨g,0,rfl,hb.lt,fun i p hp j v hv=>?_⟩,h3⟩
 have hj:j < 12:=(List.getElem?_eq_some_iff.1 hv).1
 rw [hb.cell,Nat.zero_add,List.getElem?_toArray,flat_get hp hj,hv]
theorem Qs.plain {w:World} {g:Nat} (G:Nat→Prop) {l:List Qp} (hb:Blk w g 28 (flat (l.map fun q=>q.pv none 0 none 0)).toArray) (h:∀ q∈l,q.old=[]∧q.new=[]):Qs w G (some ⟨g,0,none⟩) l:=
 Qs.of_flat (by simp) hb fun i p q hp hq=>by
  rw [List.getElem?_map,hq] at hp
  obtain rfl:=Option.some.inj hp
  have:=h q (List.mem_of_getElem? hq)
  exact Is.none _ _ _ this.1 this.2
end Go.Proofs.YtfmgnaigcibcaaaGreatDoor
namespace Go.Proofs.YtfmgnaigcibcaaaGreatDoor
open Go Go.RowKit
attribute [local go_sem ↓] Go.wp_at_zero Go.wp_at_succ
theorem flat_split (ps:List Pv) (k:Nat):flat ps=flat (ps.take k) ++ flat (ps.drop k):=by
 rw [← flat_append,List.take_append_drop]
theorem flat_take_length {ps:List Pv} {k:Nat} (h:k≤ps.length):(flat (ps.take k)).length=k * 12:=by
 rw [flat_length,List.length_take,Nat.min_eq_left h]
theorem flat_mem {ps:List Pv}:∀ u∈flat ps,u.oneCell'=true:=fun u hu=>by
 obtain ⟨j,hj,e⟩:=List.mem_iff_getElem.1 hu
 obtain ⟨i,p,k,h1,h2,h3,h4⟩:=flat_one (ps:=ps) (j:=j) (v:=u) (by rw [List.getElem?_eq_getElem hj,e])
 exact parr_one h2 h3
theorem Qs.of_blk {w:World} {g:Nat} {t:TypeId} {ps:List Pv} {rest:List Value} {l:List Qp} {F:Nat→Prop} (hb:Blk w g t (flat ps ++ rest).toArray) (hl:ps.length=l.length) (hi:∀ (i:Nat) (p:Pv) (q:Qp),ps[i]?=Option.some p→l[i]?=Option.some q→Is w F p q):Qs w F (Option.some ⟨g,0,none⟩) l:=by
 refine ⟨ps,hl,fun h0=>⟨g,0,rfl,hb.lt,fun i p hp j v hv=>?_⟩,hi⟩
 have hj:j < 12:=(List.getElem?_eq_some_iff.1 hv).1
 have hlt:i * 12+j < (flat ps).length:=by
  rw [flat_length]
  have:=(List.getElem?_eq_some_iff.1 hp).1
  omega
 rw [hb.cell,Nat.zero_add,List.getElem?_toArray,List.getElem?_append_left hlt,flat_get hp hj,hv]
theorem run_clear_two (w:World) (ty:TypeId) (g o c:Nat) (hc:∀ j,j < 24→(w.cell? ⟨g,o+j,none⟩).isSome=true) (hf:∀ j,j < 24→w.frozen? ⟨g,o+j,none⟩=false):
 (Builtin.clear_ #[37] ty #[.slice (some ⟨g,o,none⟩) 2 c]).run Tryz.prog w=.ok (.tuple #[]) (w.setCells g o (Builtin.zeroCells zcells 2).toList):=by
 have hu:Tryz.prog.underlying 37=some (.slice 28):=Tryz.underlying37
 have hz:∀ w,(zeroValue 28).run Tryz.prog w=.ok (.agg zcells) w:=fun w=>by kernel_rfl
 have hl:(Builtin.zeroCells zcells 2).toList.length=24:=by kernel_rfl
 have h1:(Builtin.zeroCells zcells 2).toList.all (fun v=>v.oneCell')=true:=by kernel_rfl
 have hst:=run_storeCells_cells (P:=Tryz.prog) g o (Builtin.zeroCells zcells 2).toList 0 w (by rw [hl];simpa using hc) (by rw [hl];simpa using hf) (fun v hv=>List.all_eq_true.1 h1 v hv)
 simp only [Nat.add_zero] at hst
 have e:((Value.agg zcells).cells)=zcells:=by kernel_rfl
 simp [Builtin.clear_,run_underlying hu,hz,e,hst]
set_option maxHeartbeats 4000000 in
set_option maxRecDepth 100000 in
theorem pdelete_at (g n i j:Nat) (l:List Qp) (w:World) (h:OwnL w g l) (hn:l.length=n) (hj:i+2=j) (hi:j≤n) (hb:n≤1000000000000):
 Calls Tryz.prog 90 #[.slice (some ⟨g,0,none⟩) n n,.int .i64 i,.int .i64 j] w (fun e w'=>e=.returned (.slice (some ⟨g,0,none⟩) (n - 2:Nat) n)∧Hid (Qs w' (fun b=>b≠g) (some ⟨g,0,none⟩) (l.take i ++ l.drop j))∧Hid (Kept g w w')):=by
 obtain ⟨ps,h1,h2,h3⟩:=h
 have HJ:=Lib.hid hj
 obtain ⟨i0,hi0,hz0,hz1,hz2⟩:=info_parts (show (Tryz.prog.info? 28).map (fun i=>(i.zero,i.size,i.bytes))=some (some (.agg zcells),12,160) by kernel_rfl)
 have hpl:ps.length=n:=h1.trans hn
 obtain ⟨news,hnews⟩:∃ news,news=flat (ps.drop j):=⟨_,rfl⟩
 have hlen:news.length=(n - j) * 12:=by rw [hnews,flat_length,List.length_drop,hpl]
 have hcell:∀ k,w.cell? ⟨g,k,none⟩=(flat ps)[k]?:=fun k=>by rw [h2.cell,List.getElem?_toArray]
 have hfl:(flat ps).length=n * 12:=by rw [flat_length,hpl]
 obtain ⟨A,hA,hsrc⟩:∃ A:Addr,(if n=j then (some ⟨g,0,none⟩:Option Addr) else some ⟨g,j * 12,none⟩)=some A∧Hid (∀ t u,news[t]?=some u→w.drew.cell? (A.add t)=some u):=by
  by_cases h:n=j
  ·refine ⟨⟨g,0,none⟩,by simp [h],Lib.hid fun t u hu=>?_⟩
   have h0:news.length=0:=by rw [hlen];omega
   rw [List.length_eq_zero_iff.1 h0] at hu
   simp at hu
  ·refine ⟨⟨g,j * 12,none⟩,by simp [h],Lib.hid fun t u hu=>?_⟩
   rw [Addr.add_lit]
   show w.cell? _=_
   rw [hcell,flat_split ps j,List.getElem?_append_right (by rw [flat_take_length (by omega)];omega),flat_take_length (by omega),← hnews,show j * 12+t - j * 12=t by omega]
   exact hu
 have s1:Hid (news.length=(n - j) * 12):=Lib.hid hlen
 have s2:Hid (∀ u∈news,u.oneCell'=true):=Lib.hid (by rw [hnews];exact flat_mem)
 have s3:Hid (∀ t,t < news.length→(w.drew.cell? ⟨g,0+i * 12+t,none⟩).isSome=true∧w.drew.frozen? ⟨g,0+i * 12+t,none⟩=false):=Lib.hid fun t ht=>by
  rw [hlen] at ht
  refine ⟨?_,h2.drew.frozen _⟩
  show (w.cell? _).isSome=true
  rw [hcell,List.getElem?_eq_getElem (by rw [hfl];omega)]
  rfl
 obtain ⟨W1,hW1⟩:∃ W1,W1=w.drew.setCells g (0+i * 12) news:=⟨_,rfl⟩
 have e0:flat ps=flat (ps.take i) ++ (flat ((ps.drop i).take (n - j)) ++ flat (ps.drop (n - 2))):=by
  rw [flat_split ps i]
  congr 1
  rw [flat_split (ps.drop i) (n - j),List.drop_drop,show i+(n - j)=n - 2 by omega]
 have lt1:(flat (ps.take i)).length=i * 12:=flat_take_length (by omega)
 have hB1:Blk W1 g 28 (flat (ps.take i) ++ (news ++ flat (ps.drop (n - 2)))).toArray:=by
  have h4:=h2.drew
  rw [e0] at h4
  have:=Blk.mid news (flat ((ps.drop i).take (n - j))) (flat (ps.take i)) (flat (ps.drop (n - 2))) w.drew (by rw [hlen,flat_length,List.length_take,List.length_drop,hpl];congr 1;omega) h4
  rw [lt1] at this
  rw [hW1,Nat.zero_add]
  exact this
 have hB1':Blk W1 g 28 (flat (ps.take i ++ ps.drop j) ++ (flat (ps.drop (n - 2)) ++ [])).toArray:=by
  rw [flat_append,← hnews,List.append_nil,List.append_assoc]
  exact hB1
 have ld:(flat (ps.take i ++ ps.drop j)).length=(n - 2) * 12:=by
  rw [flat_length,List.length_append,List.length_take,List.length_drop,hpl,Nat.min_eq_left (by omega)]
  congr 1
  omega
 have l2:(flat (ps.drop (n - 2))).length=24:=by
  rw [flat_length,List.length_drop,hpl]
  omega
 have hcl:∀ ty c,(Builtin.clear_ #[37] ty #[.slice (some ⟨g,(n - 2) * 12,none⟩) 2 c]).run Tryz.prog W1=.ok (.tuple #[]) (W1.setCells g ((n - 2) * 12) (Builtin.zeroCells zcells 2).toList):=fun ty c=>
  run_clear_two W1 ty g _ c (fun j hj=>by
   rw [hB1'.cell,List.getElem?_toArray,List.getElem?_eq_getElem (by simp only [List.length_append,ld,l2,List.length_nil];omega)]
   rfl) (fun j hj=>hB1'.frozen _)
 have hl2:(Builtin.zeroCells zcells 2).toList.length=24:=by kernel_rfl
 have hB2:Hid (Qs (W1.setCells g ((n - 2) * 12) (Builtin.zeroCells zcells 2).toList) (fun b=>b≠g) (some ⟨g,0,none⟩) (l.take i ++ l.drop j)∧Kept g w (W1.setCells g ((n - 2) * 12) (Builtin.zeroCells zcells 2).toList)):=Lib.hid (by
  have hk:Kept g w (W1.setCells g ((n - 2) * 12) (Builtin.zeroCells zcells 2).toList):=by
   rw [hW1]
   exact ((Kept.refl g w).drew.trans (Kept.set g _ _ _)).trans (Kept.set g _ _ _)
  have h5:=Blk.mid (Builtin.zeroCells zcells 2).toList (flat (ps.drop (n - 2))) (flat (ps.take i ++ ps.drop j)) [] W1 (by rw [hl2,l2]) hB1'
  rw [ld] at h5
  refine ⟨Qs.of_blk h5 (by simp [h1]) (fun j p q hp hq=>hk.is _ _ ?_),hk⟩
  rcases Nat.lt_or_ge j i with hj | hj
  ·rw [List.getElem?_append_left (by simp;omega),List.getElem?_take_of_lt hj] at hp
   rw [List.getElem?_append_left (by simp;omega),List.getElem?_take_of_lt hj] at hq
   exact (h3 j p q hp hq).mono fun _ hb=>hb.1
  ·rw [List.getElem?_append_right (by simp;omega),List.getElem?_drop] at hp
   rw [List.getElem?_append_right (by simp;omega),List.getElem?_drop] at hq
   rw [List.length_take,hpl] at hp
   rw [List.length_take,hn] at hq
   exact (h3 _ p q hp hq).mono fun _ hb=>hb.1)
 have hW:Hid (W1=w.drew.setCells g (0+i * 12) news):=Lib.hid hW1
 have hic:i≤n:=by omega
 have hij:i < j:=by omega
 have hz:n - (n - 2)=2:=by omega
 have hz2:i+(n - j)=n - 2:=by omega
 have hg:g < w.heap.size:=h2.lt
 clear hW1 hB1 hB1' hcell h2 h3 hnews hlen e0 lt1 ld l2 hl2 hfl hj
 go_enter Tryz.func90,Tryz.ntmps90
 have hx:=Ext.refl w
 go_wp2_with fail
 go_region_law (refine step_append_room rfl (.tmp 22) (.tmp 25) 37 rfl 28 i0 12 Tryz.underlying37 hi0 hz1 g 0 i n (by simp [Act.eval,Act.put]) A (n - j) (n - j) news (by simp [Act.eval,Act.put]) s1.out hsrc.out s2.out (by omega) s3.out ?_;rw [← hW.out])
 go_wp2_with fail
 refine bodyPost_ret (v:=.slice (some ⟨g,0,none⟩) (n - 2:Nat) n) (by simp only [results,Tryz.results90];go_simp) rfl ?_
 exact ⟨rfl,Lib.hid hB2.out.1,Lib.hid hB2.out.2⟩
theorem pdelete_any (g n i:Nat) (l:List Qp) (w:World) (h:OwnL w g l) (hn:l.length=n) (hi:i+2≤n) (hb:n≤1000000000000):
 Calls Tryz.prog 90 #[.slice (some ⟨g,0,none⟩) n n,.int .i64 i,.int .i64 ((i:Int)+2)] w (fun e w'=>e=.returned (.slice (some ⟨g,0,none⟩) (n - 2:Nat) n)∧Hid (Qs w' (fun b=>b≠g) (some ⟨g,0,none⟩) (l.take i ++ l.drop (i+2)))∧Hid (Kept g w w')):=by
 have:=pdelete_at g n i (i+2) l w h hn rfl hi hb
 rw [show (((i+2:Nat):Int))=(i:Int)+2 by omega] at this
 exact this
end Go.Proofs.YtfmgnaigcibcaaaGreatDoor
namespace Go.Proofs.YtfmgnaigcibcaaaGreatDoor
open Go.RowKit
attribute [local go_sem ↓] Go.wp_at_zero Go.wp_at_succ
set_option maxHeartbeats 4000000 in
set_option maxRecDepth 100000 in
theorem lgreat_any (A:Option Addr) (c:Nat) (l:List Qp) (w:World) {F:Nat→Prop} (h:Qs w F A l) (hn:l.length≤1152921504606846976) (hs:∀ q∈l,q.old.length≤1152921504606846976∧q.new.length≤1152921504606846976):
 Calls Tryz.prog 58 #[.slice A l.length c] w (Tells (∀ q∈l,q.Mild) w):=by
 have H:=Lib.hid h
 have HS:=Lib.hid hs
 clear h hs
 obtain ⟨n,Hn⟩:∃ n,Hid (n=l.length):=⟨_,Lib.hid rfl⟩
 have hn':n≤1152921504606846976:=by rw [Hn.out];exact hn
 rw [← Hn.out]
 clear hn
 go_enter Tryz.func58,Tryz.ntmps58
 have hx:=Ext.refl w
 go_wp2_with fail
 go_loopw [3] (fun i wr=>∃ k:Nat,k≤n∧i=.int .i64 k∧Ext w wr∧Hid (∀ q∈l.take k,q.Mild)) (fun i wr=>n - (intOf i).toNat)
 case atStart=>exact ⟨0,Nat.zero_le _,rfl,hx,Lib.hid (by simp)⟩
 case round=>
  obtain ⟨k,hk,rfl,hx,Hall⟩:=hrel
  by_cases hlt:k < n
  ·have e1:l[k]?=some l[k]:=List.getElem?_eq_getElem (by rw [← Hn.out];exact hlt)
   obtain ⟨b,o,p,rfl,hb,hc,hi⟩:=(H.out.ext hx).get e1
   have Hc:=Lib.hid hc
   have Hi:=Lib.hid hi
   have E1:=Lib.hid e1
   generalize l[k]=q at Hi E1
   clear hc hi e1
   obtain ⟨d0,d1,d2,d3,d4,d5,d6,d7,d8,d9,d10,d11⟩:=cells12 Hc.out
   clear Hc
   go_wp2_with fail
   clear d0 d1 d2 d3 d4 d5 d6 d7 d8 d9 d10 d11
   refine (pgreat_any p q _ Hi.out (HS.out q (List.mem_of_getElem? E1.out)).1 (HS.out q (List.mem_of_getElem? E1.out)).2).mono ?_
   rintro e w1 ⟨v1,rfl,k1,hx0⟩
   have K1:=Lib.hid k1
   clear k1
   have hx1:=hx.trans hx0
   clear hx hx0
   have hx:=hx1
   clear hx1
   cases v1
   ·go_wp2_with fail
    go_roundw
    case rel=>
     refine ⟨k+1,hlt,rfl,hx,Lib.hid fun y hy=>?_⟩
     rw [List.take_add_one,E1.out] at hy
     rcases List.mem_append.1 hy with m | m
     ·exact Hall.out y m
     ·obtain rfl:y=q:=by simpa using m
      exact K1.out trivial
    case measure=>simp [intOf];omega
   ·go_wp2_with fail
    refine bodyPost_ret (v:=.bool true) (by simp only [results,Tryz.results58];go_simp) rfl ?_
    exact ⟨_,rfl,(fun h=>nomatch h),hx⟩
  ·obtain rfl:k=n:=by omega
   have HX:Hid (∀ q∈l,q.Mild):=Lib.hid (by have :=Hall.out;rwa [List.take_of_length_le (by rw [← Hn.out];exact Nat.le_refl _)] at this)
   clear Hall
   go_wp2_with fail
   refine bodyPost_ret (v:=.bool false) (by simp only [results,Tryz.results58];go_simp) rfl ?_
   exact ⟨_,rfl,(fun _=>HX.out),hx⟩
end Go.Proofs.YtfmgnaigcibcaaaGreatDoor
namespace Go.Proofs.YtfmgnaigcibcaaaGreatDoor
open Go Go.RowKit
attribute [local go_sem ↓] Go.wp_at_zero Go.wp_at_succ
def Small (l:List Qp):Prop:=l.length≤8∧∀ q∈l,q.Mild
set_option maxHeartbeats 4000000 in
set_option maxRecDepth 100000 in
theorem g15_any (A:Option Addr) (c:Nat) (l:List Qp) (w:World) {F:Nat→Prop} (h:Qs w F A l) (hn:l.length≤1152921504606846976) (hs:∀ q∈l,q.old.length≤1152921504606846976∧q.new.length≤1152921504606846976):
 Calls Tryz.prog 64 #[.slice A l.length c] w (Tells (Small l) w):=by
 have H:=Lib.hid (lgreat_any A c l w h hn hs)
 obtain ⟨n,Hn⟩:∃ n,Hid (n=l.length):=⟨_,Lib.hid rfl⟩
 rw [← Hn.out] at H ⊢
 clear h hs hn
 by_cases h8:8 < n
 ·have h8':(8:Int) < (n:Int):=by omega
  go_enter Tryz.func64,Tryz.ntmps64
  have hx:=Ext.refl w
  go_wp2_with fail
  refine bodyPost_ret (v:=.bool true) (by simp only [results,Tryz.results64];go_simp) rfl ?_
  exact ⟨_,rfl,(fun h=>nomatch h),hx⟩
 ·have h8':¬ (8:Int) < (n:Int):=by omega
  go_enter Tryz.func64,Tryz.ntmps64
  have hx:=Ext.refl w
  go_wp2_with fail
  refine H.out.mono ?_
  rintro e w1 ⟨v1,rfl,k1,hx0⟩
  go_wp2_with fail
  refine bodyPost_ret (v:=.bool v1) (by simp only [results,Tryz.results64];go_simp) rfl ?_
  exact ⟨_,rfl,(fun h=>⟨by rw [← Hn.out];omega,k1 h⟩),hx0⟩
abbrev Seqs:=List (Option Addr × List Qp × Nat)
def Seqs.lie (w:World) (ls:Seqs):Prop:=∀ x∈ls,(∃ F,Qs w F x.1 x.2.1)∧x.2.1.length≤1152921504606846976∧∀ q∈x.2.1,q.old.length≤1152921504606846976∧q.new.length≤1152921504606846976
theorem Seqs.lie.ext {w w':World} {ls:Seqs} (h:ls.lie w) (hx:Ext w w'):ls.lie w':=fun x hm=>by
 obtain ⟨⟨F,h1⟩,h2⟩:=h x hm
 exact ⟨⟨F,h1.ext hx⟩,h2⟩
def Seqs.cells (ls:Seqs):Array Value:=(ls.map fun x=>Value.slice x.1 x.2.1.length x.2.2).toArray
def Seqs.small (ls:Seqs):Prop:=∀ x∈ls,Small x.2.1
set_option maxHeartbeats 4000000 in
set_option maxRecDepth 100000 in
theorem indexfunc_any (g:Nat) (t:TypeId) (ls:Seqs) (n:Nat) (w:World) (hb:Blk w g t ls.cells) (hn:ls.length=n) (hl:ls.lie w) (h8:n≤8):
 Calls Tryz.prog 98 #[.slice (some ⟨g,0,none⟩) n n,.func (.func 64) #[] #[]] w (fun e w'=>∃ i:Int,e=.returned (.int .i64 i)∧(i < 0→ls.small)∧Ext w w'):=by
 have HB:=Lib.hid hb
 have HL:=Lib.hid hl
 have HN:=Lib.hid hn
 clear hb hl hn
 go_enter Tryz.func98,Tryz.ntmps98
 have hx:=Ext.refl w
 go_wp2_with fail
 go_loopw [8] (fun u8 wr=>∃ k:Nat,k≤n∧u8=.int .i64 k∧Ext w wr∧Hid (∀ x∈ls.take k,Small x.2.1)) (fun u8 wr=>n - (intOf u8).toNat)
 case atStart=>exact ⟨0,Nat.zero_le _,rfl,hx,Lib.hid (by simp)⟩
 case round=>
  clear hx
  obtain ⟨k,hk,rfl,hx,HS⟩:=hrel
  by_cases hlt:k < n
  ·have hkl:k < ls.length:=by rw [HN.out];exact hlt
   have e1:ls[k]?=some (ls[k]'hkl):=List.getElem?_eq_getElem hkl
   generalize ls[k]'hkl=x at e1
   have hm:=HL.out x (List.mem_of_getElem? e1)
   obtain ⟨⟨F,hq⟩,hl1,hl2⟩:=hm
   have HG:=Lib.hid (g15_any x.1 x.2.2 x.2.1 wr (hq.ext hx) hl1 hl2)
   have hcell:wr.cell? ⟨g,k,none⟩=some (.slice x.1 x.2.1.length x.2.2):=by
    rw [(HB.out.ext hx).cell k]
    unfold Seqs.cells
    rw [List.getElem?_toArray,List.getElem?_map,e1]
    rfl
   have E1:=Lib.hid e1
   obtain ⟨xA,xl,xc⟩:=x
   dsimp only at HG hcell
   clear e1 hq hl1 hl2 hkl
   go_wp2_with fail
   clear hcell
   refine HG.out.mono ?_
   rintro e w1 ⟨v1,rfl,k1,hx0⟩
   have hx1:=hx.trans hx0
   clear hx hx0 HG
   have hx:=hx1
   clear hx1
   have K1:=Lib.hid k1
   clear k1
   cases v1
   ·go_wp2_with fail
    go_roundw
    case rel=>
     refine ⟨k+1,hlt,rfl,hx,Lib.hid fun y hy=>?_⟩
     rw [List.take_add_one,E1.out] at hy
     rcases List.mem_append.1 hy with m | m
     ·exact HS.out y m
     ·obtain rfl:y=(xA,xl,xc):=by simpa using m
      exact K1.out trivial
    case measure=>simp [intOf];omega
   ·go_wp2_with fail
    refine bodyPost_ret (v:=.int .i64 k) (by simp only [results,Tryz.results98];go_simp) rfl ?_
    exact ⟨_,rfl,(fun h=>absurd h (by omega)),hx⟩
  ·obtain rfl:k=n:=by omega
   have HX:Hid ls.small:=Lib.hid (by have :=HS.out;rwa [List.take_of_length_le (by rw [HN.out];exact Nat.le_refl _)] at this)
   clear HS
   go_wp2_with fail
   refine bodyPost_ret (v:=.int .i64 (-1)) (by simp only [results,Tryz.results98];go_simp) rfl ?_
   exact ⟨_,rfl,(fun _=>HX.out),hx⟩
set_option maxHeartbeats 4000000 in
set_option maxRecDepth 100000 in
theorem lawgreat15_any (g:Nat) (t:TypeId) (ls:Seqs) (n:Nat) (w:World) (hb:Blk w g t ls.cells) (hn:ls.length=n) (hl:ls.lie w) (h8:n≤8):
 Calls Tryz.prog 33 #[.slice (some ⟨g,0,none⟩) n n] w (Tells ls.small w):=by
 have H:=Lib.hid (indexfunc_any g t ls n w hb hn hl h8)
 clear hb hl hn
 have HC:Calls Tryz.prog 63 #[.slice (some ⟨g,0,none⟩) n n,.func (.func 64) #[] #[]] w (Tells ls.small w):=by
  go_enter Tryz.func63,Tryz.ntmps63
  have hx:=Ext.refl w
  go_wp2_with fail
  refine H.out.mono ?_
  rintro e w1 ⟨i,rfl,k1,hx0⟩
  have K1:=Lib.hid k1
  clear k1
  go_wp2_with fail
  refine bodyPost_ret (v:=.bool (decide (0≤i))) (by simp only [results,Tryz.results63];go_simp) rfl ?_
  exact ⟨_,rfl,(fun h=>K1.out (by simpa using h)),hx0⟩
 have HC:=Lib.hid HC
 clear H
 go_enter Tryz.func33,Tryz.ntmps33
 have hx:=Ext.refl w
 go_wp2_with fail
 refine HC.out.mono ?_
 rintro e w1 ⟨v1,rfl,k1,hx0⟩
 go_wp2_with fail
 refine bodyPost_ret (v:=.bool v1) (by simp only [results,Tryz.results33];go_simp) rfl ?_
 exact ⟨_,rfl,k1,hx0⟩
end Go.Proofs.YtfmgnaigcibcaaaGreatDoor
namespace Go.Proofs.YtfmgnaigcibcaaaGreatDoor
open Go Go.RowKit
attribute [local go_sem ↓] Go.wp_at_zero Go.wp_at_succ
end Go.Proofs.YtfmgnaigcibcaaaGreatDoor
namespace Go.Proofs.YtfmgnaigcibcaaaGreatDoor
open Go Go.RowKit
theorem Small.fits {l:List Qp} (h:Small l):∀ q∈l,q.Fits:=fun q hq=>(h.2 q hq).fits
theorem Qs.some {w:World} {F:Nat→Prop} {A:Option Addr} {l:List Qp} (h:Qs w F A l) (h0:0 < l.length):∃ b o,A=.some ⟨b,o,.none⟩:=by
 obtain ⟨ps,h1,h2,h3⟩:=h
 obtain ⟨b,o,e,_⟩:=h2 (by omega)
 exact ⟨b,o,e⟩
theorem Qs.all {w:World} {F:Nat→Prop} {A:Option Addr} {l:List Qp} (h:Qs w F A l):Qs w (fun _=>True) A l:=h.mono fun _ _=>trivial
end Go.Proofs.YtfmgnaigcibcaaaGreatDoor
namespace Go.Proofs.YtfmgnaigcibcaaaGreatDoor
open Go Go.RowKit
attribute [local go_sem ↓] Go.wp_at_zero Go.wp_at_succ
theorem OwnZ.at {z:Nat} {w:World} {g:Nat} {l:List Qp} (h:OwnZ z w g l) {i:Nat} {q:Qp} (hi:l[i]?=some q):∃ p,Is w (fun b=>(b≠g∧b≠z)∧b < w.heap.size) p q∧∀ w',Ext w w'→w'.rangeAt g (0+i * 12) (parr p).toList:=by
 obtain ⟨ps,h1,h2,h3⟩:=h
 have hlt:i < l.length:=(List.getElem?_eq_some_iff.1 hi).1
 have hp:ps[i]?=some ps[i]:=List.getElem?_eq_getElem (by omega)
 refine ⟨ps[i],(h3 i _ q hp hi).in,fun w' hx j v hv=>?_⟩
 have hj:j < 12:=(List.getElem?_eq_some_iff.1 hv).1
 rw [(Blk.ext hx h2).cell,Nat.zero_add,List.getElem?_toArray,flat_get hp hj,hv]
def Pair (g z:Nat) (w:World) (c d:Qp) (wx:World) (g5 g6:Nat) (P1 P2:Pv):Prop:=
 Blk wx g5 28 (parr P1)∧Blk wx g6 28 (parr P2)∧g5≠g6∧w.heap.size≤g5∧w.heap.size≤g6 ∧
  Is wx (fun b=>(b≠g∧b≠z)∧b≠g5∧b≠g6) P1 c∧Is wx (fun b=>(b≠g∧b≠z)∧b≠g5∧b≠g6) P2 d
theorem there_of {w:World} {g:Nat} {t:TypeId} {l:List Value} (h:Blk w g t l.toArray) {o n:Nat} (hn:o+n≤l.length):w.there g o n:=fun j hj=>by
 rw [h.cell,h.frozen,List.getElem?_toArray,List.getElem?_eq_getElem (by omega)]
 exact ⟨rfl,rfl⟩
set_option maxHeartbeats 16000000 in
set_option maxRecDepth 100000 in
theorem swap_any (g n cap i:Nat) {z:Nat} (l:List Qp) (w:World) (hg:Glob w) (h:OwnZ z w g l) (hn:l.length=n) (hi:i+1 < n) (hb:n≤1152921504606846976) (hf:∀ q∈l,q.Fits) (hz:z < w.heap.size):
 Calls Tryz.prog 54 #[.slice (some ⟨g,0,none⟩) n cap,.int .i64 i] w (fun e w'=>e=.returned (.bool (Sq.swap l i).isSome)∧Hid (OwnZ z w' g ((Sq.swap l i).getD l))∧Hid (Kept g w w')):=by
 have ea:l[i]?=some (l.getD i Qp.zero):=by rw [List.getD_eq_getElem?_getD,List.getElem?_eq_getElem (by omega)];rfl
 have eb:l[i+1]?=some (l.getD (i+1) Qp.zero):=by rw [List.getD_eq_getElem?_getD,List.getElem?_eq_getElem (by omega)];rfl
 have ma:=hf _ (List.mem_of_getElem? ea)
 have mb:=hf _ (List.mem_of_getElem? eb)
 have HS:Hid (Sq.swap l i=if ((l.getD i Qp.zero).commute (l.getD (i+1) Qp.zero)).2.2 then some ((l.set i ((l.getD i Qp.zero).commute (l.getD (i+1) Qp.zero)).1).set (i+1) ((l.getD i Qp.zero).commute (l.getD (i+1) Qp.zero)).2.1) else none):=Lib.hid rfl
 generalize l.getD i Qp.zero=qa at ea ma HS
 generalize l.getD (i+1) Qp.zero=qb at eb mb HS
 obtain ⟨p,ia,ra⟩:=h.at ea
 obtain ⟨p',ib,rb⟩:=h.at eb
 have HC:=Lib.hid (fun W (hW:Ext w W)=>commute_any p p' qa qb W (hg.ext hW) (ia.ext hW) (ib.ext hW) ma mb)
 generalize qa.commute qb=R at HC HS
 obtain ⟨c,d,k⟩:=R
 dsimp only at HS
 generalize Sq.swap l i=SW at HS ⊢
 have H:=Lib.hid h
 have HL:Hid (g < w.heap.size∧z < w.heap.size):=Lib.hid ⟨h.lt,hz⟩
 have HN:=Lib.hid hn
 have RA:=Lib.hid ra
 have RB:=Lib.hid rb
 clear ea eb ma mb ia ib hg hf h ra rb hn hz
 have hi0:i < n:=by omega
 have hi1:i < 1152921504606846976:=by omega
 go_enter Tryz.func54,Tryz.ntmps54
 have hx:=Ext.refl w
 go_upto_region 1 with fail
 go_cut [5,6,7] (fun u5 u6 u7 wx=>∃ (g5 g6:Nat) (P1 P2:Pv),u5=.pointer (some ⟨g5,0,none⟩)∧u6=.pointer (some ⟨g6,0,none⟩)∧u7=.bool k∧Hid (Pair g z w c d wx g5 g6 P1 P2)∧Ext w wx)
 case first=>
  refine wp_region_noPanic (wp_region_held_drew (S:=fun w'=>Ext w w') (by kernel_rfl) (Ext.refl w).drew1 (fun hv=>?_))
  generalize w.drew=v0 at hv ⊢
  have S0:=Lib.hid hv.size_le
  refine tf (i:=0) (v:=(.slice (some ⟨g,0,none⟩) n cap)) rfl rfl (fun _=>rfl) hv ?_
  try simp only [Act.put,sA,s0,sS]
  refine tf (i:=1) (v:=(.int .i64 i)) rfl rfl (fun _=>rfl) hv ?_
  try simp only [Act.put,sA,s0,sS]
  refine ti (i:=2) g 0 n cap (i) rfl rfl rfl rfl rfl hi0 Tryz.underlying37 hv ?_
  try simp only [Act.put,sA,s0,sS]
  refine tl (i:=3) (parr p).toList rfl rfl rfl rfl rfl Tryz.underlying28 rfl (fun _ h=>RA.out _ h) hv ?_
  try simp only [Act.put,sA,s0,sS]
  refine tf (i:=4) (v:=(.slice (some ⟨g,0,none⟩) n cap)) rfl rfl (fun _=>rfl) hv ?_
  try simp only [Act.put,sA,s0,sS]
  refine tf (i:=5) (v:=(.int .i64 i)) rfl rfl (fun _=>rfl) hv ?_
  try simp only [Act.put,sA,s0,sS]
  refine take_next (i:=6) i rfl rfl rfl (by kernel_rfl) (by kernel_rfl) (by kernel_rfl) (by kernel_rfl) rfl hi1 hv (fun w=>by unfold execOp;simp [go_sem,IntKind.wrap_i64];omega) ?_
  try simp only [Act.put,sA,s0,sS]
  refine ti (i:=7) g 0 n cap (i+1) rfl rfl rfl rfl rfl hi Tryz.underlying37 hv ?_
  try simp only [Act.put,sA,s0,sS]
  refine tl (i:=8) (parr p').toList rfl rfl rfl rfl rfl Tryz.underlying28 rfl (fun _ h=>RB.out _ h) hv ?_
  try simp only [Act.put,sA,s0,sS]
  refine wpAnyH_ready (rs:=[9,14,15]) (by kernel_rfl) (by simp) ?_
  refine (AllReadyH.cons rfl (fun K hK=>?_) (AllReadyH.cons rfl (fun K hK=>?_) (AllReadyH.cons rfl (fun K hK=>?_) AllReadyH.nil)))
  ·go_simp
   refine (HC.out _ hv).mono ?_
   rintro e v1 ⟨P1,P2,rfl,i1,i2,hx0⟩
   have I1:=Lib.hid i1.in
   have I2:=Lib.hid i2.in
   clear i1 i2
   have Sv1:=Lib.hid hx0.size_le
   have hv1:=hv.trans hx0
   refine hK.out _ _ hv1 (fun _=>?_)
   clear hK hx0
   try simp only [Act.put,sA,s0,sS]
   refine tf (i:=10) (v:=(.tuple #[P1.v,P2.v,.bool k])) rfl rfl (fun _=>rfl) hv1 ?_
   try simp only [Act.put,sA,s0,sS]
   refine tf (i:=11) (v:=P1.v) rfl rfl (fun _=>rfl) hv1 ?_
   try simp only [Act.put,sA,s0,sS]
   refine tf (i:=12) (v:=P2.v) rfl rfl (fun _=>rfl) hv1 ?_
   try simp only [Act.put,sA,s0,sS]
   refine tf (i:=13) (v:=(.bool k)) rfl rfl (fun _=>rfl) hv1 ?_
   try simp only [Act.put,sA,s0,sS]
   refine wpAnyH_ready (rs:=[14,15]) (by kernel_rfl) (by simp) ?_
   refine (AllReadyH.cons rfl (fun K hK=>?_) (AllReadyH.cons rfl (fun K hK=>?_) AllReadyH.nil))
   ·go_simp
    have hx0:Ext v1 (v1.alloc (.cells zcells 28)):=(Ext.refl v1).alloc _
    have hb5:Blk (v1.alloc (.cells zcells 28)) v1.heap.size 28 zcells:=Blk.new' rfl
    have sv2:(v1.alloc (.cells zcells 28)).heap.size=v1.heap.size+1:=by simp
    generalize v1.alloc (.cells zcells 28)=v2 at hx0 hb5 sv2 ⊢
    obtain ⟨g5,eg5⟩:∃ g,g=v1.heap.size:=⟨_,rfl⟩
    rw [← eg5] at hb5 ⊢
    have Eg5:=Lib.hid eg5
    have Sv2:=Lib.hid sv2
    clear eg5 sv2
    have hv2:=hv1.trans hx0
    replace I1:=Lib.hid (I1.out.ext hx0)
    replace I2:=Lib.hid (I2.out.ext hx0)
    refine hK.out _ _ hv2 (fun _=>?_)
    clear hK hx0
    try simp only [Act.put,sA,s0,sS]
    refine wpAnyH_ready (rs:=[15]) (by kernel_rfl) (by simp) ?_
    refine (AllReadyH.cons rfl (fun K hK=>?_) AllReadyH.nil)
    ·go_simp
     have hx0:Ext v2 (v2.alloc (.cells zcells 28)):=(Ext.refl v2).alloc _
     have hb6:Blk (v2.alloc (.cells zcells 28)) v2.heap.size 28 zcells:=Blk.new' rfl
     have sv3:(v2.alloc (.cells zcells 28)).heap.size=v2.heap.size+1:=by simp
     generalize v2.alloc (.cells zcells 28)=v3 at hx0 hb6 sv3 ⊢
     obtain ⟨g6,eg6⟩:∃ g,g=v2.heap.size:=⟨_,rfl⟩
     rw [← eg6] at hb6 ⊢
     have Eg6:=Lib.hid eg6
     have Sv3:=Lib.hid sv3
     clear eg6 sv3
     have hv3:=hv2.trans hx0
     replace hb5:=hb5.ext hx0
     replace I1:=Lib.hid (I1.out.ext hx0)
     replace I2:=Lib.hid (I2.out.ext hx0)
     refine hK.out _ _ hv3 (fun _=>?_)
     clear hK hx0
     try simp only [Act.put,sA,s0,sS]
     have fSv1:=Sv1.out
     have fSv2:=Sv2.out
     have fEg5:=Eg5.out
     have fSv3:=Sv3.out
     have fEg6:=Eg6.out
     have sv0:=S0.out
     have hgl:=HL.out
     have i1:=I1.out.mono (G:=fun b=>(b≠g∧b≠z)∧b≠g5∧b≠g6) (fun b hb=>by omega)
     have i2:=I2.out.mono (G:=fun b=>(b≠g∧b≠z)∧b≠g5∧b≠g6) (fun b hb=>by omega)
     refine two_stores (n:=16) (u:=.bool k) (v1:=parr P1) (v2:=parr P2) (by kernel_rfl) (by kernel_rfl) (by kernel_rfl) (by kernel_rfl) rfl rfl rfl rfl rfl rfl rfl rfl rfl rfl rfl rfl rfl rfl rfl rfl rfl hb5 hb6 rfl rfl (by omega) (by kernel_rfl) (by kernel_rfl) (by first | rfl | simp [Value.oneCell']) (by first | rfl | simp [Value.oneCell']) (Ext.setAll (by omega) _ _ _ hv3) (Ext.setAll (by omega) _ _ _ (Ext.setAll (by omega) _ _ _ hv3)) (fun W k5 k6 hst=>NoPanic.normal ?_) _
     try simp only [Act.put,sA,s0,sS]
     have LF:Hid (Pair g z w c d W g5 g6 P1 P2):=Lib.hid ⟨k5,k6,by omega,by omega,by omega,hst.keeps _ _ _ i1 (fun h=>by omega) (fun h=>by omega),hst.keeps _ _ _ i2 (fun h=>by omega) (fun h=>by omega)⟩
     have hy:=hst.ext w hv3 (by omega) (by omega)
     clear hst i1 i2 k5 k6 sv0 hgl fSv1 fSv2 fEg5 fSv3 fEg6 Sv1 Sv2 Eg5 Sv3 Eg6
     go_wp2_with fail
     go_meet
     exact ⟨g5,g6,P1,P2,rfl,rfl,rfl,LF,hy⟩
   ·go_simp
    have hx0:Ext v1 (v1.alloc (.cells zcells 28)):=(Ext.refl v1).alloc _
    have hb6:Blk (v1.alloc (.cells zcells 28)) v1.heap.size 28 zcells:=Blk.new' rfl
    have sv4:(v1.alloc (.cells zcells 28)).heap.size=v1.heap.size+1:=by simp
    generalize v1.alloc (.cells zcells 28)=v4 at hx0 hb6 sv4 ⊢
    obtain ⟨g6,eg6⟩:∃ g,g=v1.heap.size:=⟨_,rfl⟩
    rw [← eg6] at hb6 ⊢
    have Eg6:=Lib.hid eg6
    have Sv4:=Lib.hid sv4
    clear eg6 sv4
    have hv4:=hv1.trans hx0
    replace I1:=Lib.hid (I1.out.ext hx0)
    replace I2:=Lib.hid (I2.out.ext hx0)
    refine hK.out _ _ hv4 (fun _=>?_)
    clear hK hx0
    try simp only [Act.put,sA,s0,sS]
    refine wpAnyH_ready (rs:=[14]) (by kernel_rfl) (by simp) ?_
    refine (AllReadyH.cons rfl (fun K hK=>?_) AllReadyH.nil)
    ·go_simp
     have hx0:Ext v4 (v4.alloc (.cells zcells 28)):=(Ext.refl v4).alloc _
     have hb5:Blk (v4.alloc (.cells zcells 28)) v4.heap.size 28 zcells:=Blk.new' rfl
     have sv5:(v4.alloc (.cells zcells 28)).heap.size=v4.heap.size+1:=by simp
     generalize v4.alloc (.cells zcells 28)=v5 at hx0 hb5 sv5 ⊢
     obtain ⟨g5,eg5⟩:∃ g,g=v4.heap.size:=⟨_,rfl⟩
     rw [← eg5] at hb5 ⊢
     have Eg5:=Lib.hid eg5
     have Sv5:=Lib.hid sv5
     clear eg5 sv5
     have hv5:=hv4.trans hx0
     replace hb6:=hb6.ext hx0
     replace I1:=Lib.hid (I1.out.ext hx0)
     replace I2:=Lib.hid (I2.out.ext hx0)
     refine hK.out _ _ hv5 (fun _=>?_)
     clear hK hx0
     try simp only [Act.put,sA,s0,sS]
     have fSv1:=Sv1.out
     have fSv4:=Sv4.out
     have fEg6:=Eg6.out
     have fSv5:=Sv5.out
     have fEg5:=Eg5.out
     have sv0:=S0.out
     have hgl:=HL.out
     have i1:=I1.out.mono (G:=fun b=>(b≠g∧b≠z)∧b≠g5∧b≠g6) (fun b hb=>by omega)
     have i2:=I2.out.mono (G:=fun b=>(b≠g∧b≠z)∧b≠g5∧b≠g6) (fun b hb=>by omega)
     refine two_stores (n:=16) (u:=.bool k) (v1:=parr P1) (v2:=parr P2) (by kernel_rfl) (by kernel_rfl) (by kernel_rfl) (by kernel_rfl) rfl rfl rfl rfl rfl rfl rfl rfl rfl rfl rfl rfl rfl rfl rfl rfl rfl hb5 hb6 rfl rfl (by omega) (by kernel_rfl) (by kernel_rfl) (by first | rfl | simp [Value.oneCell']) (by first | rfl | simp [Value.oneCell']) (Ext.setAll (by omega) _ _ _ hv5) (Ext.setAll (by omega) _ _ _ (Ext.setAll (by omega) _ _ _ hv5)) (fun W k5 k6 hst=>NoPanic.normal ?_) _
     try simp only [Act.put,sA,s0,sS]
     have LF:Hid (Pair g z w c d W g5 g6 P1 P2):=Lib.hid ⟨k5,k6,by omega,by omega,by omega,hst.keeps _ _ _ i1 (fun h=>by omega) (fun h=>by omega),hst.keeps _ _ _ i2 (fun h=>by omega) (fun h=>by omega)⟩
     have hy:=hst.ext w hv5 (by omega) (by omega)
     clear hst i1 i2 k5 k6 sv0 hgl fSv1 fSv4 fEg6 fSv5 fEg5 Sv1 Sv4 Eg6 Sv5 Eg5
     go_wp2_with fail
     go_meet
     exact ⟨g5,g6,P1,P2,rfl,rfl,rfl,LF,hy⟩
  ·go_simp
   have hx0:Ext v0 (v0.alloc (.cells zcells 28)):=(Ext.refl v0).alloc _
   have hb5:Blk (v0.alloc (.cells zcells 28)) v0.heap.size 28 zcells:=Blk.new' rfl
   have sv6:(v0.alloc (.cells zcells 28)).heap.size=v0.heap.size+1:=by simp
   generalize v0.alloc (.cells zcells 28)=v6 at hx0 hb5 sv6 ⊢
   obtain ⟨g5,eg5⟩:∃ g,g=v0.heap.size:=⟨_,rfl⟩
   rw [← eg5] at hb5 ⊢
   have Eg5:=Lib.hid eg5
   have Sv6:=Lib.hid sv6
   clear eg5 sv6
   have hv6:=hv.trans hx0
   refine hK.out _ _ hv6 (fun _=>?_)
   clear hK hx0
   try simp only [Act.put,sA,s0,sS]
   refine wpAnyH_ready (rs:=[9,15]) (by kernel_rfl) (by simp) ?_
   refine (AllReadyH.cons rfl (fun K hK=>?_) (AllReadyH.cons rfl (fun K hK=>?_) AllReadyH.nil))
   ·go_simp
    refine (HC.out _ hv6).mono ?_
    rintro e v7 ⟨P1,P2,rfl,i1,i2,hx0⟩
    have I1:=Lib.hid i1.in
    have I2:=Lib.hid i2.in
    clear i1 i2
    have Sv7:=Lib.hid hx0.size_le
    have hv7:=hv6.trans hx0
    replace hb5:=hb5.ext hx0
    refine hK.out _ _ hv7 (fun _=>?_)
    clear hK hx0
    try simp only [Act.put,sA,s0,sS]
    refine tf (i:=10) (v:=(.tuple #[P1.v,P2.v,.bool k])) rfl rfl (fun _=>rfl) hv7 ?_
    try simp only [Act.put,sA,s0,sS]
    refine tf (i:=11) (v:=P1.v) rfl rfl (fun _=>rfl) hv7 ?_
    try simp only [Act.put,sA,s0,sS]
    refine tf (i:=12) (v:=P2.v) rfl rfl (fun _=>rfl) hv7 ?_
    try simp only [Act.put,sA,s0,sS]
    refine tf (i:=13) (v:=(.bool k)) rfl rfl (fun _=>rfl) hv7 ?_
    try simp only [Act.put,sA,s0,sS]
    refine wpAnyH_ready (rs:=[15]) (by kernel_rfl) (by simp) ?_
    refine (AllReadyH.cons rfl (fun K hK=>?_) AllReadyH.nil)
    ·go_simp
     have hx0:Ext v7 (v7.alloc (.cells zcells 28)):=(Ext.refl v7).alloc _
     have hb6:Blk (v7.alloc (.cells zcells 28)) v7.heap.size 28 zcells:=Blk.new' rfl
     have sv8:(v7.alloc (.cells zcells 28)).heap.size=v7.heap.size+1:=by simp
     generalize v7.alloc (.cells zcells 28)=v8 at hx0 hb6 sv8 ⊢
     obtain ⟨g6,eg6⟩:∃ g,g=v7.heap.size:=⟨_,rfl⟩
     rw [← eg6] at hb6 ⊢
     have Eg6:=Lib.hid eg6
     have Sv8:=Lib.hid sv8
     clear eg6 sv8
     have hv8:=hv7.trans hx0
     replace hb5:=hb5.ext hx0
     replace I1:=Lib.hid (I1.out.ext hx0)
     replace I2:=Lib.hid (I2.out.ext hx0)
     refine hK.out _ _ hv8 (fun _=>?_)
     clear hK hx0
     try simp only [Act.put,sA,s0,sS]
     have fSv6:=Sv6.out
     have fEg5:=Eg5.out
     have fSv7:=Sv7.out
     have fSv8:=Sv8.out
     have fEg6:=Eg6.out
     have sv0:=S0.out
     have hgl:=HL.out
     have i1:=I1.out.mono (G:=fun b=>(b≠g∧b≠z)∧b≠g5∧b≠g6) (fun b hb=>by omega)
     have i2:=I2.out.mono (G:=fun b=>(b≠g∧b≠z)∧b≠g5∧b≠g6) (fun b hb=>by omega)
     refine two_stores (n:=16) (u:=.bool k) (v1:=parr P1) (v2:=parr P2) (by kernel_rfl) (by kernel_rfl) (by kernel_rfl) (by kernel_rfl) rfl rfl rfl rfl rfl rfl rfl rfl rfl rfl rfl rfl rfl rfl rfl rfl rfl hb5 hb6 rfl rfl (by omega) (by kernel_rfl) (by kernel_rfl) (by first | rfl | simp [Value.oneCell']) (by first | rfl | simp [Value.oneCell']) (Ext.setAll (by omega) _ _ _ hv8) (Ext.setAll (by omega) _ _ _ (Ext.setAll (by omega) _ _ _ hv8)) (fun W k5 k6 hst=>NoPanic.normal ?_) _
     try simp only [Act.put,sA,s0,sS]
     have LF:Hid (Pair g z w c d W g5 g6 P1 P2):=Lib.hid ⟨k5,k6,by omega,by omega,by omega,hst.keeps _ _ _ i1 (fun h=>by omega) (fun h=>by omega),hst.keeps _ _ _ i2 (fun h=>by omega) (fun h=>by omega)⟩
     have hy:=hst.ext w hv8 (by omega) (by omega)
     clear hst i1 i2 k5 k6 sv0 hgl fSv6 fEg5 fSv7 fSv8 fEg6 Sv6 Eg5 Sv7 Sv8 Eg6
     go_wp2_with fail
     go_meet
     exact ⟨g5,g6,P1,P2,rfl,rfl,rfl,LF,hy⟩
   ·go_simp
    have hx0:Ext v6 (v6.alloc (.cells zcells 28)):=(Ext.refl v6).alloc _
    have hb6:Blk (v6.alloc (.cells zcells 28)) v6.heap.size 28 zcells:=Blk.new' rfl
    have sv9:(v6.alloc (.cells zcells 28)).heap.size=v6.heap.size+1:=by simp
    generalize v6.alloc (.cells zcells 28)=v9 at hx0 hb6 sv9 ⊢
    obtain ⟨g6,eg6⟩:∃ g,g=v6.heap.size:=⟨_,rfl⟩
    rw [← eg6] at hb6 ⊢
    have Eg6:=Lib.hid eg6
    have Sv9:=Lib.hid sv9
    clear eg6 sv9
    have hv9:=hv6.trans hx0
    replace hb5:=hb5.ext hx0
    refine hK.out _ _ hv9 (fun _=>?_)
    clear hK hx0
    try simp only [Act.put,sA,s0,sS]
    refine wpAnyH_ready (rs:=[9]) (by kernel_rfl) (by simp) ?_
    refine (AllReadyH.cons rfl (fun K hK=>?_) AllReadyH.nil)
    ·go_simp
     refine (HC.out _ hv9).mono ?_
     rintro e v10 ⟨P1,P2,rfl,i1,i2,hx0⟩
     have I1:=Lib.hid i1.in
     have I2:=Lib.hid i2.in
     clear i1 i2
     have Sv10:=Lib.hid hx0.size_le
     have hv10:=hv9.trans hx0
     replace hb5:=hb5.ext hx0
     replace hb6:=hb6.ext hx0
     refine hK.out _ _ hv10 (fun _=>?_)
     clear hK hx0
     try simp only [Act.put,sA,s0,sS]
     refine tf (i:=10) (v:=(.tuple #[P1.v,P2.v,.bool k])) rfl rfl (fun _=>rfl) hv10 ?_
     try simp only [Act.put,sA,s0,sS]
     refine tf (i:=11) (v:=P1.v) rfl rfl (fun _=>rfl) hv10 ?_
     try simp only [Act.put,sA,s0,sS]
     refine tf (i:=12) (v:=P2.v) rfl rfl (fun _=>rfl) hv10 ?_
     try simp only [Act.put,sA,s0,sS]
     refine tf (i:=13) (v:=(.bool k)) rfl rfl (fun _=>rfl) hv10 ?_
     try simp only [Act.put,sA,s0,sS]
     have fSv6:=Sv6.out
     have fEg5:=Eg5.out
     have fSv9:=Sv9.out
     have fEg6:=Eg6.out
     have fSv10:=Sv10.out
     have sv0:=S0.out
     have hgl:=HL.out
     have i1:=I1.out.mono (G:=fun b=>(b≠g∧b≠z)∧b≠g5∧b≠g6) (fun b hb=>by omega)
     have i2:=I2.out.mono (G:=fun b=>(b≠g∧b≠z)∧b≠g5∧b≠g6) (fun b hb=>by omega)
     refine two_stores (n:=16) (u:=.bool k) (v1:=parr P1) (v2:=parr P2) (by kernel_rfl) (by kernel_rfl) (by kernel_rfl) (by kernel_rfl) rfl rfl rfl rfl rfl rfl rfl rfl rfl rfl rfl rfl rfl rfl rfl rfl rfl hb5 hb6 rfl rfl (by omega) (by kernel_rfl) (by kernel_rfl) (by first | rfl | simp [Value.oneCell']) (by first | rfl | simp [Value.oneCell']) (Ext.setAll (by omega) _ _ _ hv10) (Ext.setAll (by omega) _ _ _ (Ext.setAll (by omega) _ _ _ hv10)) (fun W k5 k6 hst=>NoPanic.normal ?_) _
     try simp only [Act.put,sA,s0,sS]
     have LF:Hid (Pair g z w c d W g5 g6 P1 P2):=Lib.hid ⟨k5,k6,by omega,by omega,by omega,hst.keeps _ _ _ i1 (fun h=>by omega) (fun h=>by omega),hst.keeps _ _ _ i2 (fun h=>by omega) (fun h=>by omega)⟩
     have hy:=hst.ext w hv10 (by omega) (by omega)
     clear hst i1 i2 k5 k6 sv0 hgl fSv6 fEg5 fSv9 fEg6 fSv10 Sv6 Eg5 Sv9 Eg6 Sv10
     go_wp2_with fail
     go_meet
     exact ⟨g5,g6,P1,P2,rfl,rfl,rfl,LF,hy⟩
  ·go_simp
   have hx0:Ext v0 (v0.alloc (.cells zcells 28)):=(Ext.refl v0).alloc _
   have hb6:Blk (v0.alloc (.cells zcells 28)) v0.heap.size 28 zcells:=Blk.new' rfl
   have sv11:(v0.alloc (.cells zcells 28)).heap.size=v0.heap.size+1:=by simp
   generalize v0.alloc (.cells zcells 28)=v11 at hx0 hb6 sv11 ⊢
   obtain ⟨g6,eg6⟩:∃ g,g=v0.heap.size:=⟨_,rfl⟩
   rw [← eg6] at hb6 ⊢
   have Eg6:=Lib.hid eg6
   have Sv11:=Lib.hid sv11
   clear eg6 sv11
   have hv11:=hv.trans hx0
   refine hK.out _ _ hv11 (fun _=>?_)
   clear hK hx0
   try simp only [Act.put,sA,s0,sS]
   refine wpAnyH_ready (rs:=[9,14]) (by kernel_rfl) (by simp) ?_
   refine (AllReadyH.cons rfl (fun K hK=>?_) (AllReadyH.cons rfl (fun K hK=>?_) AllReadyH.nil))
   ·go_simp
    refine (HC.out _ hv11).mono ?_
    rintro e v12 ⟨P1,P2,rfl,i1,i2,hx0⟩
    have I1:=Lib.hid i1.in
    have I2:=Lib.hid i2.in
    clear i1 i2
    have Sv12:=Lib.hid hx0.size_le
    have hv12:=hv11.trans hx0
    replace hb6:=hb6.ext hx0
    refine hK.out _ _ hv12 (fun _=>?_)
    clear hK hx0
    try simp only [Act.put,sA,s0,sS]
    refine tf (i:=10) (v:=(.tuple #[P1.v,P2.v,.bool k])) rfl rfl (fun _=>rfl) hv12 ?_
    try simp only [Act.put,sA,s0,sS]
    refine tf (i:=11) (v:=P1.v) rfl rfl (fun _=>rfl) hv12 ?_
    try simp only [Act.put,sA,s0,sS]
    refine tf (i:=12) (v:=P2.v) rfl rfl (fun _=>rfl) hv12 ?_
    try simp only [Act.put,sA,s0,sS]
    refine tf (i:=13) (v:=(.bool k)) rfl rfl (fun _=>rfl) hv12 ?_
    try simp only [Act.put,sA,s0,sS]
    refine wpAnyH_ready (rs:=[14]) (by kernel_rfl) (by simp) ?_
    refine (AllReadyH.cons rfl (fun K hK=>?_) AllReadyH.nil)
    ·go_simp
     have hx0:Ext v12 (v12.alloc (.cells zcells 28)):=(Ext.refl v12).alloc _
     have hb5:Blk (v12.alloc (.cells zcells 28)) v12.heap.size 28 zcells:=Blk.new' rfl
     have sv13:(v12.alloc (.cells zcells 28)).heap.size=v12.heap.size+1:=by simp
     generalize v12.alloc (.cells zcells 28)=v13 at hx0 hb5 sv13 ⊢
     obtain ⟨g5,eg5⟩:∃ g,g=v12.heap.size:=⟨_,rfl⟩
     rw [← eg5] at hb5 ⊢
     have Eg5:=Lib.hid eg5
     have Sv13:=Lib.hid sv13
     clear eg5 sv13
     have hv13:=hv12.trans hx0
     replace hb6:=hb6.ext hx0
     replace I1:=Lib.hid (I1.out.ext hx0)
     replace I2:=Lib.hid (I2.out.ext hx0)
     refine hK.out _ _ hv13 (fun _=>?_)
     clear hK hx0
     try simp only [Act.put,sA,s0,sS]
     have fSv11:=Sv11.out
     have fEg6:=Eg6.out
     have fSv12:=Sv12.out
     have fSv13:=Sv13.out
     have fEg5:=Eg5.out
     have sv0:=S0.out
     have hgl:=HL.out
     have i1:=I1.out.mono (G:=fun b=>(b≠g∧b≠z)∧b≠g5∧b≠g6) (fun b hb=>by omega)
     have i2:=I2.out.mono (G:=fun b=>(b≠g∧b≠z)∧b≠g5∧b≠g6) (fun b hb=>by omega)
     refine two_stores (n:=16) (u:=.bool k) (v1:=parr P1) (v2:=parr P2) (by kernel_rfl) (by kernel_rfl) (by kernel_rfl) (by kernel_rfl) rfl rfl rfl rfl rfl rfl rfl rfl rfl rfl rfl rfl rfl rfl rfl rfl rfl hb5 hb6 rfl rfl (by omega) (by kernel_rfl) (by kernel_rfl) (by first | rfl | simp [Value.oneCell']) (by first | rfl | simp [Value.oneCell']) (Ext.setAll (by omega) _ _ _ hv13) (Ext.setAll (by omega) _ _ _ (Ext.setAll (by omega) _ _ _ hv13)) (fun W k5 k6 hst=>NoPanic.normal ?_) _
     try simp only [Act.put,sA,s0,sS]
     have LF:Hid (Pair g z w c d W g5 g6 P1 P2):=Lib.hid ⟨k5,k6,by omega,by omega,by omega,hst.keeps _ _ _ i1 (fun h=>by omega) (fun h=>by omega),hst.keeps _ _ _ i2 (fun h=>by omega) (fun h=>by omega)⟩
     have hy:=hst.ext w hv13 (by omega) (by omega)
     clear hst i1 i2 k5 k6 sv0 hgl fSv11 fEg6 fSv12 fSv13 fEg5 Sv11 Eg6 Sv12 Sv13 Eg5
     go_wp2_with fail
     go_meet
     exact ⟨g5,g6,P1,P2,rfl,rfl,rfl,LF,hy⟩
   ·go_simp
    have hx0:Ext v11 (v11.alloc (.cells zcells 28)):=(Ext.refl v11).alloc _
    have hb5:Blk (v11.alloc (.cells zcells 28)) v11.heap.size 28 zcells:=Blk.new' rfl
    have sv14:(v11.alloc (.cells zcells 28)).heap.size=v11.heap.size+1:=by simp
    generalize v11.alloc (.cells zcells 28)=v14 at hx0 hb5 sv14 ⊢
    obtain ⟨g5,eg5⟩:∃ g,g=v11.heap.size:=⟨_,rfl⟩
    rw [← eg5] at hb5 ⊢
    have Eg5:=Lib.hid eg5
    have Sv14:=Lib.hid sv14
    clear eg5 sv14
    have hv14:=hv11.trans hx0
    replace hb6:=hb6.ext hx0
    refine hK.out _ _ hv14 (fun _=>?_)
    clear hK hx0
    try simp only [Act.put,sA,s0,sS]
    refine wpAnyH_ready (rs:=[9]) (by kernel_rfl) (by simp) ?_
    refine (AllReadyH.cons rfl (fun K hK=>?_) AllReadyH.nil)
    ·go_simp
     refine (HC.out _ hv14).mono ?_
     rintro e v15 ⟨P1,P2,rfl,i1,i2,hx0⟩
     have I1:=Lib.hid i1.in
     have I2:=Lib.hid i2.in
     clear i1 i2
     have Sv15:=Lib.hid hx0.size_le
     have hv15:=hv14.trans hx0
     replace hb6:=hb6.ext hx0
     replace hb5:=hb5.ext hx0
     refine hK.out _ _ hv15 (fun _=>?_)
     clear hK hx0
     try simp only [Act.put,sA,s0,sS]
     refine tf (i:=10) (v:=(.tuple #[P1.v,P2.v,.bool k])) rfl rfl (fun _=>rfl) hv15 ?_
     try simp only [Act.put,sA,s0,sS]
     refine tf (i:=11) (v:=P1.v) rfl rfl (fun _=>rfl) hv15 ?_
     try simp only [Act.put,sA,s0,sS]
     refine tf (i:=12) (v:=P2.v) rfl rfl (fun _=>rfl) hv15 ?_
     try simp only [Act.put,sA,s0,sS]
     refine tf (i:=13) (v:=(.bool k)) rfl rfl (fun _=>rfl) hv15 ?_
     try simp only [Act.put,sA,s0,sS]
     have fSv11:=Sv11.out
     have fEg6:=Eg6.out
     have fSv14:=Sv14.out
     have fEg5:=Eg5.out
     have fSv15:=Sv15.out
     have sv0:=S0.out
     have hgl:=HL.out
     have i1:=I1.out.mono (G:=fun b=>(b≠g∧b≠z)∧b≠g5∧b≠g6) (fun b hb=>by omega)
     have i2:=I2.out.mono (G:=fun b=>(b≠g∧b≠z)∧b≠g5∧b≠g6) (fun b hb=>by omega)
     refine two_stores (n:=16) (u:=.bool k) (v1:=parr P1) (v2:=parr P2) (by kernel_rfl) (by kernel_rfl) (by kernel_rfl) (by kernel_rfl) rfl rfl rfl rfl rfl rfl rfl rfl rfl rfl rfl rfl rfl rfl rfl rfl rfl hb5 hb6 rfl rfl (by omega) (by kernel_rfl) (by kernel_rfl) (by first | rfl | simp [Value.oneCell']) (by first | rfl | simp [Value.oneCell']) (Ext.setAll (by omega) _ _ _ hv15) (Ext.setAll (by omega) _ _ _ (Ext.setAll (by omega) _ _ _ hv15)) (fun W k5 k6 hst=>NoPanic.normal ?_) _
     try simp only [Act.put,sA,s0,sS]
     have LF:Hid (Pair g z w c d W g5 g6 P1 P2):=Lib.hid ⟨k5,k6,by omega,by omega,by omega,hst.keeps _ _ _ i1 (fun h=>by omega) (fun h=>by omega),hst.keeps _ _ _ i2 (fun h=>by omega) (fun h=>by omega)⟩
     have hy:=hst.ext w hv15 (by omega) (by omega)
     clear hst i1 i2 k5 k6 sv0 hgl fSv11 fEg6 fSv14 fEg5 fSv15 Sv11 Eg6 Sv14 Eg5 Sv15
     go_wp2_with fail
     go_meet
     exact ⟨g5,g6,P1,P2,rfl,rfl,rfl,LF,hy⟩
 case rest=>
  obtain ⟨g5,g6,P1,P2,rfl,rfl,rfl,HP,hx0⟩:=hcut
  clear hx HC RA RB
  have hx:=hx0
  clear hx0
  cases k
  ·have HZ:Hid (SW=none):=Lib.hid (by rw [HS.out];rfl)
   go_wp2_with fail
   refine bodyPost_ret (v:=.bool false) (by simp only [results,Tryz.results54];go_simp) rfl ?_
   rw [HZ.out]
   exact ⟨rfl,Lib.hid (H.out.ext hx),Lib.hid (Kept.of_ext hx)⟩
  ·have HZ:Hid (SW=some ((l.set i c).set (i+1) d)):=Lib.hid (by rw [HS.out];rfl)
   obtain ⟨hb5,hb6,hne,l5,l6,i1,i2⟩:=HP.out
   have hgl:=HL.out
   have I1:=Lib.hid i1
   have I2:=Lib.hid i2
   have NE:=Lib.hid (show g5≠g∧g6≠g∧g5≠g6 from ⟨by omega,by omega,hne⟩)
   clear HP HS hne l5 l6 i1 i2 hgl
   have HO:=Lib.hid (H.out.ext hx)
   clear H
   go_wp2_with fail
   refine wp_region_noPanic (wp_region_held_drew (S:=fun w'=>Blk w' g5 28 (parr P1)∧Blk w' g6 28 (parr P2)) (by kernel_rfl) ⟨hb5.drew,hb6.drew⟩ (fun hv=>?_))
   have hd:Ext wc wc.drew:=(Ext.refl wc).drew1
   generalize wc.drew=v0 at hv hd ⊢
   refine tf (i:=0) (v:=(.slice (some ⟨g,0,none⟩) n cap)) rfl rfl (fun _=>rfl) hv ?_
   try simp only [Act.put,sA,s0,sS]
   refine tf (i:=1) (v:=(.int .i64 i)) rfl rfl (fun _=>rfl) hv ?_
   try simp only [Act.put,sA,s0,sS]
   refine tf (i:=2) (v:=(.slice (some ⟨g,0,none⟩) n cap)) rfl rfl (fun _=>rfl) hv ?_
   try simp only [Act.put,sA,s0,sS]
   refine tf (i:=3) (v:=(.int .i64 i)) rfl rfl (fun _=>rfl) hv ?_
   try simp only [Act.put,sA,s0,sS]
   refine take_next (i:=4) i rfl rfl rfl (by kernel_rfl) (by kernel_rfl) (by kernel_rfl) (by kernel_rfl) rfl hi1 hv (fun w=>by unfold execOp;simp [go_sem,IntKind.wrap_i64];omega) ?_
   try simp only [Act.put,sA,s0,sS]
   refine tl (i:=5) (parr P1).toList rfl rfl rfl rfl rfl Tryz.underlying28 rfl (fun _ h=>h.1.range 0 _ (fun j _=>by rw [Nat.zero_add,Array.getElem?_toList])) hv ?_
   try simp only [Act.put,sA,s0,sS]
   refine tl (i:=6) (parr P2).toList rfl rfl rfl rfl rfl Tryz.underlying28 rfl (fun _ h=>h.2.range 0 _ (fun j _=>by rw [Nat.zero_add,Array.getElem?_toList])) hv ?_
   try simp only [Act.put,sA,s0,sS]
   refine ti (i:=7) g 0 n cap (i) rfl rfl rfl rfl rfl hi0 Tryz.underlying37 hv ?_
   try simp only [Act.put,sA,s0,sS]
   have ho:=HO.out.ext hd
   have q1:=(I1.out.ext hd).mono (G:=fun b=>b≠g∧b≠z) (fun b hb=>hb.1)
   have q2:=(I2.out.ext hd).mono (G:=fun b=>b≠g∧b≠z) (fun b hb=>hb.1)
   have hlen:=HN.out
   have ho1:=ho.put (i:=i) (by omega) q1
   have q2':=(Kept.set g v0 (i * 12) (parr P1).toList).isZ _ _ q2
   have ho2:=ho1.put (i:=i+1) (by rw [List.length_set];omega) q2'
   have hk:=(Kept.of_ext (g:=g) (hx.trans hd)).trans ((Kept.set g v0 (i * 12) (parr P1).toList).trans (Kept.set g _ ((i+1) * 12) (parr P2).toList))
   have ne:=NE.out
   have m5:Blk (v0.setCells g (i * 12) (parr P1).toList) g5 28 (parr P1):=Blk.farAll (w:=v0) ne.1 _ _ _ hv.1
   have m6:Blk (v0.setCells g (i * 12) (parr P1).toList) g6 28 (parr P2):=Blk.farAll (w:=v0) ne.2.1 _ _ _ hv.2
   have HO2:=Lib.hid ho2
   have HK:=Lib.hid hk
   have t1:v0.there g (i * 12) 12:=by
    obtain ⟨ps,h1,h2,_⟩:=ho
    exact there_of h2 (by rw [flat_length];omega)
   have t2:(v0.setCells g (i * 12) (parr P1).toList).there g ((i+1) * 12) 12:=by
    obtain ⟨ps,h1,h2,_⟩:=ho1
    rw [List.length_set] at h1
    exact there_of h2 (by rw [flat_length];omega)
   clear ho ho1 ho2 q1 q2 q2' hk hlen HO I1 I2 NE
   refine wpAnyH_one (i:=8) (by kernel_rfl) rfl (by kernel_rfl) ?_
   refine wp_store_mid _ _ _ rfl g (0+i * 12) (parr P1) rfl rfl (by rw [Nat.zero_add];exact t1) (by kernel_rfl) (by first | rfl | simp [Value.oneCell']) ?_
   rw [Nat.zero_add]
   refine ⟨⟨m5,m6⟩,?_⟩
   try simp only [Act.put,sA,s0,sS]
   generalize hv1:v0.setCells g (i * 12) (parr P1).toList=v1 at m5 m6 t2 HO2 HK ⊢
   clear hv
   refine ti (i:=9) g 0 n cap (i+1) rfl rfl rfl rfl rfl hi Tryz.underlying37 ⟨m5,m6⟩ ?_
   try simp only [Act.put,sA,s0,sS]
   refine wpAnyH_one (i:=10) (by kernel_rfl) rfl (by kernel_rfl) ?_
   refine wp_store_mid _ _ _ rfl g (0+(i+1) * 12) (parr P2) rfl rfl (by rw [Nat.zero_add];exact t2) (by kernel_rfl) (by first | rfl | simp [Value.oneCell']) ?_
   rw [Nat.zero_add]
   refine ⟨⟨Blk.farAll (w:=v1) ne.1 _ _ _ m5,Blk.farAll (w:=v1) ne.2.1 _ _ _ m6⟩,?_⟩
   try simp only [Act.put,sA,s0,sS]
   refine wpAnyH_done (by kernel_rfl) (NoPanic.normal ?_) _
   generalize v1.setCells g ((i+1) * 12) (parr P2).toList=v2 at HO2 HK ⊢
   clear m5 m6 t1 t2 ne hb5 hb6 hd hv1
   go_wp2_with fail
   refine bodyPost_ret (v:=.bool true) (by simp only [results,Tryz.results54];go_simp) rfl ?_
   rw [HZ.out]
   exact ⟨rfl,HO2,HK⟩
end Go.Proofs.YtfmgnaigcibcaaaGreatDoor
namespace Go.Proofs.YtfmgnaigcibcaaaGreatDoor
open Go Go.RowKit
attribute [local go_sem ↓] Go.wp_at_zero Go.wp_at_succ
def Moved (R:Option (List Qp)) (n:Nat) (w:World) (e:Ending) (w':World):Prop:=
 ((R=none∧e=.returned (.tuple #[.slice none 0 0,.bool false]))∨∃ m g,R=some m∧e=.returned (.tuple #[.slice (some ⟨g,0,none⟩) n n,.bool true])∧w.heap.size≤g∧Hid (OwnL w' g m))∧Ext w w'
def MovedZ (z:Nat) (R:Option (List Qp)) (n:Nat) (w:World) (e:Ending) (w':World):Prop:=
 ((R=none∧e=.returned (.tuple #[.slice none 0 0,.bool false]))∨∃ m g,R=some m∧e=.returned (.tuple #[.slice (some ⟨g,0,none⟩) n n,.bool true])∧w.heap.size≤g∧Hid (OwnZ z w' g m))∧Ext w w'
set_option maxHeartbeats 16000000 in
set_option maxRecDepth 100000 in
theorem move_z (z:Nat) (A:Option Addr) (n c i k:Nat) (l:List Qp) (w:World) (hz:z≤w.heap.size) (hg:Glob w) {F:Nat→Prop} (h:Qs w F A l) (hF:∀ b,F b→b < w.heap.size→b≠z) (hn:l.length=n) (hi:i < n) (hk:k < n) (hb:n≤1000000000000) (hf:∀ q∈l,q.Fits):
 Calls Tryz.prog 24 #[.slice A n c,.int .i64 i,.int .i64 k] w (MovedZ z (Sq.move l i k) n w):=by
 have H:=Lib.hid (h.in.mono (G:=fun b=>b < w.heap.size∧b≠z) fun b h=>⟨h.2,hF b h.1 h.2⟩)
 have HZ0:=Lib.hid hz
 have HG:=Lib.hid hg
 have HF:=Lib.hid hf
 have HN:=Lib.hid hn
 have HR:Hid (Sq.move l i k=if i≤k then Sq.right (k - i) l i else Sq.left (i - k) l i):=Lib.hid (by unfold Sq.move;rw [if_pos ⟨by omega,by omega⟩])
 generalize Sq.move l i k=R at HR ⊢
 clear h hg hf hn hz hF
 have hpos:0 < n:=by omega
 have c1:((i:Int) < 0)=False:=eq_false (by omega)
 have c2:((n:Int)≤(i:Int))=False:=eq_false (by omega)
 have c3:((k:Int) < 0)=False:=eq_false (by omega)
 have c4:((n:Int)≤(k:Int))=False:=eq_false (by omega)
 go_enter Tryz.func24,Tryz.ntmps24
 have hx:=Ext.refl w
 go_wp2_with (first
  | (refine wpList_make12 _ rfl _ _ 37 rfl 28 (.agg zcells) Tryz.underlying37 (by kernel_rfl) n rfl rfl hb ?_;intro w1 cur hx1 hcur hsz)
  | (refine wpList_copy12 _ rfl _ _ 37 37 rfl 28 Tryz.underlying37 (by kernel_rfl) w.heap.size n n c A rfl rfl cur hcur hsz hpos l HN.out (H.out.ext hx1) (z:=z) (fun b hb=>⟨by have :=hb.1;omega,hb.2⟩) ?_;intro w2 hown hkept))
 obtain ⟨g,eg⟩:∃ g,g=w.heap.size:=⟨_,rfl⟩
 rw [← eg] at hown hkept ⊢
 have hx2:Ext w w2:=hkept.ext w hx1 (by omega)
 have HO:=Lib.hid hown
 have EG:=Lib.hid (show w.heap.size≤g by omega)
 clear hx hx1 hcur hsz hown hkept eg H
 have hx:=hx2
 clear hx2
 try simp only [Act.put,sA,s0,sS]
 go_loopw [1] (fun u1 wr=>∃ (j:Nat) (m:List Qp),u1=.int .i64 j∧i≤j∧(j≤k∨j=i)∧Hid (Sq.right (j - i) l i=some m)∧Hid (OwnZ z wr g m)∧Ext w wr∧Hid (∀ q∈m,q.Fits)∧m.length=n) (fun u1 wr=>k - (intOf u1).toNat)
 case atStart=>exact ⟨i,l,rfl,Nat.le_refl _,.inr rfl,Lib.hid (by rw [Nat.sub_self];rfl),HO,hx,HF,HN.out⟩
 case round=>
  clear HO hx
  obtain ⟨j,m,rfl,hij,hjk,HRt,HOm,hx,HFm,hm⟩:=hrel
  by_cases hlt:j < k
  ·have HS:=Lib.hid (fun W (hW:Ext w W) (ho:OwnZ z W g m)=>swap_any g n n j m W (HG.out.ext hW) ho hm (by omega) (by omega) HFm.out (by have :=ho.lt;have:=EG.out;have:=HZ0.out;omega))
   have HM:=Lib.hid hm
   clear hm
   go_wp2_with fail
   refine (HS.out _ hx HOm.out).mono ?_
   rintro e w3 ⟨rfl,ho3,hk3⟩
   have hx3:=hk3.out.ext w hx EG.out
   clear HS hk3
   cases es:Sq.swap m j with
   | none=>
     have ES:=Lib.hid es
     rw [es] at ho3
     clear es
     go_wp2_with fail
     refine bodyPost_ret (v:=.tuple #[.slice none 0 0,.bool false]) (by simp only [results,Tryz.results24];go_simp) rfl ?_
     exact ⟨.inl ⟨HR.out.trans (by rw [if_pos (by omega)];exact Sq.right_dies hij hlt HRt.out ES.out),rfl⟩,hx3⟩
   | some m2=>
     have ES:=Lib.hid es
     rw [es] at ho3
     clear es
     go_wp2_with fail
     go_roundw
     case rel=>
      (repeat apply Exists.intro)
      exact ⟨⟨j+1,m2,rfl,by omega,.inl hlt,Lib.hid ((Sq.right_step hij HRt.out).trans ES.out),ho3,hx3,Lib.hid (Sq.swap_fits (by rw [HM.out];omega) ES.out HFm.out),(Sq.swap_length ES.out).trans HM.out⟩,rfl⟩
     case measure=>simp [intOf];omega
  ·have HT:Hid ((i≤k∧j=k∧Sq.right (k - i) l i=some m)∨(k < i∧j≤i∧Sq.left (i - j) l i=some m)):=Lib.hid (by
    by_cases hik:i≤k
    ·have:j=k:=by omega
     subst this
     exact .inl ⟨hik,rfl,HRt.out⟩
    ·have:j=i:=by omega
     subst this
     have h0:=HRt.out
     rw [Nat.sub_self] at h0
     exact .inr ⟨by omega,Nat.le_refl _,by rw [Nat.sub_self];exact h0⟩)
   have hkj:k≤j:=by omega
   clear HRt hij hjk
   go_wp2_with fail
   go_loopw [1] (fun u1 wr=>∃ (t:Nat) (m:List Qp),u1=.int .i64 t∧k≤t∧Hid ((i≤k∧t=k∧Sq.right (k - i) l i=some m)∨(k < i∧t≤i∧Sq.left (i - t) l i=some m))∧Hid (OwnZ z wr g m)∧Ext w wr∧Hid (∀ q∈m,q.Fits)∧m.length=n) (fun u1 wr=>(intOf u1).toNat - k)
   case atStart=>exact ⟨j,m,rfl,hkj,HT,HOm,hx,HFm,hm⟩
   case round=>
    clear HT HOm hx HFm hm hlt hkj
    obtain ⟨t,m,rfl,hkt,HT,HOm,hx,HFm,hm⟩:=hrel
    by_cases hlt:k < t
    ·obtain ⟨t,rfl⟩:∃ t',t=t'+1:=⟨t - 1,by omega⟩
     have HT2:Hid (t+1≤i∧Sq.left (i - (t+1)) l i=some m):=Lib.hid (by
      rcases HT.out with ⟨_,h1,_⟩ | ⟨_,h1,h2⟩
      ·omega
      ·exact ⟨h1,h2⟩)
     have hti:t+1≤i:=HT2.out.1
     have hkt':k≤t:=by omega
     have HS:=Lib.hid (fun W (hW:Ext w W) (ho:OwnZ z W g m)=>swap_any g n n t m W (HG.out.ext hW) ho hm (by omega) (by omega) HFm.out (by have :=ho.lt;have:=EG.out;have:=HZ0.out;omega))
     have HM:=Lib.hid hm
     have HK2:=Lib.hid (show ¬ i≤k by omega)
     clear hm HT
     go_wp2_with fail
     refine (HS.out _ hx HOm.out).mono ?_
     rintro e w3 ⟨rfl,ho3,hk3⟩
     have hx3:=hk3.out.ext w hx EG.out
     clear HS hk3
     cases es:Sq.swap m t with
     | none=>
       have ES:=Lib.hid es
       rw [es] at ho3
       clear es
       go_wp2_with fail
       refine bodyPost_ret (v:=.tuple #[.slice none 0 0,.bool false]) (by simp only [results,Tryz.results24];go_simp) rfl ?_
       exact ⟨.inl ⟨HR.out.trans (by rw [if_neg HK2.out];exact Sq.left_dies HT2.out.1 hkt' HT2.out.2 ES.out),rfl⟩,hx3⟩
     | some m2=>
       have ES:=Lib.hid es
       rw [es] at ho3
       clear es
       go_wp2_with fail
       go_roundw
       case rel=>
        (repeat apply Exists.intro)
        exact ⟨⟨t,m2,rfl,hkt',Lib.hid (.inr ⟨by omega,by omega,(Sq.left_step HT2.out.1 HT2.out.2).trans ES.out⟩),ho3,hx3,Lib.hid (Sq.swap_fits (by rw [HM.out];omega) ES.out HFm.out),(Sq.swap_length ES.out).trans HM.out⟩,rfl⟩
       case measure=>simp [intOf];omega
    ·have HZ:Hid (R=some m):=Lib.hid (HR.out.trans (by
      rcases HT.out with ⟨h0,h1,h2⟩ | ⟨h0,h1,h2⟩
      ·rw [if_pos h0]
       exact h2
      ·have:t=k:=by omega
       subst this
       rw [if_neg (by omega)]
       exact h2))
     clear HT hm
     go_wp2_with fail
     refine bodyPost_ret (v:=.tuple #[.slice (some ⟨g,0,none⟩) n n,.bool true]) (by simp only [results,Tryz.results24];go_simp) rfl ?_
     exact ⟨.inr ⟨m,g,HZ.out,rfl,EG.out,HOm⟩,hx⟩
theorem move_any (A:Option Addr) (n c i k:Nat) (l:List Qp) (w:World) (hg:Glob w) {F:Nat→Prop} (h:Qs w F A l) (hn:l.length=n) (hi:i < n) (hk:k < n) (hb:n≤1000000000000) (hf:∀ q∈l,q.Fits):
 Calls Tryz.prog 24 #[.slice A n c,.int .i64 i,.int .i64 k] w (Moved (Sq.move l i k) n w):=by
 refine (move_z w.heap.size A n c i k l w (Nat.le_refl _) hg h (fun b _ h=>Nat.ne_of_lt h) hn hi hk hb hf).mono ?_
 rintro e w' ⟨h | ⟨m,g,h1,h2,h3,h4⟩,hx⟩
 ·exact ⟨.inl h,hx⟩
 ·exact ⟨.inr ⟨m,g,h1,h2,h3,Lib.hid h4.out.own⟩,hx⟩
end Go.Proofs.YtfmgnaigcibcaaaGreatDoor
namespace Go.Proofs.YtfmgnaigcibcaaaGreatDoor
open Go.RowKit
def Qp.alike (a b:Qp):Bool:=
 a.kind == b.kind && (Qm.eqB a.path b.path && (Qm.eqB a.to_ b.to_ && (a.ty == b.ty && (a.off == b.off && (Qm.eqB a.so b.so && (Qm.eqB a.sn b.sn && (a.om == b.om && (a.nm == b.nm &&
  (a.at_ == b.at_ && (decide (a.old=b.old) && decide (a.new=b.new)))))))))))
theorem alike_same (a b:Qp):a.alike b=a.same b:=by
 rw [Bool.eq_iff_iff]
 unfold Qp.alike Qp.same
 simp only [Bool.and_eq_true]
 constructor
 ·rintro ⟨h1,h2,h3,h4,h5,h6,h7,h8,h9,h10,h11,h12⟩
  exact ⟨h1,h2,h3,h4,h10,h11,h12,h5,h6,h7,h8,h9⟩
 ·rintro ⟨h1,h2,h3,h4,h10,h11,h12,h5,h6,h7,h8,h9⟩
  exact ⟨h1,h2,h3,h4,h5,h6,h7,h8,h9,h10,h11,h12⟩
set_option maxHeartbeats 8000000 in
set_option maxRecDepth 100000 in
theorem sequalp_any (p p':Pv) (a b:Qp) (w:World) {F G:Nat→Prop} (h1:Is w F p a) (h2:Is w G p' b) (b1:a.old.length≤1152921504606846976) (b2:a.new.length≤1152921504606846976) (b3:b.old.length≤1152921504606846976) (b4:b.new.length≤1152921504606846976):
 Calls Tryz.prog 89 #[p.v,p'.v] w (Ret (.bool (a.same b)) w):=by
 rw [← alike_same]
 obtain ⟨A1,c1,A2,c2,rfl,⟨s1,s2⟩,_⟩:=h1
 obtain ⟨B1,d1,B2,d2,rfl,⟨t1,t2⟩,_⟩:=h2
 have q1:∀ W,Ext w W→Calls Tryz.prog 97 #[.slice A1 a.old.length c1,.slice B1 b.old.length d1] W (Ret (.bool (decide (a.old=b.old))) W):=fun W hW=>sequal_any _ _ _ _ _ _ _ _ W (s1.ext hW).1 (t1.ext hW).1 b1 b3
 have q2:∀ W,Ext w W→Calls Tryz.prog 97 #[.slice A2 a.new.length c2,.slice B2 b.new.length d2] W (Ret (.bool (decide (a.new=b.new))) W):=fun W hW=>sequal_any _ _ _ _ _ _ _ _ W (s2.ext hW).1 (t2.ext hW).1 b2 b4
 have HM:Hid (a.alike b=_):=Lib.hid (by unfold Qp.alike;rfl)
 generalize a.alike b=R at HM ⊢
 generalize decide (a.old=b.old)=x1 at q1 HM
 generalize decide (a.new=b.new)=x2 at q2 HM
 have Q1:=Lib.hid q1
 have Q2:=Lib.hid q2
 clear q1 q2 s1 s2 t1 t2
 go_enter Tryz.func89,Tryz.ntmps89
 have hx:=Ext.refl w
 go_upto_region 1 with fail
 obtain ⟨W0,hW0⟩:∃ W0:World,(w.alloc (.cells #[.int .i64 a.kind,.string a.path,.string a.to_,.int .i64 a.ty,.int .i64 a.at_,.slice A1 a.old.length c1,.slice A2 a.new.length c2,.int .i64 a.off,.string a.so,.string a.sn,.int .i64 a.om,.int .i64 a.nm] 28)).alloc (.cells #[.int .i64 b.kind,.string b.path,.string b.to_,.int .i64 b.ty,.int .i64 b.at_,.slice B1 b.old.length d1,.slice B2 b.new.length d2,.int .i64 b.off,.string b.so,.string b.sn,.int .i64 b.om,.int .i64 b.nm] 28)=W0:=⟨_,rfl⟩
 have HX0:Hid (Ext w W0):=Lib.hid (by rw [← hW0];exact EX)
 have HC0:Hid (∀ W,Ext W0 W→∀ i,W.cell? ⟨w.heap.size,i,none⟩=#[.int .i64 a.kind,.string a.path,.string a.to_,.int .i64 a.ty,.int .i64 a.at_,.slice A1 a.old.length c1,.slice A2 a.new.length c2,.int .i64 a.off,.string a.so,.string a.sn,.int .i64 a.om,.int .i64 a.nm][i]?):=Lib.hid (fun W hW=>(Blk.ext hW (by rw [← hW0];exact Blk.alloc (Blk.new' rfl) _)).cell)
 have HC1:Hid (∀ W,Ext W0 W→∀ i,W.cell? ⟨w.heap.size+1,i,none⟩=#[.int .i64 b.kind,.string b.path,.string b.to_,.int .i64 b.ty,.int .i64 b.at_,.slice B1 b.old.length d1,.slice B2 b.new.length d2,.int .i64 b.off,.string b.so,.string b.sn,.int .i64 b.om,.int .i64 b.nm][i]?):=Lib.hid (fun W hW=>(Blk.ext hW (by rw [← hW0];exact Blk.new' (by simp))).cell)
 rw [hW0]
 clear hW0 hx
 refine wp_region_ext_text ?_
 simp only [List.append_eq,List.cons_append,List.nil_append]
 refine wpQuiet_cut 6 (fun a'=>∃ x:Bool,Hid (x=(a.kind == b.kind))∧∃ u:Nat→Value,a'=⟨#[(a.pv A1 c1 A2 c2).v,(b.pv B1 d1 B2 d2).v,.pointer (some ⟨w.heap.size,0,none⟩),.pointer (some ⟨w.heap.size+1,0,none⟩),.bool false,u 5,u 6,u 7,u 8,u 9,.bool x,u 11,u 12,u 13,u 14,u 15,u 16,u 17,u 18,u 19,u 20,u 21,u 22,u 23,u 24,u 25,u 26,u 27,u 28,u 29,u 30,u 31,u 32,u 33,u 34,u 35,u 36,u 37,u 38,u 39,u 40,u 41,u 42,u 43,u 44,u 45,u 46,u 47,u 48,u 49,u 50,u 51,u 52,u 53,u 54,u 55,u 56,u 57,u 58,u 59,u 60,u 61,u 62,u 63,u 64,u 65,u 66,u 67,u 68,u 69,u 70,u 71,u 72,u 73,u 74,u 75,u 76,u 77,u 78,u 79,u 80,u 81,u 82,u 83,u 84,u 85,u 86,u 87,u 88,u 89,u 90,u 91,u 92],[]⟩) ?_ ?_
 ·simp only [List.take_succ_cons,List.take_zero]
  repeat (first | go_big_quiet_skip | (go_big_quiet_want;first | (go_big_quiet_op;go_big_quiet_on) | (apply quiet_at;intro W hW;have hc0:=HC0.out W hW;have hc1:=HC1.out W hW;go_simp;(first | exact rfl | (simp only [Oper.quietUpon,true_and];first | exact rfl | (fail)) | (fail));go_big_quiet_on;simp only [Act.put,sA,s0,sS])))
  refine wpQuiet_nil ⟨_,Lib.hid rfl,?_⟩
  refine frame_u ?_
  rfl
 rintro _ ⟨x,HXV,u,rfl⟩
 simp only [List.drop_succ_cons,List.drop_zero]
 refine wpQuiet_cut 7 (fun a'=>∃ x:Bool,Hid (x=((a.kind == b.kind) && (Qm.eqB a.path b.path)))∧∃ u:Nat→Value,a'=⟨#[(a.pv A1 c1 A2 c2).v,(b.pv B1 d1 B2 d2).v,.pointer (some ⟨w.heap.size,0,none⟩),.pointer (some ⟨w.heap.size+1,0,none⟩),.bool false,u 5,u 6,u 7,u 8,u 9,u 10,u 11,u 12,u 13,u 14,u 15,u 16,.bool x,u 18,u 19,u 20,u 21,u 22,u 23,u 24,u 25,u 26,u 27,u 28,u 29,u 30,u 31,u 32,u 33,u 34,u 35,u 36,u 37,u 38,u 39,u 40,u 41,u 42,u 43,u 44,u 45,u 46,u 47,u 48,u 49,u 50,u 51,u 52,u 53,u 54,u 55,u 56,u 57,u 58,u 59,u 60,u 61,u 62,u 63,u 64,u 65,u 66,u 67,u 68,u 69,u 70,u 71,u 72,u 73,u 74,u 75,u 76,u 77,u 78,u 79,u 80,u 81,u 82,u 83,u 84,u 85,u 86,u 87,u 88,u 89,u 90,u 91,u 92],[]⟩) ?_ ?_
 ·simp only [List.take_succ_cons,List.take_zero]
  cases x
  all_goals
   repeat (first | go_big_quiet_skip | (go_big_quiet_want;first | (go_big_quiet_op;go_big_quiet_on) | (apply quiet_at;intro W hW;have hc0:=HC0.out W hW;have hc1:=HC1.out W hW;go_simp;(first | exact rfl | (simp only [Oper.quietUpon,true_and];first | exact rfl | (fail)) | (fail));go_big_quiet_on;simp only [Act.put,sA,s0,sS])))
   refine wpQuiet_nil ⟨_,Lib.hid (by rw [← HXV.out]),?_⟩
   refine frame_u ?_
   rfl
 rintro _ ⟨x,HXV,u,rfl⟩
 simp only [List.drop_succ_cons,List.drop_zero]
 refine wpQuiet_cut 7 (fun a'=>∃ x:Bool,Hid (x=(((a.kind == b.kind) && (Qm.eqB a.path b.path)) && (Qm.eqB a.to_ b.to_)))∧∃ u:Nat→Value,a'=⟨#[(a.pv A1 c1 A2 c2).v,(b.pv B1 d1 B2 d2).v,.pointer (some ⟨w.heap.size,0,none⟩),.pointer (some ⟨w.heap.size+1,0,none⟩),.bool false,u 5,u 6,u 7,u 8,u 9,u 10,u 11,u 12,u 13,u 14,u 15,u 16,u 17,u 18,u 19,u 20,u 21,u 22,u 23,.bool x,u 25,u 26,u 27,u 28,u 29,u 30,u 31,u 32,u 33,u 34,u 35,u 36,u 37,u 38,u 39,u 40,u 41,u 42,u 43,u 44,u 45,u 46,u 47,u 48,u 49,u 50,u 51,u 52,u 53,u 54,u 55,u 56,u 57,u 58,u 59,u 60,u 61,u 62,u 63,u 64,u 65,u 66,u 67,u 68,u 69,u 70,u 71,u 72,u 73,u 74,u 75,u 76,u 77,u 78,u 79,u 80,u 81,u 82,u 83,u 84,u 85,u 86,u 87,u 88,u 89,u 90,u 91,u 92],[]⟩) ?_ ?_
 ·simp only [List.take_succ_cons,List.take_zero]
  cases x
  all_goals
   repeat (first | go_big_quiet_skip | (go_big_quiet_want;first | (go_big_quiet_op;go_big_quiet_on) | (apply quiet_at;intro W hW;have hc0:=HC0.out W hW;have hc1:=HC1.out W hW;go_simp;(first | exact rfl | (simp only [Oper.quietUpon,true_and];first | exact rfl | (fail)) | (fail));go_big_quiet_on;simp only [Act.put,sA,s0,sS])))
   refine wpQuiet_nil ⟨_,Lib.hid (by rw [← HXV.out]),?_⟩
   refine frame_u ?_
   rfl
 rintro _ ⟨x,HXV,u,rfl⟩
 simp only [List.drop_succ_cons,List.drop_zero]
 refine wpQuiet_cut 7 (fun a'=>∃ x:Bool,Hid (x=((((a.kind == b.kind) && (Qm.eqB a.path b.path)) && (Qm.eqB a.to_ b.to_)) && (a.ty == b.ty)))∧∃ u:Nat→Value,a'=⟨#[(a.pv A1 c1 A2 c2).v,(b.pv B1 d1 B2 d2).v,.pointer (some ⟨w.heap.size,0,none⟩),.pointer (some ⟨w.heap.size+1,0,none⟩),.bool false,u 5,u 6,u 7,u 8,u 9,u 10,u 11,u 12,u 13,u 14,u 15,u 16,u 17,u 18,u 19,u 20,u 21,u 22,u 23,u 24,u 25,u 26,u 27,u 28,u 29,u 30,.bool x,u 32,u 33,u 34,u 35,u 36,u 37,u 38,u 39,u 40,u 41,u 42,u 43,u 44,u 45,u 46,u 47,u 48,u 49,u 50,u 51,u 52,u 53,u 54,u 55,u 56,u 57,u 58,u 59,u 60,u 61,u 62,u 63,u 64,u 65,u 66,u 67,u 68,u 69,u 70,u 71,u 72,u 73,u 74,u 75,u 76,u 77,u 78,u 79,u 80,u 81,u 82,u 83,u 84,u 85,u 86,u 87,u 88,u 89,u 90,u 91,u 92],[]⟩) ?_ ?_
 ·simp only [List.take_succ_cons,List.take_zero]
  cases x
  all_goals
   repeat (first | go_big_quiet_skip | (go_big_quiet_want;first | (go_big_quiet_op;go_big_quiet_on) | (apply quiet_at;intro W hW;have hc0:=HC0.out W hW;have hc1:=HC1.out W hW;go_simp;(first | exact rfl | (simp only [Oper.quietUpon,true_and];first | exact rfl | (fail)) | (fail));go_big_quiet_on;simp only [Act.put,sA,s0,sS])))
   refine wpQuiet_nil ⟨_,Lib.hid (by rw [← HXV.out]),?_⟩
   refine frame_u ?_
   rfl
 rintro _ ⟨x,HXV,u,rfl⟩
 simp only [List.drop_succ_cons,List.drop_zero]
 refine wpQuiet_cut 7 (fun a'=>∃ x:Bool,Hid (x=(((((a.kind == b.kind) && (Qm.eqB a.path b.path)) && (Qm.eqB a.to_ b.to_)) && (a.ty == b.ty)) && (a.off == b.off)))∧∃ u:Nat→Value,a'=⟨#[(a.pv A1 c1 A2 c2).v,(b.pv B1 d1 B2 d2).v,.pointer (some ⟨w.heap.size,0,none⟩),.pointer (some ⟨w.heap.size+1,0,none⟩),.bool false,u 5,u 6,u 7,u 8,u 9,u 10,u 11,u 12,u 13,u 14,u 15,u 16,u 17,u 18,u 19,u 20,u 21,u 22,u 23,u 24,u 25,u 26,u 27,u 28,u 29,u 30,u 31,u 32,u 33,u 34,u 35,u 36,u 37,.bool x,u 39,u 40,u 41,u 42,u 43,u 44,u 45,u 46,u 47,u 48,u 49,u 50,u 51,u 52,u 53,u 54,u 55,u 56,u 57,u 58,u 59,u 60,u 61,u 62,u 63,u 64,u 65,u 66,u 67,u 68,u 69,u 70,u 71,u 72,u 73,u 74,u 75,u 76,u 77,u 78,u 79,u 80,u 81,u 82,u 83,u 84,u 85,u 86,u 87,u 88,u 89,u 90,u 91,u 92],[]⟩) ?_ ?_
 ·simp only [List.take_succ_cons,List.take_zero]
  cases x
  all_goals
   repeat (first | go_big_quiet_skip | (go_big_quiet_want;first | (go_big_quiet_op;go_big_quiet_on) | (apply quiet_at;intro W hW;have hc0:=HC0.out W hW;have hc1:=HC1.out W hW;go_simp;(first | exact rfl | (simp only [Oper.quietUpon,true_and];first | exact rfl | (fail)) | (fail));go_big_quiet_on;simp only [Act.put,sA,s0,sS])))
   refine wpQuiet_nil ⟨_,Lib.hid (by rw [← HXV.out]),?_⟩
   refine frame_u ?_
   rfl
 rintro _ ⟨x,HXV,u,rfl⟩
 simp only [List.drop_succ_cons,List.drop_zero]
 refine wpQuiet_cut 7 (fun a'=>∃ x:Bool,Hid (x=((((((a.kind == b.kind) && (Qm.eqB a.path b.path)) && (Qm.eqB a.to_ b.to_)) && (a.ty == b.ty)) && (a.off == b.off)) && (Qm.eqB a.so b.so)))∧∃ u:Nat→Value,a'=⟨#[(a.pv A1 c1 A2 c2).v,(b.pv B1 d1 B2 d2).v,.pointer (some ⟨w.heap.size,0,none⟩),.pointer (some ⟨w.heap.size+1,0,none⟩),.bool false,u 5,u 6,u 7,u 8,u 9,u 10,u 11,u 12,u 13,u 14,u 15,u 16,u 17,u 18,u 19,u 20,u 21,u 22,u 23,u 24,u 25,u 26,u 27,u 28,u 29,u 30,u 31,u 32,u 33,u 34,u 35,u 36,u 37,u 38,u 39,u 40,u 41,u 42,u 43,u 44,.bool x,u 46,u 47,u 48,u 49,u 50,u 51,u 52,u 53,u 54,u 55,u 56,u 57,u 58,u 59,u 60,u 61,u 62,u 63,u 64,u 65,u 66,u 67,u 68,u 69,u 70,u 71,u 72,u 73,u 74,u 75,u 76,u 77,u 78,u 79,u 80,u 81,u 82,u 83,u 84,u 85,u 86,u 87,u 88,u 89,u 90,u 91,u 92],[]⟩) ?_ ?_
 ·simp only [List.take_succ_cons,List.take_zero]
  cases x
  all_goals
   repeat (first | go_big_quiet_skip | (go_big_quiet_want;first | (go_big_quiet_op;go_big_quiet_on) | (apply quiet_at;intro W hW;have hc0:=HC0.out W hW;have hc1:=HC1.out W hW;go_simp;(first | exact rfl | (simp only [Oper.quietUpon,true_and];first | exact rfl | (fail)) | (fail));go_big_quiet_on;simp only [Act.put,sA,s0,sS])))
   refine wpQuiet_nil ⟨_,Lib.hid (by rw [← HXV.out]),?_⟩
   refine frame_u ?_
   rfl
 rintro _ ⟨x,HXV,u,rfl⟩
 simp only [List.drop_succ_cons,List.drop_zero]
 refine wpQuiet_cut 7 (fun a'=>∃ x:Bool,Hid (x=(((((((a.kind == b.kind) && (Qm.eqB a.path b.path)) && (Qm.eqB a.to_ b.to_)) && (a.ty == b.ty)) && (a.off == b.off)) && (Qm.eqB a.so b.so)) && (Qm.eqB a.sn b.sn)))∧∃ u:Nat→Value,a'=⟨#[(a.pv A1 c1 A2 c2).v,(b.pv B1 d1 B2 d2).v,.pointer (some ⟨w.heap.size,0,none⟩),.pointer (some ⟨w.heap.size+1,0,none⟩),.bool false,u 5,u 6,u 7,u 8,u 9,u 10,u 11,u 12,u 13,u 14,u 15,u 16,u 17,u 18,u 19,u 20,u 21,u 22,u 23,u 24,u 25,u 26,u 27,u 28,u 29,u 30,u 31,u 32,u 33,u 34,u 35,u 36,u 37,u 38,u 39,u 40,u 41,u 42,u 43,u 44,u 45,u 46,u 47,u 48,u 49,u 50,u 51,.bool x,u 53,u 54,u 55,u 56,u 57,u 58,u 59,u 60,u 61,u 62,u 63,u 64,u 65,u 66,u 67,u 68,u 69,u 70,u 71,u 72,u 73,u 74,u 75,u 76,u 77,u 78,u 79,u 80,u 81,u 82,u 83,u 84,u 85,u 86,u 87,u 88,u 89,u 90,u 91,u 92],[]⟩) ?_ ?_
 ·simp only [List.take_succ_cons,List.take_zero]
  cases x
  all_goals
   repeat (first | go_big_quiet_skip | (go_big_quiet_want;first | (go_big_quiet_op;go_big_quiet_on) | (apply quiet_at;intro W hW;have hc0:=HC0.out W hW;have hc1:=HC1.out W hW;go_simp;(first | exact rfl | (simp only [Oper.quietUpon,true_and];first | exact rfl | (fail)) | (fail));go_big_quiet_on;simp only [Act.put,sA,s0,sS])))
   refine wpQuiet_nil ⟨_,Lib.hid (by rw [← HXV.out]),?_⟩
   refine frame_u ?_
   rfl
 rintro _ ⟨x,HXV,u,rfl⟩
 simp only [List.drop_succ_cons,List.drop_zero]
 refine wpQuiet_cut 7 (fun a'=>∃ x:Bool,Hid (x=((((((((a.kind == b.kind) && (Qm.eqB a.path b.path)) && (Qm.eqB a.to_ b.to_)) && (a.ty == b.ty)) && (a.off == b.off)) && (Qm.eqB a.so b.so)) && (Qm.eqB a.sn b.sn)) && (a.om == b.om)))∧∃ u:Nat→Value,a'=⟨#[(a.pv A1 c1 A2 c2).v,(b.pv B1 d1 B2 d2).v,.pointer (some ⟨w.heap.size,0,none⟩),.pointer (some ⟨w.heap.size+1,0,none⟩),.bool false,u 5,u 6,u 7,u 8,u 9,u 10,u 11,u 12,u 13,u 14,u 15,u 16,u 17,u 18,u 19,u 20,u 21,u 22,u 23,u 24,u 25,u 26,u 27,u 28,u 29,u 30,u 31,u 32,u 33,u 34,u 35,u 36,u 37,u 38,u 39,u 40,u 41,u 42,u 43,u 44,u 45,u 46,u 47,u 48,u 49,u 50,u 51,u 52,u 53,u 54,u 55,u 56,u 57,u 58,.bool x,u 60,u 61,u 62,u 63,u 64,u 65,u 66,u 67,u 68,u 69,u 70,u 71,u 72,u 73,u 74,u 75,u 76,u 77,u 78,u 79,u 80,u 81,u 82,u 83,u 84,u 85,u 86,u 87,u 88,u 89,u 90,u 91,u 92],[]⟩) ?_ ?_
 ·simp only [List.take_succ_cons,List.take_zero]
  cases x
  all_goals
   repeat (first | go_big_quiet_skip | (go_big_quiet_want;first | (go_big_quiet_op;go_big_quiet_on) | (apply quiet_at;intro W hW;have hc0:=HC0.out W hW;have hc1:=HC1.out W hW;go_simp;(first | exact rfl | (simp only [Oper.quietUpon,true_and];first | exact rfl | (fail)) | (fail));go_big_quiet_on;simp only [Act.put,sA,s0,sS])))
   refine wpQuiet_nil ⟨_,Lib.hid (by rw [← HXV.out]),?_⟩
   refine frame_u ?_
   rfl
 rintro _ ⟨x,HXV,u,rfl⟩
 simp only [List.drop_succ_cons,List.drop_zero]
 refine wpQuiet_cut 7 (fun a'=>∃ x:Bool,Hid (x=(((((((((a.kind == b.kind) && (Qm.eqB a.path b.path)) && (Qm.eqB a.to_ b.to_)) && (a.ty == b.ty)) && (a.off == b.off)) && (Qm.eqB a.so b.so)) && (Qm.eqB a.sn b.sn)) && (a.om == b.om)) && (a.nm == b.nm)))∧∃ u:Nat→Value,a'=⟨#[(a.pv A1 c1 A2 c2).v,(b.pv B1 d1 B2 d2).v,.pointer (some ⟨w.heap.size,0,none⟩),.pointer (some ⟨w.heap.size+1,0,none⟩),.bool false,u 5,u 6,u 7,u 8,u 9,u 10,u 11,u 12,u 13,u 14,u 15,u 16,u 17,u 18,u 19,u 20,u 21,u 22,u 23,u 24,u 25,u 26,u 27,u 28,u 29,u 30,u 31,u 32,u 33,u 34,u 35,u 36,u 37,u 38,u 39,u 40,u 41,u 42,u 43,u 44,u 45,u 46,u 47,u 48,u 49,u 50,u 51,u 52,u 53,u 54,u 55,u 56,u 57,u 58,u 59,u 60,u 61,u 62,u 63,u 64,u 65,.bool x,u 67,u 68,u 69,u 70,u 71,u 72,u 73,u 74,u 75,u 76,u 77,u 78,u 79,u 80,u 81,u 82,u 83,u 84,u 85,u 86,u 87,u 88,u 89,u 90,u 91,u 92],[]⟩) ?_ ?_
 ·simp only [List.take_succ_cons,List.take_zero]
  cases x
  all_goals
   repeat (first | go_big_quiet_skip | (go_big_quiet_want;first | (go_big_quiet_op;go_big_quiet_on) | (apply quiet_at;intro W hW;have hc0:=HC0.out W hW;have hc1:=HC1.out W hW;go_simp;(first | exact rfl | (simp only [Oper.quietUpon,true_and];first | exact rfl | (fail)) | (fail));go_big_quiet_on;simp only [Act.put,sA,s0,sS])))
   refine wpQuiet_nil ⟨_,Lib.hid (by rw [← HXV.out]),?_⟩
   refine frame_u ?_
   rfl
 rintro _ ⟨x,HXV,u,rfl⟩
 simp only [List.drop_succ_cons,List.drop_zero]
 refine wpQuiet_cut 9 (fun a'=>∃ x:Bool,Hid (x=((((((((((a.kind == b.kind) && (Qm.eqB a.path b.path)) && (Qm.eqB a.to_ b.to_)) && (a.ty == b.ty)) && (a.off == b.off)) && (Qm.eqB a.so b.so)) && (Qm.eqB a.sn b.sn)) && (a.om == b.om)) && (a.nm == b.nm)) && (a.at_ == b.at_)))∧∃ u:Nat→Value,a'=⟨#[(a.pv A1 c1 A2 c2).v,(b.pv B1 d1 B2 d2).v,.pointer (some ⟨w.heap.size,0,none⟩),.pointer (some ⟨w.heap.size+1,0,none⟩),.bool false,u 5,u 6,u 7,u 8,u 9,u 10,u 11,u 12,u 13,u 14,u 15,u 16,u 17,u 18,u 19,u 20,u 21,u 22,u 23,u 24,u 25,u 26,u 27,u 28,u 29,u 30,u 31,u 32,u 33,u 34,u 35,u 36,u 37,u 38,u 39,u 40,u 41,u 42,u 43,u 44,u 45,u 46,u 47,u 48,u 49,u 50,u 51,u 52,u 53,u 54,u 55,u 56,u 57,u 58,u 59,u 60,u 61,u 62,u 63,u 64,u 65,u 66,u 67,u 68,u 69,u 70,u 71,u 72,u 73,u 74,.bool x,u 76,u 77,u 78,u 79,u 80,u 81,u 82,u 83,u 84,u 85,u 86,u 87,u 88,u 89,u 90,u 91,u 92],[]⟩) ?_ ?_
 ·simp only [List.take_succ_cons,List.take_zero]
  cases x
  all_goals
   repeat (first | go_big_quiet_skip | (go_big_quiet_want;first | (go_big_quiet_op;go_big_quiet_on) | (apply quiet_at;intro W hW;have hc0:=HC0.out W hW;have hc1:=HC1.out W hW;go_simp;(first | exact rfl | (simp only [Oper.quietUpon,true_and];first | exact rfl | (fail)) | (fail));go_big_quiet_on;simp only [Act.put,sA,s0,sS])))
   refine wpQuiet_nil ⟨_,Lib.hid (by rw [← HXV.out]),?_⟩
   refine frame_u ?_
   rfl
 rintro _ ⟨x,HXV,u,rfl⟩
 simp only [List.drop_succ_cons,List.drop_zero]
 refine wpQuiet_cut 9 (fun a'=>∃ x:Bool,Hid (x=(((((((((((a.kind == b.kind) && (Qm.eqB a.path b.path)) && (Qm.eqB a.to_ b.to_)) && (a.ty == b.ty)) && (a.off == b.off)) && (Qm.eqB a.so b.so)) && (Qm.eqB a.sn b.sn)) && (a.om == b.om)) && (a.nm == b.nm)) && (a.at_ == b.at_)) && x1))∧∃ u:Nat→Value,a'=⟨#[(a.pv A1 c1 A2 c2).v,(b.pv B1 d1 B2 d2).v,.pointer (some ⟨w.heap.size,0,none⟩),.pointer (some ⟨w.heap.size+1,0,none⟩),.bool false,u 5,u 6,u 7,u 8,u 9,u 10,u 11,u 12,u 13,u 14,u 15,u 16,u 17,u 18,u 19,u 20,u 21,u 22,u 23,u 24,u 25,u 26,u 27,u 28,u 29,u 30,u 31,u 32,u 33,u 34,u 35,u 36,u 37,u 38,u 39,u 40,u 41,u 42,u 43,u 44,u 45,u 46,u 47,u 48,u 49,u 50,u 51,u 52,u 53,u 54,u 55,u 56,u 57,u 58,u 59,u 60,u 61,u 62,u 63,u 64,u 65,u 66,u 67,u 68,u 69,u 70,u 71,u 72,u 73,u 74,u 75,u 76,u 77,u 78,u 79,u 80,u 81,u 82,u 83,.bool x,u 85,u 86,u 87,u 88,u 89,u 90,u 91,u 92],[]⟩) ?_ ?_
 ·simp only [List.take_succ_cons,List.take_zero]
  cases x
  all_goals
   repeat (first | go_big_quiet_skip | (go_big_quiet_want;first | (go_big_quiet_op;go_big_quiet_on) | (apply quiet_at;intro W hW;have hc0:=HC0.out W hW;have hc1:=HC1.out W hW;go_simp;(first | exact rfl | (simp only [Oper.quietUpon,true_and];first | exact rfl | (first | with_reducible exact quiet_call hW (Q1.out _ (Ext.trans HX0.out hW)) (fun _ _ h=>Ret.bcell h) | with_reducible exact quiet_call hW (Q2.out _ (Ext.trans HX0.out hW)) (fun _ _ h=>Ret.bcell h))) | (first | with_reducible exact quiet_call hW (Q1.out _ (Ext.trans HX0.out hW)) (fun _ _ h=>Ret.bcell h) | with_reducible exact quiet_call hW (Q2.out _ (Ext.trans HX0.out hW)) (fun _ _ h=>Ret.bcell h)));go_big_quiet_on;simp only [Act.put,sA,s0,sS])))
   refine wpQuiet_nil ⟨_,Lib.hid (by rw [← HXV.out]),?_⟩
   refine frame_u ?_
   rfl
 rintro _ ⟨x,HXV,u,rfl⟩
 simp only [List.drop_succ_cons,List.drop_zero]
 cases x
 all_goals
  repeat (first | go_big_quiet_skip | (go_big_quiet_want;first | (go_big_quiet_op;go_big_quiet_on) | (apply quiet_at;intro W hW;have hc0:=HC0.out W hW;have hc1:=HC1.out W hW;go_simp;(first | exact rfl | (simp only [Oper.quietUpon,true_and];first | exact rfl | (first | with_reducible exact quiet_call hW (Q1.out _ (Ext.trans HX0.out hW)) (fun _ _ h=>Ret.bcell h) | with_reducible exact quiet_call hW (Q2.out _ (Ext.trans HX0.out hW)) (fun _ _ h=>Ret.bcell h))) | (first | with_reducible exact quiet_call hW (Q1.out _ (Ext.trans HX0.out hW)) (fun _ _ h=>Ret.bcell h) | with_reducible exact quiet_call hW (Q2.out _ (Ext.trans HX0.out hW)) (fun _ _ h=>Ret.bcell h)));go_big_quiet_on;simp only [Act.put,sA,s0,sS])))
  refine wpQuiet_nil ?_
  intro w1 hx1
  have hx:=Ext.trans HX0.out hx1
  go_wp2_with fail
  (go_ret;refine Ret.mk ?_ ?_;(focus (rw [HM.out];simp only [← Bool.and_assoc];rw [← HXV.out];rfl;done));(focus (exact EX;done)))
end Go.Proofs.YtfmgnaigcibcaaaGreatDoor
namespace Go.Proofs.YtfmgnaigcibcaaaGreatDoor
open Go Go.RowKit
attribute [local go_sem ↓] Go.wp_at_zero Go.wp_at_succ
namespace Sq
theorem right_fits:∀ {n:Nat} {l m:List Qp} {i:Nat},i+n < l.length→right n l i=some m→(∀ q∈l,q.Fits)→∀ q∈m,q.Fits
 | 0,l,m,i,_,h,hf=>by
   obtain rfl:=Option.some.inj h
   exact hf
 | n+1,l,m,i,hi,h,hf=>by
   obtain ⟨l2,h1,h2⟩:=Option.bind_eq_some_iff.1 h
   exact right_fits (by rw [swap_length h1];omega) h2 (swap_fits (by omega) h1 hf)
theorem left_fits:∀ {n:Nat} {l m:List Qp} {i:Nat},i < l.length→n≤i→left n l i=some m→(∀ q∈l,q.Fits)→∀ q∈m,q.Fits
 | 0,l,m,i,_,_,h,hf=>by
   obtain rfl:=Option.some.inj h
   exact hf
 | n+1,l,m,i,hi,hn,h,hf=>by
   obtain ⟨l2,h1,h2⟩:=Option.bind_eq_some_iff.1 h
   exact left_fits (by rw [swap_length h1];omega) (by omega) h2 (swap_fits (by omega) h1 hf)
theorem move_fits {l m:List Qp} {i k:Nat} (h:move l i k=some m) (hf:∀ q∈l,q.Fits):∀ q∈m,q.Fits:=by
 unfold move at h
 split at h
 ·rename_i hl
  split at h
  ·exact right_fits (by omega) h hf
  ·exact left_fits (by omega) (by omega) h hf
 ·cases h
theorem from_step {l:List Qp} {x:Qp} {k n:Nat} (hk:k < n):withoutFrom l x (n - k) k=match move l k 0 with
 | some m=>if (m.getD 0 Qp.zero).same x then some m.tail else withoutFrom l x (n - (k+1)) (k+1)
 | none=>withoutFrom l x (n - (k+1)) (k+1):=by
 rw [show n - k=(n - (k+1))+1 by omega]
 rfl
theorem without_fits {x:Qp} {n:Nat}:∀ {l m:List Qp} {k:Nat},withoutFrom l x n k=some m→(∀ q∈l,q.Fits)→∀ q∈m,q.Fits:=by
 induction n with
 | zero=>intro l m k h;cases h
 | succ n ih=>
   intro l m k h hf
   unfold withoutFrom at h
   split at h
   ·rename_i m1 hm
    split at h
    ·obtain rfl:=Option.some.inj h
     exact fun q hq=>move_fits hm hf q (List.mem_of_mem_tail hq)
    ·exact ih h hf
   ·exact ih h hf
end Sq
section
variable {P:Program} {ops:Array Oper} {Q:Exit→Act→World→Prop} {md:Region.Mode} {S:World→Prop}
end
theorem Qs.wide {w:World} {F:Nat→Prop} {A:Option Addr} {l:List Qp} (h:Qs w F A l):Qs w (fun _=>True) A l:=h.mono fun _ _=>trivial
def Rest (R:Option (List Qp)) (n:Nat) (w:World) (e:Ending) (w':World):Prop:=
 ((R=none∧e=.returned (.tuple #[.slice none 0 0,.bool false]))∨∃ m g o,R=some m∧m.length=n∧e=.returned (.tuple #[.slice (some ⟨g,o,none⟩) n n,.bool true])∧Hid (Qs w' (fun _=>True) (some ⟨g,o,none⟩) m))∧Ext w w'
set_option maxHeartbeats 16000000 in
set_option maxRecDepth 100000 in
theorem without_any (A:Option Addr) (n c:Nat) (l:List Qp) (p:Pv) (x:Qp) (w:World) (hg:Glob w) {F G:Nat→Prop} (h:Qs w F A l) (hn:l.length=n) (hx:Is w G p x) (fx:x.Fits) (hb:n≤1000000000000) (hf:∀ q∈l,q.Fits):
 Calls Tryz.prog 56 #[.slice A n c,p.v] w (Rest (Sq.without l x) (n - 1) w):=by
 have HMV:=Lib.hid (fun W k (hW:Ext w W) (hk:k < n)=>move_any A n c k 0 l W (hg.ext hW) (h.ext hW) hn hk (by omega) hb hf)
 have HMF:=Lib.hid (fun k m (hm:Sq.move l k 0=some m)=>Sq.move_fits hm hf)
 have HML:Hid (∀ k m,Sq.move l k 0=some m→m.length=n):=Lib.hid fun k m hm=>(Sq.move_length hm).trans hn
 have HFS:=Lib.hid (fun k (hk:k < n)=>Sq.from_step (l:=l) (x:=x) hk)
 have HEQ:=Lib.hid (fun W P2 y (hW:Ext w W) (hi:Is W (fun _=>True) P2 y) (fy:y.Fits)=>sequalp_any P2 p y x W hi (hx.ext hW) fy.1 fy.2.1 fx.1 fx.2.1)
 have H0:Hid (Sq.without l x=Sq.withoutFrom l x (n - 0) 0):=Lib.hid (by unfold Sq.without;rw [hn];rfl)
 generalize Sq.without l x=R at H0 ⊢
 clear h hn hx fx hf hg
 go_enter Tryz.func56,Tryz.ntmps56
 have hx:=Ext.refl w
 go_wp2_with fail
 have hbx:Blk (w.alloc (.cells (parr p) 28)) w.heap.size 28 (parr p):=Blk.new' rfl
 have hx0:Ext w (w.alloc (.cells (parr p) 28)):=(Ext.refl w).alloc _
 generalize (w.alloc (.cells (parr p) 28))=w0 at hbx hx0 ⊢
 clear hx
 go_loopw [11] (fun u11 wr=>∃ k:Nat,k≤n∧u11=.int .i64 k∧Ext w wr∧Blk wr w.heap.size 28 (parr p)∧Hid (R=Sq.withoutFrom l x (n - k) k)) (fun u11 wr=>n - (intOf u11).toNat)
 case atStart=>exact ⟨0,Nat.zero_le _,rfl,hx0,hbx,H0⟩
 case round=>
  clear hx0 hbx H0
  obtain ⟨k,hk,rfl,hx,hbx,HR⟩:=hrel
  by_cases hlt:k < n
  ·have HR2:=Lib.hid (HR.out.trans (HFS.out k hlt))
   clear HR
   go_wp2_with fail
   refine (HMV.out _ k hx hlt).mono ?_
   rintro e w1 ⟨hres,hx1⟩
   have hbx1:=hbx.ext hx1
   have hx2:=hx.trans hx1
   clear hx hx1 hbx
   have hx:=hx2
   clear hx2
   rcases hres with ⟨hm,rfl⟩ | ⟨m,g,hm,rfl,hgw,ho⟩
   ·have HR3:Hid (R=Sq.withoutFrom l x (n - (k+1)) (k+1)):=Lib.hid (by have h0:=HR2.out;rw [hm] at h0;exact h0)
    clear HR2 hm
    go_wp2_with fail
    refine wp_region_noPanic (wp_region_held_drew (S:=fun w'=>Ext w1 w') (by kernel_rfl) (Ext.refl w1).drew1 (fun hv=>?_))
    refine tf (i:=0) (v:=.bool false) rfl rfl (fun _=>rfl) hv ?_
    try simp only [Act.put,sA,s0,sS]
    refine tf (i:=1) (v:=.bool false) rfl rfl (fun _=>rfl) hv ?_
    try simp only [Act.put,sA,s0,sS]
    refine tk (i:=2) rfl rfl hv ?_
    try simp only [Act.put,sA,s0,sS]
    refine tk (i:=3) rfl rfl hv ?_
    try simp only [Act.put,sA,s0,sS]
    refine tk (i:=4) rfl rfl hv ?_
    try simp only [Act.put,sA,s0,sS]
    refine tk (i:=5) rfl rfl hv ?_
    try simp only [Act.put,sA,s0,sS]
    refine tk (i:=6) rfl rfl hv ?_
    try simp only [Act.put,sA,s0,sS]
    refine tf (i:=7) (v:=.bool false) rfl rfl (fun _=>rfl) hv ?_
    try simp only [Act.put,sA,s0,sS]
    refine wpAnyH_done (by kernel_rfl) (NoPanic.normal ?_) _
    go_wp2_with fail
    go_roundw
    case rel=>exact ⟨k+1,hlt,rfl,hx.drew1,hbx1.drew,HR3⟩
    case measure=>simp [intOf];omega
   ·have hml:=HML.out k m hm
    have e0:m[0]?=some (m[0]'(by omega)):=List.getElem?_eq_getElem (by omega)
    have fy:=HMF.out k m hm _ (List.mem_of_getElem? e0)
    have hd:m.getD 0 Qp.zero=m[0]'(by omega):=by simp [List.getD,e0]
    obtain ⟨b,o,P2,hA,hbl,hc,hi⟩:=ho.out.qs.get e0
    obtain ⟨rfl,rfl⟩:b=g∧o=0:=by simp at hA;exact ⟨hA.1.symm,hA.2.symm⟩
    have HR3:Hid (R=if (m[0]'(by omega)).same x then some m.tail else Sq.withoutFrom l x (n - (k+1)) (k+1)):=Lib.hid (by have h0:=HR2.out;rw [hm] at h0;dsimp only at h0;rwa [hd] at h0)
    have HQ:Hid (Qs w1 (fun _=>True) (some ⟨b,0+1 * 12,none⟩) m.tail):=Lib.hid (by have :=(ho.out.qs.drop 1).mono (G:=fun _=>True) (fun _ _=>trivial);rwa [List.drop_one] at this)
    have HLT:Hid (m.tail.length=n - 1):=Lib.hid (by rw [List.length_tail,hml])
    generalize m[0]'(by omega)=y at hi fy HR3
    have HC:=Lib.hid (fun W (hW:Ext w1 W)=>range_ext hc hbl hW)
    have HE:=Lib.hid (fun W (hW:Ext w1 W)=>HEQ.out W P2 y (hx.trans hW) ((hi.ext hW).mono fun _ _=>trivial) fy)
    clear hm hml e0 fy hd hA hbl hc hi ho HR2 hgw
    go_wp2_with fail
    refine wp_region_noPanic (wp_region_held_drew (S:=fun w'=>Ext w1 w') (by kernel_rfl) (Ext.refl w1).drew1 (fun hv=>?_))
    generalize w1.drew=v0 at hv ⊢
    refine tf (i:=0) (v:=.bool true) rfl rfl (fun _=>rfl) hv ?_
    try simp only [Act.put,sA,s0,sS]
    refine tf (i:=1) (v:=.bool true) rfl rfl (fun _=>rfl) hv ?_
    try simp only [Act.put,sA,s0,sS]
    refine tf (i:=2) (v:=.slice (some ⟨b,0,none⟩) n n) rfl rfl (fun _=>rfl) hv ?_
    try simp only [Act.put,sA,s0,sS]
    refine take_any (i:=3) (v:=.pointer (some ⟨b,0,none⟩)) rfl rfl (by kernel_rfl) (by kernel_rfl) (by kernel_rfl) (.inl ⟨(by kernel_rfl),fun W' hW'=>?ix⟩) hv ?_
    case ix=>
     have z0:0 < n:=by omega
     have z1:¬ ((n:Int)≤0):=by omega
     go_simp
    try simp only [Act.put,sA,s0,sS]
    refine tg (i:=4) (parr P2).toList rfl rfl rfl rfl Tryz.underlying28 rfl (fun _ h=>by have :=HC.out _ h;simpa using this) hv ?_
    try simp only [Act.put,sA,s0,sS]
    refine tg (i:=5) (parr p).toList rfl rfl rfl rfl Tryz.underlying28 rfl (fun _ h=>(hbx1.ext h).range 0 _ (fun j _=>by rw [Nat.zero_add,Array.getElem?_toList])) hv ?_
    try simp only [Act.put,sA,s0,sS]
    refine wpAnyH_one (i:=6) (by kernel_rfl) rfl (by kernel_rfl) ?_
    go_simp
    refine (HE.out _ hv).mono ?_
    rintro e v1 ⟨rfl,hx0⟩
    have hv2:=hv.trans hx0
    clear hv hx0
    have hv:=hv2
    clear hv2
    refine ⟨hv,?_⟩
    try simp only [Act.put,sA,s0,sS]
    cases hs:y.same x
    ·have HR4:Hid (R=Sq.withoutFrom l x (n - (k+1)) (k+1)):=Lib.hid (by have h0:=HR3.out;rwa [hs,if_neg (by decide)] at h0)
     clear HR3 hs
     refine tf (i:=7) (v:=.bool false) rfl rfl (fun _=>rfl) hv ?_
     try simp only [Act.put,sA,s0,sS]
     refine wpAnyH_done (by kernel_rfl) (NoPanic.normal ?_) _
     go_wp2_with fail
     go_roundw
     case rel=>exact ⟨k+1,hlt,rfl,hx.trans hv,hbx1.ext hv,HR4⟩
     case measure=>simp [intOf];omega
    ·have HR4:Hid (R=some m.tail):=Lib.hid (by have h0:=HR3.out;rwa [hs,if_pos rfl] at h0)
     clear HR3 hs
     refine tf (i:=7) (v:=.bool true) rfl rfl (fun _=>rfl) hv ?_
     try simp only [Act.put,sA,s0,sS]
     refine wpAnyH_done (by kernel_rfl) (NoPanic.normal ?_) _
     have z1:¬ ((n:Int) < 1):=by omega
     go_wp2_with fail
     case inr=>
      refine bodyPost_ret (v:=.tuple #[.slice (some ⟨b,12,none⟩) (n - 1:Nat) (n - 1:Nat),.bool true]) (by simp only [results,Tryz.results56];go_simp) rfl ?_
      exact ⟨.inr ⟨m.tail,b,12,HR4.out,HLT.out,rfl,Lib.hid (HQ.out.ext hv)⟩,hx.trans hv⟩
     case inl=>
      have hn1:n=1:=by assumption
      have hnil:m.tail=[]:=List.length_eq_zero_iff.1 (by have :=HLT.out;omega)
      refine bodyPost_ret (v:=.tuple #[.slice (some ⟨b,0,none⟩) 0 0,.bool true]) (by simp only [results,Tryz.results56];go_simp) rfl ?_
      exact ⟨.inr ⟨[],b,0,HR4.out.trans (by rw [hnil]),rfl,rfl,Lib.hid (Qs.nil _ _ _)⟩,hx.trans hv⟩
  ·have HZ:Hid (R=none):=Lib.hid (by have h0:=HR.out;rw [show n - k=0 by omega] at h0;exact h0)
   clear HR
   go_wp2_with fail
   refine bodyPost_ret (v:=.tuple #[.slice none 0 0,.bool false]) (by simp only [results,Tryz.results56];go_simp) rfl ?_
   exact ⟨.inl ⟨HZ.out,rfl⟩,hx⟩
set_option maxHeartbeats 8000000 in
set_option maxRecDepth 100000 in
theorem seqsame_any (A B:Option Addr) (n c m d:Nat) (a b:List Qp) (w:World) (hg:Glob w) {F G:Nat→Prop} (ha:Qs w F A a) (hb:Qs w G B b) (hn:a.length=n) (hm:b.length=m) (b1:n≤1000000000000) (b2:m≤1000000000000) (fa:∀ q∈a,q.Fits) (fb:∀ q∈b,q.Fits):
 Calls Tryz.prog 27 #[.slice A n c,.slice B m d] w (Ret (.bool (Sq.same a b)) w):=by
 have HB:=Lib.hid hb
 have HM:=Lib.hid hm
 have HG:=Lib.hid hg
 have HFB:=Lib.hid fb
 have HA0:=Lib.hid ha.wide
 have HN0:=Lib.hid hn
 have HFA0:=Lib.hid fa
 have H0:Hid (Sq.same a b=Sq.same a (b.drop 0)):=Lib.hid (by rw [List.drop_zero])
 generalize Sq.same a b=R at H0 ⊢
 clear ha hb hn hm fa fb hg
 go_enter Tryz.func27,Tryz.ntmps27
 have hx:=Ext.refl w
 go_wp2_with fail
 go_loopw [0,11] (fun u0 u11 wr=>∃ (k:Nat) (A':Option Addr) (n' c':Nat) (l:List Qp),k≤m∧u11=.int .i64 k∧u0=.slice A' n' c'∧n'≤1000000000000∧Ext w wr∧Hid (Qs wr (fun _=>True) A' l)∧Hid (l.length=n')∧Hid (∀ q∈l,q.Fits)∧Hid (R=Sq.same l (b.drop k))) (fun u0 u11 wr=>m - (intOf u11).toNat)
 case atStart=>exact ⟨0,A,n,c,a,Nat.zero_le _,rfl,rfl,b1,hx,HA0,HN0,HFA0,H0⟩
 case round=>
  clear HA0 HN0 HFA0 H0 hx
  obtain ⟨k,A',n',c',l,hk,rfl,rfl,hn',hx,HA,HN,HFA,HR⟩:=hrel
  by_cases hlt:k < m
  ·have hkl:k < b.length:=by rw [HM.out];exact hlt
   have e1:b[k]?=some (b[k]'hkl):=List.getElem?_eq_getElem hkl
   obtain ⟨bb,oo,p,rfl,hbl,hc,hi⟩:=(HB.out.ext hx).get e1
   have fy:=HFB.out _ (List.mem_of_getElem? e1)
   have hdr:b.drop k=(b[k]'hkl) :: b.drop (k+1):=by rw [List.drop_eq_getElem_cons hkl]
   generalize b[k]'hkl=y at hi fy hdr e1
   have HR2:Hid (R=match Sq.without l y with | some r=>Sq.same r (b.drop (k+1)) | none=>false):=Lib.hid (by rw [HR.out,hdr];rfl)
   have HW:=Lib.hid (fun W (hW:Ext wr W)=>without_any A' n' c' l p y W (HG.out.ext (hx.trans hW)) (HA.out.ext hW) HN.out (hi.ext hW) fy hn' HFA.out)
   have HF2:=Lib.hid (fun r (hr:Sq.without l y=some r)=>Sq.without_fits hr HFA.out)
   obtain ⟨q0,q1,q2,q3,q4,q5,q6,q7,q8,q9,q10,q11⟩:=cells12 hc
   clear hc hi fy hdr e1 HR HA HN hkl
   go_wp2_with fail
   clear q0 q1 q2 q3 q4 q5 q6 q7 q8 q9 q10 q11
   refine (HW.out _ ((Ext.refl wr).alloc _)).mono ?_
   rintro e w1 ⟨hres,hx1⟩
   have hx2:=hx.trans (((Ext.refl wr).alloc _).trans hx1)
   clear hx hx1 HW
   have hx:=hx2
   clear hx2
   rcases hres with ⟨hr,rfl⟩ | ⟨r,g,o,hr,hrl,rfl,HQ⟩
   ·have HZ:Hid (R=false):=Lib.hid (by have h0:=HR2.out;rw [hr] at h0;exact h0)
    clear HR2 hr
    go_wp2_with fail
    refine bodyPost_ret (v:=.bool false) (by simp only [results,Tryz.results27];go_simp) rfl ?_
    exact ⟨by rw [HZ.out],hx⟩
   ·have HR3:Hid (R=Sq.same r (b.drop (k+1))):=Lib.hid (by have h0:=HR2.out;rw [hr] at h0;exact h0)
    have HFR:=Lib.hid (HF2.out r hr)
    have HRL:=Lib.hid hrl
    clear HR2 hr HF2 hrl
    go_wp2_with fail
    go_roundw
    case rel=>
     first
      | exact ⟨k+1,some ⟨g,o,none⟩,n' - 1,n' - 1,r,hlt,rfl,rfl,by omega,hx,HQ,HRL,HFR,HR3⟩
      | ((repeat apply Exists.intro);exact ⟨⟨k+1,some ⟨g,o,none⟩,n' - 1,n' - 1,r,hlt,rfl,rfl,by omega,hx,HQ,HRL,HFR,HR3⟩,rfl⟩)
    case measure=>simp [intOf];omega
  ·have HZ:Hid (R=((n':Int) == 0)):=Lib.hid (by
    rw [HR.out,List.drop_of_length_le (by rw [HM.out];omega)]
    show l.isEmpty=_
    rw [← HN.out]
    cases l with
    | nil=>rfl
    | cons x l=>
      have:((((x :: l).length:Nat):Int) == 0)=false:=by rw [beq_eq_false_iff_ne];simp;omega
      rw [this]
      rfl)
   clear HR HA HN HFA
   go_wp2_with fail
   refine bodyPost_ret (v:=.bool ((n':Int) == 0)) ?_ rfl ?_
   ·simp only [results,Tryz.results27]
    go_simp
   ·exact ⟨by rw [HZ.out],hx⟩
end Go.Proofs.YtfmgnaigcibcaaaGreatDoor
