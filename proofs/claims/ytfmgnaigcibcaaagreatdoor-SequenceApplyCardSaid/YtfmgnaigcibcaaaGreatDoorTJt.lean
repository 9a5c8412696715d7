import Derived.Test.YtfmgnaigcibcaaaGreatDoorTJp
set_option linter.unusedSimpArgs false
set_option linter.unusedVariables false
namespace Go.Proofs.YtfmgnaigcibcaaaGreatDoor
namespace Sq
def turned {α:Type} (z:α) (l:List α) (k:Nat):List α:=(List.range l.length).map fun i=>if i < k∨l.length - 1 - i < k then l.getD (l.length - 1 - i) z else l.getD i z
theorem turned_length {α:Type} (z:α) (l:List α) (k:Nat):(turned z l k).length=l.length:=by simp [turned]
theorem turned_at {α:Type} (z:α) (l:List α) (k i:Nat) (h:i < l.length):(turned z l k)[i]?=some (if i < k∨l.length - 1 - i < k then l.getD (l.length - 1 - i) z else l.getD i z):=by
 unfold turned
 rw [List.getElem?_map,List.getElem?_range h]
 rfl
theorem turned_zero {α:Type} (z:α) (l:List α):turned z l 0=l:=by
 apply List.ext_getElem?
 intro i
 by_cases h:i < l.length
 ·rw [turned_at z l 0 i h,if_neg (by omega),List.getD_eq_getElem?_getD,List.getElem?_eq_getElem h]
  rfl
 ·rw [List.getElem?_eq_none (by rw [turned_length];omega),List.getElem?_eq_none (by omega)]
theorem turned_end {α:Type} (z:α) (l:List α) (k:Nat) (h:l.length - 1 - k≤k):turned z l k=l.reverse:=by
 apply List.ext_getElem?
 intro i
 by_cases hi:i < l.length
 ·rw [turned_at z l k i hi,List.getElem?_reverse hi]
  by_cases hc:i < k∨l.length - 1 - i < k
  ·rw [if_pos hc,List.getD_eq_getElem?_getD,List.getElem?_eq_getElem (by omega)]
   simp
  ·rw [if_neg hc]
   have:i=l.length - 1 - i:=by omega
   rw [← this,List.getD_eq_getElem?_getD,List.getElem?_eq_getElem hi]
   simp
 ·rw [List.getElem?_eq_none (by rw [turned_length];omega),List.getElem?_eq_none (by rw [List.length_reverse];omega)]
theorem turned_next {α:Type} (z:α) (l:List α) (k:Nat) (h:k < l.length - 1 - k):((turned z l k).set k (l.getD (l.length - 1 - k) z)).set (l.length - 1 - k) (l.getD k z)=turned z l (k+1):=by
 apply List.ext_getElem?
 intro i
 by_cases hi:i < l.length
 ·rw [turned_at z l (k+1) i hi,List.getElem?_set,List.getElem?_set,turned_at z l k i hi,List.length_set,turned_length]
  by_cases h1:l.length - 1 - k=i
  ·rw [if_pos h1,if_pos (by omega),if_pos (by omega)]
   have:l.length - 1 - i=k:=by omega
   rw [this]
  ·rw [if_neg h1]
   by_cases h2:k=i
   ·rw [if_pos h2,if_pos (by omega),if_pos (by omega),← h2]
   ·rw [if_neg h2]
    by_cases h3:i < k∨l.length - 1 - i < k
    ·rw [if_pos h3,if_pos (by omega)]
    ·rw [if_neg h3,if_neg (by omega)]
 ·rw [List.getElem?_eq_none (by simp [turned_length];omega),List.getElem?_eq_none (by rw [turned_length];omega)]
theorem turned_low {α:Type} (z:α) (l:List α) (k:Nat) (h:k < l.length - 1 - k):(turned z l k)[k]?=some (l.getD k z)∧(turned z l k)[l.length - 1 - k]?=some (l.getD (l.length - 1 - k) z):=by
 constructor
 ·rw [turned_at z l k k (by omega),if_neg (by omega)]
 ·rw [turned_at z l k _ (by omega),if_neg (by omega)]
end Sq
end Go.Proofs.YtfmgnaigcibcaaaGreatDoor
namespace Go.Proofs.YtfmgnaigcibcaaaGreatDoor
open Go Go.RowKit
attribute [local go_sem ↓] Go.wp_at_zero Go.wp_at_succ
theorem Blk.oneR {w:World} {g:Nat} {t:TypeId} {ps:List Pv} {rest:List Value} (h:Blk w g t (flat ps ++ rest).toArray) {i:Nat} (hi:i < ps.length) (p:Pv):Blk (w.setCells g (i * 12) (parr p).toList) g t (flat (ps.set i p) ++ rest).toArray:=by
 have e1:ps=ps.take i ++ ps[i] :: ps.drop (i+1):=by rw [List.getElem_cons_drop,List.take_append_drop]
 have e2:ps.set i p=ps.take i ++ p :: ps.drop (i+1):=by rw [List.set_eq_take_append_cons_drop,if_pos hi]
 have hl:(flat (ps.take i)).length=i * 12:=by rw [flat_length,List.length_take,Nat.min_eq_left (by omega)]
 have e3:flat ps ++ rest=flat (ps.take i) ++ ((parr ps[i]).toList ++ (flat (ps.drop (i+1)) ++ rest)):=by
  conv=>lhs;rw [e1,flat_append]
  show flat (ps.take i) ++ ((parr ps[i]).toList ++ flat (ps.drop (i+1))) ++ rest=_
  simp only [List.append_assoc]
 have e4:flat (ps.set i p) ++ rest=flat (ps.take i) ++ ((parr p).toList ++ (flat (ps.drop (i+1)) ++ rest)):=by
  rw [e2,flat_append]
  show flat (ps.take i) ++ ((parr p).toList ++ flat (ps.drop (i+1))) ++ rest=_
  simp only [List.append_assoc]
 rw [e3] at h
 have h2:=Blk.mid (parr p).toList (parr ps[i]).toList (flat (ps.take i)) (flat (ps.drop (i+1)) ++ rest) w rfl h
 rw [hl] at h2
 rw [e4]
 exact h2
theorem Blk.rangeR {w:World} {g:Nat} {t:TypeId} {ps:List Pv} {rest:List Value} (h:Blk w g t (flat ps ++ rest).toArray) {i:Nat} {p:Pv} (hp:ps[i]?=some p):w.rangeAt g (0+i * 12) (parr p).toList:=
 h.range _ _ fun j hj=>by
  have hj':j < 12:=hj
  have hlt:i * 12+j < (flat ps).length:=by
   rw [flat_length]
   have:=(List.getElem?_eq_some_iff.1 hp).1
   omega
  rw [Nat.zero_add,List.getElem?_toArray,List.getElem?_append_left hlt]
  exact flat_get hp hj'
theorem Blk.thereR {w:World} {g:Nat} {t:TypeId} {ps:List Pv} {rest:List Value} (h:Blk w g t (flat ps ++ rest).toArray) {i:Nat} (hi:i < ps.length):w.there g (i * 12) 12:=there_of h (by rw [List.length_append,flat_length];omega)
set_option maxHeartbeats 8000000 in
set_option maxRecDepth 100000 in
theorem preverse_any (g n c:Nat) (ps:List Pv) (rest:List Value) (w:World) (h:Blk w g 28 (flat ps ++ rest).toArray) (hn:ps.length=n) (hb:n≤1000000000000):
 Calls Tryz.prog 52 #[.slice (some ⟨g,0,none⟩) n c] w (fun e w'=>(∃ v,e=.returned v)∧Hid (Blk w' g 28 (flat ps.reverse ++ rest).toArray)∧Hid (Kept g w w')):=by
 obtain ⟨z,hz⟩:∃ z:Pv,z=Qp.zero.pv none 0 none 0:=⟨_,rfl⟩
 have HB0:Hid (Blk w g 28 (flat (Sq.turned z ps 0) ++ rest).toArray):=Lib.hid (by rw [Sq.turned_zero];exact h)
 have HK0:=Lib.hid (Kept.refl g w)
 have HN:=Lib.hid hn
 clear h hz hn
 go_enter Tryz.func52,Tryz.ntmps52
 go_wp2_with fail
 go_loopw [2,3] (fun u2 u3 wr=>∃ k:Nat,u2=.int .i64 k∧u3=.int .i64 ((n:Int) - 1 - k)∧(k=0∨k < n)∧Hid (Blk wr g 28 (flat (Sq.turned z ps k) ++ rest).toArray)∧Hid (Kept g w wr)) (fun u2 u3 wr=>n - (intOf u2).toNat)
 case atStart=>exact ⟨0,rfl,by congr 1;omega,.inl rfl,HB0,HK0⟩
 case round=>
  clear HB0 HK0
  obtain ⟨k,rfl,rfl,hk,HB,HK⟩:=hrel
  by_cases hlt:k < n - 1 - k
  ·obtain ⟨j,hj⟩:∃ j:Nat,j=n - 1 - k:=⟨_,rfl⟩
   have hji:((n:Int) - 1 - k)=j:=by omega
   rw [hji]
   have hkl:k < ps.length - 1 - k:=by rw [HN.out];exact hlt
   have hlow:=Sq.turned_low z ps k hkl
   have hnext:=Sq.turned_next z ps k hkl
   have hlen:=Sq.turned_length z ps k
   rw [HN.out,← hj] at hlow hnext
   rw [HN.out] at hlen
   have HJ:=Lib.hid hj
   have HNX:=Lib.hid hnext
   have HL0:=Lib.hid hlow
   have HLN:=Lib.hid hlen
   have hkj:(k:Int) < (j:Int):=by omega
   have hkn:k < n:=by omega
   have hjn:j < n:=by omega
   have hk1:k < 1152921504606846976:=by omega
   have hj1:j < 1152921504606846976:=by omega
   clear hj hji hkl hlow hnext hlen hlt hk
   generalize Sq.turned z ps k=L at HB HL0 HNX HLN
   generalize ps.getD k z=X at HL0 HNX
   generalize ps.getD j z=Y at HL0 HNX
   go_wp2_with fail
   refine wp_region_noPanic (wp_region_held_drew (S:=fun _=>True) (by kernel_rfl) trivial (fun hv=>?_))
   have hb0:=HB.out.drew
   have hk0:=HK.out.drew
   generalize wr.drew=v0 at hb0 hk0 ⊢
   refine tf (i:=0) (v:=.slice (some ⟨g,0,none⟩) n c) rfl rfl (fun _=>rfl) hv ?_
   try simp only [Act.put,sA,s0,sS]
   refine tf (i:=1) (v:=.int .i64 k) rfl rfl (fun _=>rfl) hv ?_
   try simp only [Act.put,sA,s0,sS]
   refine tf (i:=2) (v:=.slice (some ⟨g,0,none⟩) n c) rfl rfl (fun _=>rfl) hv ?_
   try simp only [Act.put,sA,s0,sS]
   refine tf (i:=3) (v:=.int .i64 j) rfl rfl (fun _=>rfl) hv ?_
   try simp only [Act.put,sA,s0,sS]
   refine tf (i:=4) (v:=.slice (some ⟨g,0,none⟩) n c) rfl rfl (fun _=>rfl) hv ?_
   try simp only [Act.put,sA,s0,sS]
   refine tf (i:=5) (v:=.int .i64 j) rfl rfl (fun _=>rfl) hv ?_
   try simp only [Act.put,sA,s0,sS]
   refine ti (i:=6) g 0 n c j rfl rfl rfl rfl rfl hjn Tryz.underlying37 hv ?_
   try simp only [Act.put,sA,s0,sS]
   refine tf (i:=8) (v:=.slice (some ⟨g,0,none⟩) n c) rfl rfl (fun _=>rfl) hv ?_
   try simp only [Act.put,sA,s0,sS]
   refine tf (i:=9) (v:=.int .i64 k) rfl rfl (fun _=>rfl) hv ?_
   try simp only [Act.put,sA,s0,sS]
   refine ti (i:=10) g 0 n c k rfl rfl rfl rfl rfl hkn Tryz.underlying37 hv ?_
   try simp only [Act.put,sA,s0,sS]
   refine wpAnyH_ready (rs:=[7,11]) (by kernel_rfl) (by simp) ?_
   refine (AllReadyH.cons rfl (fun K hK=>?_) (AllReadyH.cons rfl (fun K hK=>?_) AllReadyH.nil))
   ·rw [if_pos (show _=true by kernel_rfl)]
    refine wp_load_mid 28 _ rfl g (0+j * 12) rfl (parr Y).toList _ (hb0.rangeR HL0.out.2) Tryz.underlying28 rfl (by kernel_rfl) ?_
    refine hK.out _ _ trivial (fun _=>?_)
    clear hK
    try simp only [Act.put,sA,s0,sS]
    refine wpAnyH_one (i:=11) (by kernel_rfl) rfl (by kernel_rfl) ?_
    refine wp_load_mid 28 _ rfl g (0+k * 12) rfl (parr X).toList _ (hb0.rangeR HL0.out.1) Tryz.underlying28 rfl (by kernel_rfl) ?_
    refine ⟨trivial,?_⟩
    try simp only [Act.put,sA,s0,sS]
    refine ti (i:=12) g 0 n c k rfl rfl rfl rfl rfl hkn Tryz.underlying37 hv ?_
    try simp only [Act.put,sA,s0,sS]
    refine wpAnyH_one (i:=13) (by kernel_rfl) rfl (by kernel_rfl) ?_
    refine wp_store_mid _ _ _ rfl g (0+k * 12) (parr Y) rfl rfl (by rw [Nat.zero_add];exact hb0.thereR (by rw [HLN.out];exact hkn)) (by kernel_rfl) (by first | rfl | simp [Value.oneCell']) ?_
    rw [Nat.zero_add (k * 12)]
    refine ⟨trivial,?_⟩
    try simp only [Act.put,sA,s0,sS]
    have hb1:=hb0.oneR (i:=k) (by rw [HLN.out];exact hkn) Y
    have hk1':=hk0.trans (Kept.set g v0 (k * 12) (parr Y).toList)
    generalize v0.setCells g (k * 12) (parr Y).toList=v1 at hb1 hk1' ⊢
    refine ti (i:=14) g 0 n c j rfl rfl rfl rfl rfl hjn Tryz.underlying37 hv ?_
    try simp only [Act.put,sA,s0,sS]
    refine wpAnyH_one (i:=15) (by kernel_rfl) rfl (by kernel_rfl) ?_
    refine wp_store_mid _ _ _ rfl g (0+j * 12) (parr X) rfl rfl (by rw [Nat.zero_add];exact hb1.thereR (by rw [List.length_set,HLN.out];exact hjn)) (by kernel_rfl) (by first | rfl | simp [Value.oneCell']) ?_
    rw [Nat.zero_add (j * 12)]
    refine ⟨trivial,?_⟩
    try simp only [Act.put,sA,s0,sS]
    have hb2:=hb1.oneR (i:=j) (by rw [List.length_set,HLN.out];exact hjn) X
    have hk2:=hk1'.trans (Kept.set g v1 (j * 12) (parr X).toList)
    generalize v1.setCells g (j * 12) (parr X).toList=v2 at hb2 hk2 ⊢
    rw [HNX.out] at hb2
    have HB2:=Lib.hid hb2
    have HK2:=Lib.hid hk2
    clear hb0 hk0 hb1 hk1' hb2 hk2 HB HK HL0 HNX HLN
    refine wpAnyH_done (by kernel_rfl) (NoPanic.normal ?_) _
    go_wp2_with fail
    go_roundw
    case rel=>exact ⟨k+1,rfl,by congr 1;have:=HJ.out;omega,.inr (by have :=HJ.out;omega),HB2,HK2⟩
    case measure=>simp [intOf];omega
   ·rw [if_pos (show _=true by kernel_rfl)]
    refine wp_load_mid 28 _ rfl g (0+k * 12) rfl (parr X).toList _ (hb0.rangeR HL0.out.1) Tryz.underlying28 rfl (by kernel_rfl) ?_
    refine hK.out _ _ trivial (fun _=>?_)
    clear hK
    try simp only [Act.put,sA,s0,sS]
    refine wpAnyH_one (i:=7) (by kernel_rfl) rfl (by kernel_rfl) ?_
    refine wp_load_mid 28 _ rfl g (0+j * 12) rfl (parr Y).toList _ (hb0.rangeR HL0.out.2) Tryz.underlying28 rfl (by kernel_rfl) ?_
    refine ⟨trivial,?_⟩
    try simp only [Act.put,sA,s0,sS]
    refine ti (i:=12) g 0 n c k rfl rfl rfl rfl rfl hkn Tryz.underlying37 hv ?_
    try simp only [Act.put,sA,s0,sS]
    refine wpAnyH_one (i:=13) (by kernel_rfl) rfl (by kernel_rfl) ?_
    refine wp_store_mid _ _ _ rfl g (0+k * 12) (parr Y) rfl rfl (by rw [Nat.zero_add];exact hb0.thereR (by rw [HLN.out];exact hkn)) (by kernel_rfl) (by first | rfl | simp [Value.oneCell']) ?_
    rw [Nat.zero_add (k * 12)]
    refine ⟨trivial,?_⟩
    try simp only [Act.put,sA,s0,sS]
    have hb1:=hb0.oneR (i:=k) (by rw [HLN.out];exact hkn) Y
    have hk1':=hk0.trans (Kept.set g v0 (k * 12) (parr Y).toList)
    generalize v0.setCells g (k * 12) (parr Y).toList=v1 at hb1 hk1' ⊢
    refine ti (i:=14) g 0 n c j rfl rfl rfl rfl rfl hjn Tryz.underlying37 hv ?_
    try simp only [Act.put,sA,s0,sS]
    refine wpAnyH_one (i:=15) (by kernel_rfl) rfl (by kernel_rfl) ?_
    refine wp_store_mid _ _ _ rfl g (0+j * 12) (parr X) rfl rfl (by rw [Nat.zero_add];exact hb1.thereR (by rw [List.length_set,HLN.out];exact hjn)) (by kernel_rfl) (by first | rfl | simp [Value.oneCell']) ?_
    rw [Nat.zero_add (j * 12)]
    refine ⟨trivial,?_⟩
    try simp only [Act.put,sA,s0,sS]
    have hb2:=hb1.oneR (i:=j) (by rw [List.length_set,HLN.out];exact hjn) X
    have hk2:=hk1'.trans (Kept.set g v1 (j * 12) (parr X).toList)
    generalize v1.setCells g (j * 12) (parr X).toList=v2 at hb2 hk2 ⊢
    rw [HNX.out] at hb2
    have HB2:=Lib.hid hb2
    have HK2:=Lib.hid hk2
    clear hb0 hk0 hb1 hk1' hb2 hk2 HB HK HL0 HNX HLN
    refine wpAnyH_done (by kernel_rfl) (NoPanic.normal ?_) _
    go_wp2_with fail
    go_roundw
    case rel=>exact ⟨k+1,rfl,by congr 1;have:=HJ.out;omega,.inr (by have :=HJ.out;omega),HB2,HK2⟩
    case measure=>simp [intOf];omega
  ·have HE:Hid (Blk wr g 28 (flat ps.reverse ++ rest).toArray):=Lib.hid (by
    rw [← Sq.turned_end z ps k (by rw [HN.out];omega)]
    exact HB.out)
   have hkj:¬ ((k:Int) < (n:Int) - 1 - k):=by omega
   clear HB hlt
   go_wp2_with fail
   go_end0
   exact ⟨⟨_,rfl⟩,HE,HK⟩
end Go.Proofs.YtfmgnaigcibcaaaGreatDoor
