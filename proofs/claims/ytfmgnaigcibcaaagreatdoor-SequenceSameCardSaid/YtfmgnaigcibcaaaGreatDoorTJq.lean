import Derived.Test.YtfmgnaigcibcaaaGreatDoorTJo
import Derived.Test.YtfmgnaigcibcaaaGreatDoorTJp
import Derived.RangeFuncNested
import Derived.RangeFuncBound
import Derived.RangeFuncLeaves
import Derived.Shelf.Abstract
import Derived.Shelf.RegionOpen
import Derived.OwnWalkIn
import Derived.TacticsInMore
import Derived.LoopNIn
import Derived.LoopIn
set_option linter.unusedSimpArgs false
set_option linter.unusedVariables false
namespace Go.Proofs.YtfmgnaigcibcaaaGreatDoor
open Go Go.RowKit Go.Shelf
attribute [local go_sem] Oper.semAt_some
namespace Sq
theorem findSome_flatMap {α β γ:Type} (f:β→Option γ) (g:α→List β):∀ xs:List α,(xs.flatMap g).findSome? f=xs.findSome? fun a=>(g a).findSome? f
 | []=>rfl
 | x :: xs=>by
   rw [List.flatMap_cons,List.findSome?_append,findSome_flatMap f g xs,List.findSome?_cons]
   cases (g x).findSome? f <;> rfl
theorem cancelAt_bad {l:List Qp} {i k:Nat} {q:Qp} (e:l.getD i Qp.zero=q) (h:q.check≠0):cancelAt l i k=none:=by
 unfold cancelAt
 rw [e,if_neg h]
theorem cancelAt_stay {l:List Qp} {i k:Nat} {q:Qp} (e:l.getD i Qp.zero=q) (h:q.check=0) (hm:move l k (i+1)=none):cancelAt l i k=none:=by
 unfold cancelAt
 rw [e,if_pos h,hm]
theorem cancelAt_go {l m:List Qp} {i k:Nat} {q:Qp} (e:l.getD i Qp.zero=q) (h:q.check=0) (hm:move l k (i+1)=some m):cancelAt l i k=if (m.getD (i+1) Qp.zero).same q.inv then some (m.take i ++ m.drop (i+2)) else none:=by
 unfold cancelAt
 rw [e,if_pos h,hm]
theorem cancelOne_pairs (l:List Qp):cancelOne l=(pairs l.length).findSome? fun x=>cancelAt l x.1 x.2:=by
 unfold cancelOne pairs prows
 rw [findSome_flatMap]
 congr 1
 funext d
 unfold cancelRow prow
 rw [List.findSome?_map]
 rfl
theorem pairs_mem {n:Nat} {x:Nat × Nat} (h:x∈pairs n):x.1 < x.2∧x.2 < n:=by
 unfold pairs prows at h
 obtain ⟨d,hd,hx⟩:=List.mem_flatMap.1 h
 obtain ⟨i,hi,rfl⟩:=List.mem_map.1 hx
 have:=List.mem_range'_1.1 hd
 have:=List.mem_range.1 hi
 dsimp only
 omega
def tried (l:List Qp) (k:Nat):Prop:=((pairs l.length).take k).findSome? (fun x=>cancelAt l x.1 x.2)=none
theorem tried_zero (l:List Qp):tried l 0:=by simp [tried]
theorem tried_next {l:List Qp} {k:Nat} {x:Nat × Nat} (h:tried l k) (hx:(pairs l.length)[k]?=some x) (hn:cancelAt l x.1 x.2=none):tried l (k+1):=by
 unfold tried at *
 rw [List.take_add_one,hx,List.findSome?_append,h]
 simp [hn]
theorem tried_all {l:List Qp} (h:tried l (pairs l.length).length):cancelOne l=none:=by
 unfold tried at h
 rw [List.take_length] at h
 rw [cancelOne_pairs,h]
theorem tried_hit {l m:List Qp} {k:Nat} {x:Nat × Nat} (h:tried l k) (hx:(pairs l.length)[k]?=some x) (hn:cancelAt l x.1 x.2=some m):cancelOne l=some m:=by
 unfold tried at h
 obtain ⟨hk,e⟩:=List.getElem?_eq_some_iff.1 hx
 rw [cancelOne_pairs]
 have:pairs l.length=(pairs l.length).take k ++ x :: (pairs l.length).drop (k+1):=by
  rw [← e,List.getElem_cons_drop,List.take_append_drop]
 rw [this,List.findSome?_append,h,List.findSome?_cons]
 simp [hn]
theorem cancelAt_fits {l m:List Qp} {i k:Nat} (h:cancelAt l i k=some m) (hi:i+1 < l.length) (hf:∀ q∈l,q.Fits):(∀ q∈m,q.Fits)∧m.length+2=l.length:=by
 unfold cancelAt at h
 split at h
 ·split at h
  ·rename_i m' hm
   split at h
   ·obtain rfl:=Option.some.inj h
    have hl:=move_length hm
    have f:=move_fits hm hf
    refine ⟨fun q hq=>?_,?_⟩
    ·rcases List.mem_append.1 hq with hq | hq
     ·exact f q (List.mem_of_mem_take hq)
     ·exact f q (List.mem_of_mem_drop hq)
    ·rw [List.length_append,List.length_take,List.length_drop]
     omega
   ·cases h
  ·cases h
 ·cases h
theorem cancelOne_fits {l m:List Qp} (h:cancelOne l=some m) (hf:∀ q∈l,q.Fits):(∀ q∈m,q.Fits)∧m.length+2=l.length:=by
 rw [cancelOne_pairs] at h
 obtain ⟨x,hx,hc⟩:=List.exists_of_findSome?_eq_some h
 have:=pairs_mem hx
 exact cancelAt_fits hc (by omega) hf
end Sq
def Cancelled (R:Option (List Qp)) (A:Option Addr) (n c:Nat) (w:World) (e:Ending) (w':World):Prop:=
 ((R=none∧e=.returned (.tuple #[.slice A n c,.bool false]))∨∃ m E n' c',R=some m∧m.length=n'∧e=.returned (.tuple #[.slice E n' c',.bool true])∧Hid (Qs w' (fun _=>True) E m))∧Ext w w'
structure Trying (w:World) (A:Option Addr) (n c:Nat) (l:List Qp) (k:Nat) (W:World):Prop where
 r0:Blk W w.heap.size 37 #[.slice A n c]
 r1:Blk W (w.heap.size+1) 37 #[.slice none 0 0]
 r2:Blk W (w.heap.size+2) 4 #[.bool false]
 r3:Blk W (w.heap.size+3) 3 #[.int .i64 n]
 ext:Ext w W
 tried:Sq.tried l k
def Struck (w:World) (l:List Qp) (W:World):Prop:=
 ∃ m E n' c',Sq.cancelOne l=some m∧m.length=n'∧Blk W (w.heap.size+1) 37 #[.slice E n' c']∧Blk W (w.heap.size+2) 4 #[.bool true]∧Qs W (fun _=>True) E m∧Ext w W
theorem Trying.steady {w:World} {A:Option Addr} {n c:Nat} {l:List Qp} {B:Nat} (hB:w.heap.size≤B) (k:Nat):Steady B (Trying w A n c l k):=fun W W' row h hg hr=>by
 have ht:Turned W W':=⟨row,hg,fun r e=>(hr r e).2⟩
 exact ⟨h.r0.turned ht,h.r1.turned ht,h.r2.turned ht,h.r3.turned ht,Ext.steady w hB W W' row h.ext hg hr,h.tried⟩
theorem Struck.steady {w:World} {l:List Qp} {B:Nat} (hB:w.heap.size≤B):Steady B (Struck w l):=fun W W' row h hg hr=>by
 have ht:Turned W W':=⟨row,hg,fun r e=>(hr r e).2⟩
 obtain ⟨m,E,n',c',h1,h2,h3,h4,h5,h6⟩:=h
 exact ⟨m,E,n',c',h1,h2,h3.turned ht,h4.turned ht,h5.turned ht,Ext.steady w hB W W' row h6 hg hr⟩
theorem Trying.into {w:World} {A:Option Addr} {n c:Nat} {l:List Qp} {k:Nat} {W W':World} (h:Trying w A n c l k W) (hx:Ext W W'):Trying w A n c l k W':=
 ⟨h.r0.ext hx,h.r1.ext hx,h.r2.ext hx,h.r3.ext hx,h.ext.trans hx,h.tried⟩
theorem Is.notin {w:World} {F:Nat→Prop} {p:Pv} {q:Qp} {g:Nat} {t:TypeId} {cs:Array Value} (h:Is w F p q) (hb:Blk w g t cs) (hs:∀ (i:Nat) (s:ByteArray),cs[i]?≠some (Value.string s)):Is w (fun b=>F b∧b≠g) p q:=by
 obtain ⟨A1,c1,A2,c2,e,⟨s1,s2⟩,f1,f2⟩:=h
 have go:∀ {A:Option Addr} {n c:Nat} {l:List ByteArray},Sl w A n c l→Fp F A n→Fp (fun b=>F b∧b≠g) A n:=by
  intro A n c l hs1 hf hn a ha
  refine ⟨hf hn a ha,?_⟩
  obtain ⟨b,o,hA,hlt,hc⟩:=hs1.1.2 hn
  rw [ha] at hA
  obtain rfl:=Option.some.inj hA
  rintro rfl
  have h0:=hc 0 hn
  rw [hb.cell] at h0
  exact hs _ _ h0
 exact ⟨A1,c1,A2,c2,e,⟨s1,s2⟩,go s1 f1,go s2 f2⟩
theorem Qs.notin {w:World} {F:Nat→Prop} {A:Option Addr} {l:List Qp} {g:Nat} {t:TypeId} {cs:Array Value} (h:Qs w F A l) (hb:Blk w g t cs) (hs:∀ (i:Nat) (s:ByteArray),cs[i]?≠Option.some (Value.string s)):Qs w (fun b=>F b∧b≠g) A l:=by
 obtain ⟨ps,h1,h2,h3⟩:=h
 exact ⟨ps,h1,h2,fun i p q hp hq=>(h3 i p q hp hq).notin hb hs⟩
theorem no_string_one {v:Value} (h:∀ s:ByteArray,v≠Value.string s):∀ (i:Nat) (s:ByteArray),(#[v]:Array Value)[i]?≠some (Value.string s):=fun i s e=>by
 cases i with
 | zero=>exact h s (by simpa using e)
 | succ i=>simp at e
theorem Trying.struck {w:World} {A:Option Addr} {n c:Nat} {l m:List Qp} {k g e cap:Nat} {W v1 W5:World} (h:Trying w A n c l k W) (hv:Ext W v1) (hk:Kept g v1 W5) (hg:W.heap.size≤g) (hm:Sq.cancelOne l=some m) (he:m.length=e) (hq:Qs W5 (fun b=>b≠g) (some ⟨g,0,none⟩) m):
 KeepsOthers W ((W5.setCell ⟨w.heap.size+1,0,none⟩ (.slice (some ⟨g,0,none⟩) e cap)).setCell ⟨w.heap.size+1+1,0,none⟩ (.bool true))∧Struck w l ((W5.setCell ⟨w.heap.size+1,0,none⟩ (.slice (some ⟨g,0,none⟩) e cap)).setCell ⟨w.heap.size+1+1,0,none⟩ (.bool true)):=by
 have l3:=h.r3.lt
 have b1:=hk.blk _ _ _ (h.r1.ext hv) (by omega)
 have b2:=hk.blk _ _ _ (h.r2.ext hv) (by omega)
 have hx5:Ext W W5:=hk.ext W hv hg
 have q5:=(hq.notin b1 (no_string_one (fun s e=>by cases e))).notin b2 (no_string_one (fun s e=>by cases e))
 have hoff:Off (fun b=>b=w.heap.size+1∨b=w.heap.size+2) W5 ((W5.setCell ⟨w.heap.size+1,0,none⟩ (.slice (some ⟨g,0,none⟩) e cap)).setCell ⟨w.heap.size+1+1,0,none⟩ (.bool true)):=
  ((Off.refl (fun b=>b=w.heap.size+1∨b=w.heap.size+2) W5).cell ⟨w.heap.size+1,0,none⟩ (.inl (.inl rfl)) _).cell ⟨w.heap.size+1+1,0,none⟩ (.inl (.inr rfl)) _
 refine ⟨(hx5.keeps.trans (KeepsOthers.setCell _ _ _)).trans (KeepsOthers.setCell _ _ _),m,some ⟨g,0,none⟩,e,cap,hm,he,?_,?_,?_,?_⟩
 ·exact Blk.far (p:=⟨w.heap.size+1+1,0,none⟩) (Blk.conv (b1.set_ 0 (.slice (some ⟨g,0,none⟩) e cap)) (by simp)) (by show w.heap.size+1≠w.heap.size+1+1;omega) _
 ·exact Blk.conv ((Blk.far (p:=⟨w.heap.size+1,0,none⟩) b2 (by show w.heap.size+2≠w.heap.size+1;omega) _).set_ 0 (.bool true)) (by simp)
 ·exact (q5.offD hoff (fun _ ad e1=>by obtain rfl:=Option.some.inj e1;show ¬ (g=_∨g=_);omega) (fun b hb=>by have :=hb.1.2;have:=hb.2;omega)).mono fun _ _=>trivial
 ·exact Ext.setCell (p:=⟨w.heap.size+1+1,0,none⟩) (Ext.setCell (p:=⟨w.heap.size+1,0,none⟩) (h.ext.trans hx5) (by show w.heap.size≤w.heap.size+1;omega) _) (by show w.heap.size≤w.heap.size+1+1;omega) _
theorem Trying.ends {w:World} {A:Option Addr} {n c:Nat} {l:List Qp} {k D:Nat} {W:World} (h:Trying w A n c l k W) (hD:w.heap.size≤D) (hK:W.heap[D]?=some (.deferred (some []))):
 ((W.setCell ⟨w.heap.size+1,0,none⟩ (.slice A n c)).setCell ⟨w.heap.size+1+1,0,none⟩ (.bool false)).heap[D]?=some (.deferred (some [])) ∧
 (∀ i,(((W.setCell ⟨w.heap.size+1,0,none⟩ (.slice A n c)).setCell ⟨w.heap.size+1+1,0,none⟩ (.bool false)).putObj D (.deferred none)).cell? ⟨w.heap.size+1,i,none⟩=(#[.slice A n c]:Array Value)[i]?) ∧
 (∀ i,(((W.setCell ⟨w.heap.size+1,0,none⟩ (.slice A n c)).setCell ⟨w.heap.size+1+1,0,none⟩ (.bool false)).putObj D (.deferred none)).cell? ⟨w.heap.size+1+1,i,none⟩=(#[.bool false]:Array Value)[i]?) ∧
 Ext w (((W.setCell ⟨w.heap.size+1,0,none⟩ (.slice A n c)).setCell ⟨w.heap.size+1+1,0,none⟩ (.bool false)).putObj D (.deferred none)):=by
 have hk6:((W.setCell ⟨w.heap.size+1,0,none⟩ (.slice A n c)).setCell ⟨w.heap.size+1+1,0,none⟩ (.bool false)).heap[D]?=some (.deferred (some [])):=
  ((KeepsOthers.setCell W ⟨w.heap.size+1,0,none⟩ _).trans (KeepsOthers.setCell _ _ _)).same _ _ hK rfl
 have ht:Turned ((W.setCell ⟨w.heap.size+1,0,none⟩ (.slice A n c)).setCell ⟨w.heap.size+1+1,0,none⟩ (.bool false)) (((W.setCell ⟨w.heap.size+1,0,none⟩ (.slice A n c)).setCell ⟨w.heap.size+1+1,0,none⟩ (.bool false)).putObj D (.deferred none)):=⟨some D,grownBy_putObj' _ D _,fun r e=>by cases e;exact ⟨_,hk6,rfl⟩⟩
 have b1:Blk ((W.setCell ⟨w.heap.size+1,0,none⟩ (.slice A n c)).setCell ⟨w.heap.size+1+1,0,none⟩ (.bool false)) (w.heap.size+1) 37 #[.slice A n c]:=
  Blk.far (p:=⟨w.heap.size+1+1,0,none⟩) (Blk.conv (h.r1.set_ 0 (.slice A n c)) (by simp)) (by show w.heap.size+1≠w.heap.size+1+1;omega) _
 have b2:Blk ((W.setCell ⟨w.heap.size+1,0,none⟩ (.slice A n c)).setCell ⟨w.heap.size+1+1,0,none⟩ (.bool false)) (w.heap.size+1+1) 4 #[.bool false]:=
  Blk.conv ((Blk.far (p:=⟨w.heap.size+1,0,none⟩) h.r2 (by show w.heap.size+2≠w.heap.size+1;omega) _).set_ 0 (.bool false)) (by simp)
 refine ⟨hk6,(b1.turned ht).cell,(b2.turned ht).cell,?_⟩
 exact (Ext.setCell (p:=⟨w.heap.size+1+1,0,none⟩) (Ext.setCell (p:=⟨w.heap.size+1,0,none⟩) h.ext (by show w.heap.size≤w.heap.size+1;omega) _) (by show w.heap.size≤w.heap.size+1+1;omega) _).putObj hD _
set_option maxHeartbeats 16000000 in
set_option maxRecDepth 100000 in
theorem cancelone_in (n0:Nat) (hn0:9≤n0) (A:Option Addr) (n c:Nat) (l:List Qp) (w:World) (hg:Glob w) {F:Nat→Prop} (h:Qs w F A l) (hn:l.length=n) (hb:n≤1000000000000) (hf:∀ q∈l,q.Fits):
 CallsIn Fence.wide n0 Tryz.prog 55 #[.slice A n c] w (Cancelled (Sq.cancelOne l) A n c w):=by
 have HG:=Lib.hid hg
 have HQ:=Lib.hid h.in
 have HN:=Lib.hid hn
 have HF:=Lib.hid hf
 have HGV:=Lib.hid (fun n1 (h1:3≤n1)=>pairs1_gives n1 h1 (w.heap.size+3) n hb (Trying w A n c l) (Struck w l) (fun k W h=>h.r3))
 clear hg h hn hf
 refine callsIn_of_wp_marks Tryz.func55 rfl trivial ?_ rfl
 simp only [Tryz.ntmps55,List.size_toArray,List.length_cons,List.length_nil,Nat.reduceAdd,Nat.reduceSub,Array.replicate_succ,Array.replicate_zero,List.push_toArray,List.append_toArray,List.nil_append,List.cons_append]
 gi_wp2_with (refine ⟨trivial,fun _=>(by omega),?_⟩;gi_at_call 88;refine (callsIn_wide.2 (pairs_same _ _)).mono ?_;rintro e w1 ⟨rfl,hww⟩;first | obtain rfl:=hww.symm | obtain rfl:=hww)
 have HB0:Hid (Trying w A n c l 0 ((((w.alloc (.cells #[.slice A n c] 37)).alloc (.cells #[.slice none 0 0] 37)).alloc (.cells #[.bool false] 4)).alloc (.cells #[.int .i64 n] 3))):=Lib.hid
  ⟨Blk.alloc (Blk.alloc (Blk.alloc (Blk.new' rfl) _) _) _,Blk.alloc (Blk.alloc (Blk.new' (by simp)) _) _,Blk.alloc (Blk.new' (by simp)) _,Blk.new' (by simp),((((Ext.refl w).alloc _).alloc _).alloc _).alloc _,Sq.tried_zero l⟩
 refine wpIn_range_leave (gf:=112) (lb:=#[.pointer (some ⟨w.heap.size+1+1+1,0,none⟩)]) rfl (enters_of Tryz.func112 (by kernel_rfl) rfl) (encs:=fun x:Nat × Nat=>#[.int .i64 x.1,.int .i64 x.2]) (HGV.out (n0 - 1) (by omega)) (fun _=>rfl)
  (fun k x a' W=>Trying w A n c l k W∧(Sq.pairs n)[k]?=some x∧a'={ tmps:=#[.slice A n c,.pointer (some ⟨w.heap.size,0,none⟩),.pointer (some ⟨w.heap.size+1,0,none⟩),.pointer (some ⟨w.heap.size+1+1,0,none⟩),.int .i64 x.1,.int .i64 x.2,undef,undef,undef,undef,.slice A n c,.int .i64 n,.func (.func 112) #[] #[.pointer (some ⟨w.heap.size+1+1+1,0,none⟩)],.int .i64 x.1,.int .i64 x.2,undef,undef,undef,undef,undef,undef,undef,undef,undef,undef,undef,undef,undef,undef,undef,undef,undef,undef,undef,undef,undef,undef,undef,undef,undef,undef,undef,undef,undef,undef,undef,undef,undef,undef],defers:=[] })
  (fun k=>Trying.steady (by simp;omega) k) ?stA (fun k x=>Trying.steady (by simp;omega) (k+1)) (Struck.steady (by simp;omega)) HB0.out ?assign ?body ?done ?stop
 case stA=>
  intro k x a' W W' row h hg hr
  exact ⟨Trying.steady (by simp;omega) k W W' row h.1 hg hr,h.2⟩
 case assign=>
  rintro l' k ⟨x1,x2⟩ W K hA hK
  have HA:=Lib.hid hA
  have HK:=Lib.hid hK
  clear hA hK HGV HB0
  gi_wp2
  exact HK.out _ _ (Ext.refl W).keeps ⟨HA.out.1,HA.out.2,rfl⟩
 case body=>
  rintro l' k ⟨x1,x2⟩ a' W ⟨hT,hx,rfl⟩
  clear HGV HB0
  obtain ⟨hlt1,hlt2⟩:x1 < x2∧x2 < n:=Sq.pairs_mem (List.mem_of_getElem? hx)
  have hkl:x1 < l.length:=by rw [HN.out];omega
  have e1:l[x1]?=some (l[x1]'hkl):=List.getElem?_eq_getElem hkl
  have e2:l.getD x1 Qp.zero=l[x1]'hkl:=by rw [List.getD_eq_getElem?_getD,e1];rfl
  have fq:=HF.out _ (List.mem_of_getElem? e1)
  obtain ⟨ba,oa,p,rfl,hbl,hc,hi⟩:=(HQ.out.ext hT.ext).get e1
  generalize l[x1]'hkl=q at e1 e2 fq hi
  have hx':(Sq.pairs l.length)[k]?=some (x1,x2):=by rw [HN.out];exact hx
  have HE2:=Lib.hid e2
  have HT:=Lib.hid hT
  have HX:=Lib.hid hx'
  have HNEXT:Hid (∀ W',Ext W W'→Sq.cancelAt l x1 x2=none→KeepsOthers W W'∧Trying w (some ⟨ba,oa,none⟩) n c l (k+1) W'):=Lib.hid fun W' hW hc=>
   ⟨hW.keeps,{ hT.into hW with tried:=Sq.tried_next hT.tried hx' hc }⟩
  have hcb:=hT.r0.cell
  have hlb:=hT.r0.lt
  have HI:=Lib.hid hi
  obtain ⟨q0,q1,q2,q3,q4,q5,q6,q7,q8,q9,q10,q11⟩:=cells12 hc
  have hx12:x2 < n:=hlt2
  have hx11:x1 < n:=by omega
  by_cases hk:q.check=0
  ·have HIV:=Lib.hid (fun W' (hW:Ext W W')=>inv_good p q W' (HG.out.ext (HT.out.ext.trans hW)) (HI.out.ext hW) fq.1 fq.2.1 fq.2.2.1 fq.2.2.2 hk)
   have HMV:=Lib.hid (fun W' (hW:Ext W W')=>move_any (some ⟨ba,oa,none⟩) n c x2 (x1+1) l W' (HG.out.ext (HT.out.ext.trans hW)) (HQ.out.ext (HT.out.ext.trans hW)) HN.out hlt2 (by omega) hb HF.out)
   have HQK:=Lib.hid hk
   have FI:=Lib.hid (check_fits (inv_check hk))
   clear hT hx hx' hc hi e1 e2 fq hk
   gi_wp2_with fail
   clear q0 q1 q2 q3 q4 q5 q6 q7 q8 q9 q10 q11 hcb hlb
   refine ⟨trivial,fun _=>(by omega),?_⟩
   refine (callsIn_wide.2 (HIV.out _ (Ext.refl W))).mono ?_
   rintro e W1 ⟨P,rfl,hIP,hx1⟩
   have hx2:=hx1.alloc (.cells (parr P) 28)
   have HP:=Lib.hid (hIP.alloc (.cells (parr P) 28))
   have hbp:Blk (W1.alloc (.cells (parr P) 28)) W1.heap.size 28 (parr P):=Blk.new' rfl
   obtain ⟨g6,eg6⟩:∃ g,g=W1.heap.size:=⟨_,rfl⟩
   have hb0:=HT.out.r0.ext hx1
   have hcb:=hb0.cell
   have hlb:=hb0.lt
   have HBP:=Lib.hid hbp
   have HX2S:Hid (W.heap.size≤(W1.alloc (.cells (parr P) 28)).heap.size):=Lib.hid hx2.size_le
   have HX2:=Lib.hid hx2
   clear hx1 hIP HIV hbp hx2 hb0
   gi_wp2_with fail
   clear hcb hlb
   refine ⟨trivial,fun _=>(by omega),?_⟩
   refine (callsIn_wide.2 (HMV.out _ HX2.out)).mono ?_
   rintro e W3 ⟨hres,hx3⟩
   have hx4:=HX2.out.trans hx3
   replace HP:=Lib.hid (HP.out.ext hx3)
   replace HBP:=Lib.hid (HBP.out.ext hx3)
   rw [← eg6] at HBP ⊢
   clear HMV HX2 hx3 eg6
   rcases hres with ⟨hm,rfl⟩ | ⟨m,g,hm,rfl,hgw,ho⟩
   ·have HCN:Hid (Sq.cancelAt l x1 x2=none):=Lib.hid (Sq.cancelAt_stay HE2.out HQK.out hm)
    clear hm
    gi_wp2_with fail
    refine wpIn_region_held (S:=fun W'=>Ext W3 W') (by kernel_rfl) (noDefer_spec (by kernel_rfl)) (fun h=>by obtain ⟨_,_,h⟩:=h;exact h) (Ext.refl W3).drew1 (fun hv=>?_)
    refine tf (i:=0) (v:=.bool false) rfl rfl (fun _=>rfl) hv ?_
    try simp only [Act.put,sA,s0,sS]
    refine tf (i:=1) (v:=.bool false) rfl rfl (fun _=>rfl) hv ?_
    try simp only [Act.put,sA,s0,sS]
    refine tk (i:=2) rfl rfl hv ?_
    try simp only [Act.put,sA,s0,sS]
    refine tk (i:=3) rfl rfl hv ?_
    try simp only [Act.put,sA,s0,sS]
    refine tk (i:=4) rfl rfl hv ?_
    try simp only [Act.put,sA,s0,sS]
    refine tk (i:=5) rfl rfl hv ?_
    try simp only [Act.put,sA,s0,sS]
    refine tk (i:=6) rfl rfl hv ?_
    try simp only [Act.put,sA,s0,sS]
    refine tk (i:=7) rfl rfl hv ?_
    try simp only [Act.put,sA,s0,sS]
    refine tk (i:=8) rfl rfl hv ?_
    try simp only [Act.put,sA,s0,sS]
    refine tf (i:=9) (v:=.bool false) rfl rfl (fun _=>rfl) hv ?_
    try simp only [Act.put,sA,s0,sS]
    refine wpAnyH_done (by kernel_rfl) (NoPanic.normal ?_) _
    have HZ:=Lib.hid (HNEXT.out _ hx4.drew1 HCN.out)
    clear HNEXT HCN hx4 hv HP HBP
    gi_wp2_with fail
    exact HZ.out
   ·have hml:=(Sq.move_length hm).trans HN.out
    have hlt:x1+1 < m.length:=by omega
    have e0:m[x1+1]?=some (m[x1+1]'hlt):=List.getElem?_eq_getElem hlt
    have fy:=Sq.move_fits hm HF.out _ (List.mem_of_getElem? e0)
    have hd:m.getD (x1+1) Qp.zero=m[x1+1]'hlt:=by rw [List.getD_eq_getElem?_getD,e0];rfl
    obtain ⟨P2,hi2,hr2⟩:=ho.out.at e0
    have HC3:Hid (Sq.cancelAt l x1 x2=if (m[x1+1]'hlt).same q.inv then some (m.take x1 ++ m.drop (x1+2)) else none):=Lib.hid (by rw [Sq.cancelAt_go HE2.out HQK.out hm,hd])
    generalize m[x1+1]'hlt=y at e0 fy hi2 HC3
    have HE:=Lib.hid (fun W' (hW:Ext W3 W')=>sequalp_any P2 P y q.inv W' (hi2.ext hW) (HP.out.ext hW) fy.1 fy.2.1 FI.out.1 FI.out.2.1)
    have HR2:=Lib.hid hr2
    have HML:=Lib.hid hml
    have HO:=Lib.hid ho.out
    have HGW:Hid (W.heap.size≤g):=Lib.hid (by have :=hgw;have:=HX2S.out;omega)
    have hx1b:x1 < 1152921504606846976:=by omega
    have hx1n:x1+1 < n:=by omega
    clear hm hlt e0 hd hi2 hr2 fy hgw ho hml
    gi_wp2_with fail
    refine wpIn_region_held (S:=fun W'=>Ext W3 W') (by kernel_rfl) (noDefer_spec (by kernel_rfl)) (fun h=>by obtain ⟨_,_,h⟩:=h;exact h) (Ext.refl W3).drew1 (fun hv=>?_)
    generalize W3.drew=v0 at hv ⊢
    refine tf (i:=0) (v:=.bool true) rfl rfl (fun _=>rfl) hv ?_
    try simp only [Act.put,sA,s0,sS]
    refine tf (i:=1) (v:=.bool true) rfl rfl (fun _=>rfl) hv ?_
    try simp only [Act.put,sA,s0,sS]
    refine tf (i:=2) (v:=.slice (some ⟨g,0,none⟩) n n) rfl rfl (fun _=>rfl) hv ?_
    try simp only [Act.put,sA,s0,sS]
    refine tf (i:=3) (v:=.int .i64 x1) rfl rfl (fun _=>rfl) hv ?_
    try simp only [Act.put,sA,s0,sS]
    refine take_next (i:=4) x1 rfl rfl rfl (by kernel_rfl) (by kernel_rfl) (by kernel_rfl) (by kernel_rfl) rfl hx1b hv (fun w=>by unfold execOp;simp [go_sem,IntKind.wrap_i64];omega) ?_
    try simp only [Act.put,sA,s0,sS]
    refine ti (i:=5) g 0 n n (x1+1) rfl rfl rfl rfl rfl hx1n Tryz.underlying37 hv ?_
    try simp only [Act.put,sA,s0,sS]
    refine tg (i:=6) (parr P2).toList rfl rfl rfl rfl Tryz.underlying28 rfl (fun _ h=>HR2.out _ h) hv ?_
    try simp only [Act.put,sA,s0,sS]
    refine tg (i:=7) (parr P).toList rfl rfl rfl rfl Tryz.underlying28 rfl (fun _ h=>(HBP.out.ext h).range 0 _ (fun j _=>by rw [Nat.zero_add,Array.getElem?_toList])) hv ?_
    try simp only [Act.put,sA,s0,sS]
    refine wpAnyH_one (i:=8) (by kernel_rfl) rfl (by kernel_rfl) ?_
    go_simp
    refine (HE.out _ hv).mono ?_
    rintro e v1 ⟨rfl,hx0⟩
    have hv2:=hv.trans hx0
    clear hv hx0
    have hv:=hv2
    clear hv2
    refine ⟨hv,?_⟩
    try simp only [Act.put,sA,s0,sS]
    cases hs:y.same q.inv
    ·have HCN:Hid (Sq.cancelAt l x1 x2=none):=Lib.hid (by rw [HC3.out,hs];rfl)
     clear HC3 hs
     refine tf (i:=9) (v:=.bool false) rfl rfl (fun _=>rfl) hv ?_
     try simp only [Act.put,sA,s0,sS]
     refine wpAnyH_done (by kernel_rfl) (NoPanic.normal ?_) _
     have HZ:=Lib.hid (HNEXT.out _ (hx4.trans hv) HCN.out)
     clear HNEXT HCN hx4 hv HP HBP HE HR2 HML HO HGW
     gi_wp2_with fail
     exact HZ.out
    ·have HCS:Hid (Sq.cancelOne l=some (m.take x1 ++ m.drop (x1+2))):=Lib.hid (Sq.tried_hit HT.out.tried HX.out (by rw [HC3.out,hs];rfl))
     clear HC3 hs HNEXT HE HR2 HP HBP
     refine tf (i:=9) (v:=.bool true) rfl rfl (fun _=>rfl) hv ?_
     try simp only [Act.put,sA,s0,sS]
     refine wpAnyH_done (by kernel_rfl) (NoPanic.normal ?_) _
     have HDL:=Lib.hid (pdelete_any g n x1 m v1 (HO.out.ext hv) HML.out (by omega) hb)
     have HHV:=Lib.hid (hx4.trans hv)
     clear hx4 hv
     gi_wp2_with fail
     refine ⟨trivial,fun _=>(by omega),?_⟩
     refine (callsIn_wide.2 HDL.out).mono ?_
     rintro e W5 ⟨rfl,hq5,hk5⟩
     have b1:=hk5.out.blk _ _ _ (HT.out.r1.ext HHV.out) (by have :=HT.out.r3.lt;have:=HGW.out;omega)
     have b2:=hk5.out.blk _ _ _ (HT.out.r2.ext HHV.out) (by have :=HT.out.r3.lt;have:=HGW.out;omega)
     have HS:=Lib.hid (HT.out.struck (cap:=n) HHV.out hk5.out HGW.out HCS.out (e:=n - 2) (by have :=HML.out;rw [List.length_append,List.length_take,List.length_drop];omega) hq5.out)
     have c1:=b1.cell
     have f1:=b1.frozen
     have l1:=b1.lt
     have c2:∀ i,W5.cell? ⟨w.heap.size+1+1,i,none⟩=_:=b2.cell
     have f2:∀ i,W5.frozen? ⟨w.heap.size+1+1,i,none⟩=_:=b2.frozen
     have l2:w.heap.size+1+1 < W5.heap.size:=b2.lt
     clear b1 b2 hq5 hk5 HDL HCS HHV HML HO
     dsimp only
     gi_wp2_with fail
     exact HS.out
  ·have HIV:=Lib.hid (fun W' (hW:Ext W W')=>inv_bad p q W' (HG.out.ext (HT.out.ext.trans hW)) (HI.out.ext hW) fq.1 fq.2.1 fq.2.2.1 fq.2.2.2 hk)
   have HCN:Hid (Sq.cancelAt l x1 x2=none):=Lib.hid (Sq.cancelAt_bad e2 hk)
   have hkk:=hk
   clear hT hx hx' hc hi e1 e2 fq hk
   gi_wp2_with fail
   clear q0 q1 q2 q3 q4 q5 q6 q7 q8 q9 q10 q11 hcb hlb
   refine ⟨trivial,fun _=>(by omega),?_⟩
   refine (callsIn_wide.2 (HIV.out _ (Ext.refl W))).mono ?_
   rintro e W1 ⟨P,rfl,hIP,hx1⟩
   have hxx:=hx1.alloc (.cells (parr P) 28)
   have HZ:=Lib.hid (HNEXT.out _ hxx HCN.out)
   clear HNEXT HCN hxx hx1 hIP HIV
   gi_wp2_with fail
   exact HZ.out
 case done=>
  intro D W hD hI hK
  have hD2:w.heap.size≤D:=by simp at hD;omega
  have HDN:=Lib.hid (hI.ends hD2 hK)
  have HZ:Hid (Sq.cancelOne l=none):=Lib.hid (Sq.tried_all (by have :=hI.tried;rwa [← HN.out] at this))
  have c0:=hI.r0.cell
  have l0:=hI.r0.lt
  have c1:=hI.r1.cell
  have f1:=hI.r1.frozen
  have l1:=hI.r1.lt
  have c2:∀ i,W.cell? ⟨w.heap.size+1+1,i,none⟩=_:=hI.r2.cell
  have f2:∀ i,W.frozen? ⟨w.heap.size+1+1,i,none⟩=_:=hI.r2.frozen
  have l2:w.heap.size+1+1 < W.heap.size:=hI.r2.lt
  clear hI hK hD hD2 HGV HB0 HQ HN HF HG
  gi_wp2_with fail
  clear c0 l0 c1 f1 l1 c2 f2 l2
  obtain ⟨hk6,t1,t2,hx6⟩:=HDN.out
  clear HDN
  refine ⟨by simp,.inl ⟨_,_,rfl,run_takeDeferred hk6,?_⟩⟩
  refine ⟨.tuple #[.slice A n c,.bool false],?_,?_⟩
  ·clear hx6 hk6
   simp only [results,Tryz.results55]
   go_simp
  ·exact ⟨.inl ⟨HZ.out,rfl⟩,hx6⟩
 case stop=>
  intro D W hD hX hK
  obtain ⟨m,E,n',c',hm,hl,r1,r2,hq,hx⟩:=hX
  have HK:=Lib.hid hK
  have ht:Turned W (W.putObj D (.deferred none)):=⟨some D,grownBy_putObj' W D _,fun r e=>by cases e;exact ⟨_,HK.out,rfl⟩⟩
  have t1:=(r1.turned ht).cell
  have t2:∀ i,(W.putObj D (.deferred none)).cell? ⟨w.heap.size+1+1,i,none⟩=_:=(r2.turned ht).cell
  have HX:=Lib.hid (hx.putObj (D:=D) (by simp at hD;omega) (.deferred none))
  have HQM:=Lib.hid (hq.turned ht)
  have HM:=Lib.hid hm
  have HL:=Lib.hid hl
  clear ht r1 r2 hx hm hq hl hK HGV HB0 HQ HN HF HG
  gi_wp2_with fail
  refine ⟨by simp,.inl ⟨_,_,rfl,run_takeDeferred HK.out,?_⟩⟩
  refine ⟨.tuple #[.slice E n' c',.bool true],?_,?_⟩
  ·simp only [results,Tryz.results55]
   go_simp
  ·exact ⟨.inr ⟨m,E,n',c',HM.out,HL.out,rfl,HQM⟩,HX.out⟩
theorem cancelone_any (A:Option Addr) (n c:Nat) (l:List Qp) (w:World) (hg:Glob w) {F:Nat→Prop} (h:Qs w F A l) (hn:l.length=n) (hb:n≤1000000000000) (hf:∀ q∈l,q.Fits):
 Calls Tryz.prog 55 #[.slice A n c] w (Cancelled (Sq.cancelOne l) A n c w):=
 (callsIn_wide (n:=9)).1 (cancelone_in 9 (Nat.le_refl _) A n c l w hg h hn hb hf)
namespace Sq
theorem cancelN_none {l:List Qp} (h:cancelOne l=none) (k:Nat):cancelN k l=l:=by
 cases k with
 | zero=>rfl
 | succ k=>unfold cancelN;rw [h]
theorem cancelOne_short {l m:List Qp} (h:cancelOne l=some m):m.length+2=l.length:=by
 rw [cancelOne_pairs] at h
 obtain ⟨x,hx,hc⟩:=List.exists_of_findSome?_eq_some h
 have:=pairs_mem hx
 unfold cancelAt at hc
 split at hc
 ·split at hc
  ·rename_i m' hm
   split at hc
   ·obtain rfl:=Option.some.inj hc
    have hl:=move_length hm
    rw [List.length_append,List.length_take,List.length_drop]
    omega
   ·cases hc
  ·cases hc
 ·cases hc
theorem cancelN_more:∀ (l:List Qp) (k:Nat),l.length≤k→cancelN k l=cancelN l.length l
 | l,k,h=>by
   cases hc:cancelOne l with
   | none=>rw [cancelN_none hc,cancelN_none hc]
   | some m=>
     have hs:=cancelOne_short hc
     obtain ⟨j,rfl⟩:∃ j,k=j+1:=⟨k - 1,by omega⟩
     obtain ⟨i,hi⟩:∃ i,l.length=i+1:=⟨l.length - 1,by omega⟩
     rw [hi]
     show (match cancelOne l with | some m=>cancelN j m | none=>l)=(match cancelOne l with | some m=>cancelN i m | none=>l)
     rw [hc]
     dsimp only
     rw [cancelN_more m j (by omega),cancelN_more m i (by omega)]
termination_by l=>l.length
theorem cancelN_some {l m:List Qp} (h:cancelOne l=some m) (k:Nat):cancelN (k+1) l=cancelN k m:=by
 show (match cancelOne l with | some m=>cancelN k m | none=>l)=_
 rw [h]
end Sq
attribute [local go_sem ↓] Go.wp_at_zero Go.wp_at_succ
set_option maxHeartbeats 8000000 in
set_option maxRecDepth 100000 in
theorem cancel_any (A:Option Addr) (n c:Nat) (l:List Qp) (w:World) (hg:Glob w) {F:Nat→Prop} (h:Qs w F A l) (hn:l.length=n) (hb:n≤1000000000000) (hf:∀ q∈l,q.Fits):
 Calls Tryz.prog 26 #[.slice A n c] w (fun e w'=>∃ E n' c',e=.returned (.slice E n' c')∧(Sq.cancel l).length=n'∧n'≤n∧Hid (Qs w' (fun _=>True) E (Sq.cancel l))∧Hid (∀ q∈Sq.cancel l,q.Fits)∧Ext w w'):=by
 have HG:=Lib.hid hg
 have HQ0:=Lib.hid h.wide
 have HN0:=Lib.hid hn
 have HF0:=Lib.hid hf
 have H0:Hid (Sq.cancel l=Sq.cancelN l.length l):=Lib.hid rfl
 generalize Sq.cancel l=R at H0 ⊢
 clear h hn hf hg
 go_enter Tryz.func26,Tryz.ntmps26
 have hx:=Ext.refl w
 go_wp2_with fail
 go_loopw [0,3] (fun u0 u3 wr=>∃ (E:Option Addr) (n' c':Nat) (m:List Qp) (ok:Bool),u0=.slice E n' c'∧u3=.bool ok∧n'≤n∧Ext w wr∧Hid (Qs wr (fun _=>True) E m)∧Hid (m.length=n')∧Hid (∀ q∈m,q.Fits)∧Hid (R=Sq.cancelN m.length m)∧Hid (ok=false→R=m)) (fun u0 u3 wr=>(match u0 with | .slice _ n _=>n | _=>0)+(match u3 with | .bool true=>1 | _=>0))
 case atStart=>exact ⟨A,n,c,l,true,rfl,rfl,Nat.le_refl _,hx,HQ0,HN0,HF0,H0,Lib.hid (fun e=>nomatch e)⟩
 case round=>
  clear HQ0 HN0 HF0 H0 hx
  obtain ⟨E,n',c',m,ok,rfl,rfl,hn',hx,HQ,HN,HF,HR,HE⟩:=hrel
  cases ok
  ·have HZ:Hid (R=m):=Lib.hid (HE.out rfl)
   clear HR HE
   go_wp2_with fail
   refine bodyPost_ret (v:=.slice E n' c') (by simp only [results,Tryz.results26];go_simp) rfl ?_
   exact ⟨E,n',c',rfl,by rw [HZ.out];exact HN.out,hn',Lib.hid (by rw [HZ.out];exact HQ.out),Lib.hid (by rw [HZ.out];exact HF.out),hx⟩
  ·have HC:=Lib.hid (cancelone_any E n' c' m wr (HG.out.ext hx) HQ.out HN.out (by omega) HF.out)
   clear HE
   go_wp2_with fail
   refine HC.out.mono ?_
   rintro e w1 ⟨hres,hx1⟩
   have hx2:=hx.trans hx1
   rcases hres with ⟨hm,rfl⟩ | ⟨m2,E2,n2,c2,hm,hl2,rfl,HQ2⟩
   ·have HR2:Hid (R=m):=Lib.hid (by rw [HR.out,Sq.cancelN_none hm])
    have HQ1:=Lib.hid (HQ.out.ext hx1)
    clear HC hm HQ hx hx1
    go_wp2_with fail
    go_roundw
    case rel=>exact ⟨E,n',c',m,false,rfl,rfl,hn',hx2,HQ1,HN,HF,HR,Lib.hid fun _=>HR2.out⟩
    case measure=>simp
   ·have hf2:=Sq.cancelOne_fits hm HF.out
    have hl3:n2+2=n':=by have :=HN.out;have:=hf2.2;omega
    have HR2:Hid (R=Sq.cancelN m2.length m2):=Lib.hid (by
     have e1:m.length=m2.length+1+1:=by have :=hf2.2;omega
     rw [HR.out,e1,Sq.cancelN_some hm]
     exact Sq.cancelN_more m2 (m2.length+1) (by omega))
    have HL2:=Lib.hid hl2
    have HF2:=Lib.hid hf2.1
    clear HC hm HQ hx hx1 HR hf2 hl2
    go_wp2_with fail
    go_roundw
    case rel=>exact ⟨E2,n2,c2,m2,true,rfl,rfl,by omega,hx2,HQ2,HL2,HF2,HR2,Lib.hid (fun e=>nomatch e)⟩
    case measure=>simp;omega
end Go.Proofs.YtfmgnaigcibcaaaGreatDoor
namespace Go.Proofs.YtfmgnaigcibcaaaGreatDoor
open Go Go.RowKit
attribute [local go_sem ↓] Go.wp_at_zero Go.wp_at_succ
def ayAdd (a:ByteArray):Qp:={ Qp.zero with kind:=3,path:=a }
def ayRem:Qp:={ Qp.zero with kind:=4,path:=⟨#[100]⟩ }
theorem ay_move:Sq.move [(ayAdd ⟨#[100]⟩),(ayAdd ⟨#[101]⟩),ayRem] 1 0=some [(ayAdd ⟨#[101]⟩),(ayAdd ⟨#[100]⟩),ayRem]:=by kernel_rfl
theorem ay_cancel:Sq.cancel [(ayAdd ⟨#[100]⟩),(ayAdd ⟨#[101]⟩),ayRem]=[(ayAdd ⟨#[101]⟩)]:=by kernel_rfl
theorem ay_same:Sq.same [(ayAdd ⟨#[100]⟩),(ayAdd ⟨#[101]⟩),ayRem] [(ayAdd ⟨#[101]⟩),(ayAdd ⟨#[100]⟩),ayRem]=true:=by kernel_rfl
theorem ay_short:Sq.same [(ayAdd ⟨#[100]⟩),(ayAdd ⟨#[101]⟩),ayRem] [(ayAdd ⟨#[100]⟩),(ayAdd ⟨#[101]⟩)]=false:=by kernel_rfl
theorem ay_fits:(ayAdd ⟨#[100]⟩).Fits∧(ayAdd ⟨#[101]⟩).Fits∧ayRem.Fits:=
 ⟨⟨Nat.zero_le _,Nat.zero_le _,by decide,by decide⟩,⟨Nat.zero_le _,Nat.zero_le _,by decide,by decide⟩,⟨Nat.zero_le _,Nat.zero_le _,by decide,by decide⟩⟩
set_option maxHeartbeats 4000000 in
set_option maxRecDepth 100000 in
theorem ayAdd_any (a:ByteArray) (w:World):
 Calls Tryz.prog 50 #[.string a] w (Ret ((ayAdd a).pv none 0 none 0).v w):=by
 go_enter Tryz.func50,Tryz.ntmps50
 have hx:=Ext.refl w
 go_wp2_with fail
 refine bodyPost_ret (v:=((ayAdd a).pv none 0 none 0).v) ?_ rfl ?_
 ·simp only [results,Tryz.results50]
  go_simp
  simp [ayAdd,Qp.zero]
 ·exact ⟨rfl,EX⟩
theorem ay_third:∀ j,j < (parr (ayRem.pv none 0 none 0)).toList.length→((flat [((ayAdd ⟨#[100]⟩).pv none 0 none 0),((ayAdd ⟨#[101]⟩).pv none 0 none 0),(ayRem.pv none 0 none 0)]).toArray:Array Value)[0+2 * 12+j]?=(parr (ayRem.pv none 0 none 0)).toList[j]?:=fun j hj=>by
 have hj':j < 12:=hj
 match j,hj' with
 | 0,_ | 1,_ | 2,_ | 3,_ | 4,_ | 5,_ | 6,_ | 7,_ | 8,_ | 9,_ | 10,_ | 11,_=>rfl
set_option maxHeartbeats 16000000 in
set_option maxRecDepth 100000 in
theorem awake14_any (w:World) (hg:Glob w):Calls Tryz.prog 18 #[] w (Ret (.bool true) w):=by
 have HG:=Lib.hid hg
 have HF:=Lib.hid ay_fits
 clear hg
 go_enter Tryz.func18,Tryz.ntmps18
 have hx:=Ext.refl w
 go_wp2_with fail
 refine (ayAdd_any _ _).mono ?_
 rintro e w1 ⟨rfl,hx0⟩
 have hx1:=hx.trans hx0
 clear hx hx0
 have hx:=hx1
 clear hx1
 go_wp2_with fail
 refine (ayAdd_any _ _).mono ?_
 rintro e w2 ⟨rfl,hx0⟩
 have hx1:=hx.trans hx0
 clear hx hx0
 have hx:=hx1
 clear hx1
 go_wp2_with fail
 refine (move_any (some ⟨w2.heap.size,0,none⟩) 3 3 1 0 [(ayAdd ⟨#[100]⟩),(ayAdd ⟨#[101]⟩),ayRem] (w2.alloc (.cells (flat [((ayAdd ⟨#[100]⟩).pv none 0 none 0),((ayAdd ⟨#[101]⟩).pv none 0 none 0),(ayRem.pv none 0 none 0)]).toArray 28)) (HG.out.ext (hx.alloc _)) (F:=fun _=>True) (Qs.plain _ (Blk.new' rfl) (by simp [ayAdd,ayRem,Qp.zero])) rfl (by omega) (by omega) (by omega) (by simp [HF.out.1,HF.out.2.1,HF.out.2.2])).mono ?_
 rintro e w3 ⟨hres,hx0⟩
 rw [ay_move] at hres
 rcases hres with ⟨h,_⟩ | ⟨m,g,h,rfl,hgw,HO⟩
 ·cases h
 obtain rfl:=Option.some.inj h
 have HL:=Lib.hid (Blk.ext hx0 (Blk.new' (w:=w2) (cs:=(flat [((ayAdd ⟨#[100]⟩).pv none 0 none 0),((ayAdd ⟨#[101]⟩).pv none 0 none 0),(ayRem.pv none 0 none 0)]).toArray) (t:=28) rfl))
 have HM:=Lib.hid (HO.out.qs.mono (G:=fun _=>True) fun _ _=>trivial)
 have HX:=Lib.hid (hx.trans (((Ext.refl w2).alloc _).trans hx0))
 clear h hgw HO hx hx0
 generalize w2.heap.size=gL at HL ⊢
 have HLQ:Hid (Qs w3 (fun _=>True) (some ⟨gL,0,none⟩) [(ayAdd ⟨#[100]⟩),(ayAdd ⟨#[101]⟩),ayRem]):=Lib.hid (Qs.plain _ HL.out (by simp [ayAdd,ayRem,Qp.zero]))
 dsimp only
 go_upto_region 4 with fail
 refine wp_region_noPanic (wp_region_held_drew (S:=fun w'=>Ext w3 w') (by kernel_rfl) (Ext.refl w3).drew1 (fun hv=>?_))
 generalize w3.drew=v0 at hv ⊢
 refine tf (i:=0) (v:=.bool true) rfl rfl (fun _=>rfl) hv ?_
 try simp only [Act.put,sA,s0,sS]
 refine tf (i:=1) (v:=.bool true) rfl rfl (fun _=>rfl) hv ?_
 try simp only [Act.put,sA,s0,sS]
 refine tf (i:=2) (v:=.slice (some ⟨g,0,none⟩) 3 3) rfl rfl (fun _=>rfl) hv ?_
 try simp only [Act.put,sA,s0,sS]
 refine tf (i:=3) (v:=.func (.func 50) #[] #[]) rfl rfl (fun _=>rfl) hv ?_
 try simp only [Act.put,sA,s0,sS]
 refine tf (i:=5) (v:=.func (.func 50) #[] #[]) rfl rfl (fun _=>rfl) hv ?_
 try simp only [Act.put,sA,s0,sS]
 refine tf (i:=7) (v:=.slice (some ⟨gL,0,none⟩) 3 3) rfl rfl (fun _=>rfl) hv ?_
 try simp only [Act.put,sA,s0,sS]
 refine ti (i:=8) gL 0 3 3 2 rfl rfl rfl rfl rfl (by omega) Tryz.underlying37 hv ?_
 try simp only [Act.put,sA,s0,sS]
 refine tg (i:=9) (parr (ayRem.pv none 0 none 0)).toList rfl rfl rfl rfl Tryz.underlying28 rfl (fun _ h=>(HL.out.ext h).range _ _ (fun j hj=>ay_third j hj)) hv ?_
 try simp only [Act.put,sA,s0,sS]
 refine wpAnyH_one (i:=4) (by kernel_rfl) rfl (by kernel_rfl) ?_
 go_simp
 refine (ayAdd_any _ _).mono ?_
 rintro e v1 ⟨rfl,hx0⟩
 have hv2:=hv.trans hx0
 clear hv hx0
 have hv:=hv2
 clear hv2
 refine ⟨hv,?_⟩
 try simp only [Act.put,sA,s0,sS]
 refine wpAnyH_one (i:=6) (by kernel_rfl) rfl (by kernel_rfl) ?_
 go_simp
 refine (ayAdd_any _ _).mono ?_
 rintro e v2 ⟨rfl,hx0⟩
 have hv2:=hv.trans hx0
 clear hv hx0
 have hv:=hv2
 clear hv2
 refine ⟨hv,?_⟩
 try simp only [Act.put,sA,s0,sS]
 refine wpAnyH_one (i:=10) (by kernel_rfl) rfl (by kernel_rfl) ?_
 go_simp
 refine ⟨hv.alloc _,?_⟩
 try simp only [Act.put,sA,s0,sS]
 generalize hq:World.alloc v2 _=v3
 have hbn:Blk v3 v2.heap.size 28 (flat [((ayAdd ⟨#[101]⟩).pv none 0 none 0),((ayAdd ⟨#[100]⟩).pv none 0 none 0),(ayRem.pv none 0 none 0)]).toArray:=by rw [← hq];exact Blk.new' rfl
 have hx0:Ext v2 v3:=by rw [← hq];exact (Ext.refl v2).alloc _
 have hv2:=hv.trans hx0
 clear hv hx0 hq
 have hv:=hv2
 clear hv2
 have HN:=Lib.hid hbn
 clear hbn
 generalize v2.heap.size=gHN at HN ⊢
 refine wpAnyH_one (i:=11) (by kernel_rfl) rfl (by kernel_rfl) ?_
 go_simp
 refine (samelist_true (some ⟨g,0,none⟩) (some ⟨gHN,0,none⟩) 3 3 3 [(ayAdd ⟨#[101]⟩),(ayAdd ⟨#[100]⟩),ayRem] _ (F:=fun _=>True) (G:=fun _=>True) (HM.out.ext hv) (Qs.plain _ HN.out (by simp [ayAdd,ayRem,Qp.zero])) rfl (by omega) (by simp [HF.out.1,HF.out.2.1,HF.out.2.2])).mono ?_
 rintro e v4 ⟨rfl,hx0⟩
 clear HN
 have hv2:=hv.trans hx0
 clear hv hx0
 have hv:=hv2
 clear hv2
 refine ⟨hv,?_⟩
 try simp only [Act.put,sA,s0,sS]
 refine tf (i:=12) (v:=.bool true) rfl rfl (fun _=>rfl) hv ?_
 try simp only [Act.put,sA,s0,sS]
 refine tf (i:=13) (v:=.bool true) rfl rfl (fun _=>rfl) hv ?_
 try simp only [Act.put,sA,s0,sS]
 refine tf (i:=14) (v:=.slice (some ⟨gL,0,none⟩) 3 3) rfl rfl (fun _=>rfl) hv ?_
 try simp only [Act.put,sA,s0,sS]
 refine tf (i:=16) (v:=.func (.func 50) #[] #[]) rfl rfl (fun _=>rfl) hv ?_
 try simp only [Act.put,sA,s0,sS]
 have HC:=Lib.hid (cancel_any (some ⟨gL,0,none⟩) 3 3 [(ayAdd ⟨#[100]⟩),(ayAdd ⟨#[101]⟩),ayRem] v4 (HG.out.ext (HX.out.trans hv)) (HLQ.out.ext hv) rfl (by omega) (by simp [HF.out.1,HF.out.2.1,HF.out.2.2]))
 rw [ay_cancel] at HC
 refine wpAnyH_one (i:=15) (by kernel_rfl) rfl (by kernel_rfl) ?_
 go_simp
 refine (HC.out).mono ?_
 rintro e v5 ⟨E,n',c',rfl,hl',_,HQ,_,hx0⟩
 obtain rfl:1=n':=hl'
 clear HC
 have hv2:=hv.trans hx0
 clear hv hx0
 have hv:=hv2
 clear hv2
 refine ⟨hv,?_⟩
 try simp only [Act.put,sA,s0,sS]
 refine wpAnyH_one (i:=17) (by kernel_rfl) rfl (by kernel_rfl) ?_
 go_simp
 refine (ayAdd_any _ _).mono ?_
 rintro e v6 ⟨rfl,hx0⟩
 have HQ:=Lib.hid (HQ.out.ext hx0)
 have hv2:=hv.trans hx0
 clear hv hx0
 have hv:=hv2
 clear hv2
 refine ⟨hv,?_⟩
 try simp only [Act.put,sA,s0,sS]
 refine wpAnyH_one (i:=18) (by kernel_rfl) rfl (by kernel_rfl) ?_
 go_simp
 refine ⟨hv.alloc _,?_⟩
 try simp only [Act.put,sA,s0,sS]
 generalize hq:World.alloc v6 _=v7
 have hbn:Blk v7 v6.heap.size 28 (flat [((ayAdd ⟨#[101]⟩).pv none 0 none 0)]).toArray:=by rw [← hq];exact Blk.new' rfl
 have hx0:Ext v6 v7:=by rw [← hq];exact (Ext.refl v6).alloc _
 have HQ:=Lib.hid (HQ.out.ext hx0)
 have hv2:=hv.trans hx0
 clear hv hx0 hq
 have hv:=hv2
 clear hv2
 have HN:=Lib.hid hbn
 clear hbn
 generalize v6.heap.size=gHN at HN ⊢
 refine wpAnyH_one (i:=19) (by kernel_rfl) rfl (by kernel_rfl) ?_
 go_simp
 refine (samelist_true E (some ⟨gHN,0,none⟩) 1 c' 1 [(ayAdd ⟨#[101]⟩)] _ (F:=fun _=>True) (G:=fun _=>True) HQ.out (Qs.plain _ HN.out (by simp [ayAdd,Qp.zero])) rfl (by omega) (by simp [HF.out.2.1])).mono ?_
 rintro e v8 ⟨rfl,hx0⟩
 clear HN HQ
 have hv2:=hv.trans hx0
 clear hv hx0
 have hv:=hv2
 clear hv2
 refine ⟨hv,?_⟩
 try simp only [Act.put,sA,s0,sS]
 refine tf (i:=20) (v:=.bool true) rfl rfl (fun _=>rfl) hv ?_
 try simp only [Act.put,sA,s0,sS]
 refine tf (i:=21) (v:=.bool true) rfl rfl (fun _=>rfl) hv ?_
 try simp only [Act.put,sA,s0,sS]
 refine tf (i:=22) (v:=.slice (some ⟨gL,0,none⟩) 3 3) rfl rfl (fun _=>rfl) hv ?_
 try simp only [Act.put,sA,s0,sS]
 refine tf (i:=23) (v:=.slice (some ⟨g,0,none⟩) 3 3) rfl rfl (fun _=>rfl) hv ?_
 try simp only [Act.put,sA,s0,sS]
 have HS1:=Lib.hid (seqsame_any (some ⟨gL,0,none⟩) (some ⟨g,0,none⟩) 3 3 3 3 [(ayAdd ⟨#[100]⟩),(ayAdd ⟨#[101]⟩),ayRem] [(ayAdd ⟨#[101]⟩),(ayAdd ⟨#[100]⟩),ayRem] v8 (HG.out.ext (HX.out.trans hv)) (HLQ.out.ext hv) (HM.out.ext hv) rfl rfl (by omega) (by omega) (by simp [HF.out.1,HF.out.2.1,HF.out.2.2]) (by simp [HF.out.1,HF.out.2.1,HF.out.2.2]))
 rw [ay_same] at HS1
 refine wpAnyH_one (i:=24) (by kernel_rfl) rfl (by kernel_rfl) ?_
 go_simp
 refine (HS1.out).mono ?_
 rintro e v9 ⟨rfl,hx0⟩
 clear HS1
 have hv2:=hv.trans hx0
 clear hv hx0
 have hv:=hv2
 clear hv2
 refine ⟨hv,?_⟩
 try simp only [Act.put,sA,s0,sS]
 refine tf (i:=25) (v:=.bool true) rfl rfl (fun _=>rfl) hv ?_
 try simp only [Act.put,sA,s0,sS]
 refine tf (i:=26) (v:=.bool true) rfl rfl (fun _=>rfl) hv ?_
 try simp only [Act.put,sA,s0,sS]
 refine tf (i:=27) (v:=.slice (some ⟨gL,0,none⟩) 3 3) rfl rfl (fun _=>rfl) hv ?_
 try simp only [Act.put,sA,s0,sS]
 refine tf (i:=28) (v:=.slice (some ⟨gL,0,none⟩) 3 3) rfl rfl (fun _=>rfl) hv ?_
 try simp only [Act.put,sA,s0,sS]
 refine take_any (i:=29) (v:=.slice (some ⟨gL,0,none⟩) 2 3) rfl rfl (by kernel_rfl) (by kernel_rfl) (by kernel_rfl) (.inl ⟨(by kernel_rfl),fun W' hW'=>?sl⟩) hv ?_
 case sl=>go_simp
 try simp only [Act.put,sA,s0,sS]
 have HS2:=Lib.hid (seqsame_any (some ⟨gL,0,none⟩) (some ⟨gL,0,none⟩) 3 3 2 3 [(ayAdd ⟨#[100]⟩),(ayAdd ⟨#[101]⟩),ayRem] [(ayAdd ⟨#[100]⟩),(ayAdd ⟨#[101]⟩)] v9 (HG.out.ext (HX.out.trans hv)) (HLQ.out.ext hv) ((HLQ.out.ext hv).take 2) rfl rfl (by omega) (by omega) (by simp [HF.out.1,HF.out.2.1,HF.out.2.2]) (by simp [HF.out.1,HF.out.2.1,HF.out.2.2]))
 rw [ay_short] at HS2
 refine wpAnyH_one (i:=30) (by kernel_rfl) rfl (by kernel_rfl) ?_
 go_simp
 refine (HS2.out).mono ?_
 rintro e v10 ⟨rfl,hx0⟩
 clear HS2
 have hv2:=hv.trans hx0
 clear hv hx0
 have hv:=hv2
 clear hv2
 refine ⟨hv,?_⟩
 try simp only [Act.put,sA,s0,sS]
 refine tf (i:=31) (v:=.bool true) rfl rfl (fun _=>rfl) hv ?_
 try simp only [Act.put,sA,s0,sS]
 refine tf (i:=32) (v:=.bool true) rfl rfl (fun _=>rfl) hv ?_
 try simp only [Act.put,sA,s0,sS]
 refine tf (i:=33) (v:=.bool true) rfl rfl (fun _=>rfl) hv ?_
 try simp only [Act.put,sA,s0,sS]
 refine wpAnyH_done (by kernel_rfl) (NoPanic.normal ?_) _
 have hx:=HX.out.trans hv
 clear HX hv
 go_wp2_with fail
 (go_ret;refine Ret.mk ?_ ?_;(focus (rfl;done));(focus (exact EX;done)))
end Go.Proofs.YtfmgnaigcibcaaaGreatDoor
namespace Go.Proofs.YtfmgnaigcibcaaaGreatDoor
open Go Go.RowKit
attribute [local go_sem ↓] Go.wp_at_zero Go.wp_at_succ
set_option maxHeartbeats 4000000 in
set_option maxRecDepth 100000 in
theorem g14_any (A:Option Addr) (c:Nat) (l:List Qp) (w:World) {F:Nat→Prop} (h:Qs w F A l) (hn:l.length≤1152921504606846976) (hs:∀ q∈l,q.old.length≤1152921504606846976∧q.new.length≤1152921504606846976):
 Calls Tryz.prog 49 #[.slice A l.length c] w (Tells (Small l) w):=by
 have H:=Lib.hid (lgreat_any A c l w h hn hs)
 obtain ⟨n,Hn⟩:∃ n,Hid (n=l.length):=⟨_,Lib.hid rfl⟩
 rw [← Hn.out] at H ⊢
 clear h hs hn
 by_cases h8:8 < n
 ·have h8':(8:Int) < (n:Int):=by omega
  go_enter Tryz.func49,Tryz.ntmps49
  have hx:=Ext.refl w
  go_wp2_with fail
  refine bodyPost_ret (v:=.bool true) (by simp only [results,Tryz.results49];go_simp) rfl ?_
  exact ⟨_,rfl,(fun h=>nomatch h),hx⟩
 ·have h8':¬ (8:Int) < (n:Int):=by omega
  go_enter Tryz.func49,Tryz.ntmps49
  have hx:=Ext.refl w
  go_wp2_with fail
  refine H.out.mono ?_
  rintro e w1 ⟨v1,rfl,k1,hx0⟩
  go_wp2_with fail
  refine bodyPost_ret (v:=.bool v1) (by simp only [results,Tryz.results49];go_simp) rfl ?_
  exact ⟨_,rfl,(fun h=>⟨by rw [← Hn.out];omega,k1 h⟩),hx0⟩
set_option maxHeartbeats 4000000 in
set_option maxRecDepth 100000 in
theorem greattree_nil (w:World):Calls Tryz.prog 11 #[.slice none 0 0] w (Ret (.bool false) w):=by
 go_enter Tryz.func11,Tryz.ntmps11
 have hx:=Ext.refl w
 go_wp2_with fail
 go_loopw [3,4] (fun s i wr=>s=Value.int .i64 0∧i=Value.int .i64 0∧Ext w wr) (fun s i wr=>0)
 case atStart=>exact ⟨rfl,rfl,hx⟩
 case round=>
  obtain ⟨rfl,rfl,hx⟩:=hrel
  go_wp2_with fail
  (go_ret;refine Ret.mk ?_ ?_;(focus (rfl;done));(focus (exact EX;done)))
set_option maxHeartbeats 4000000 in
set_option maxRecDepth 100000 in
theorem lawgreat14_any (A:Option Addr) (n c:Nat) (l:List Qp) (w:World) {F:Nat→Prop} (h:Qs w F A l) (hl:l.length=n) (hn:n≤1152921504606846976) (hs:∀ q∈l,q.old.length≤1152921504606846976∧q.new.length≤1152921504606846976):
 Calls Tryz.prog 17 #[.slice none 0 0,.slice A n c] w (Tells (Small l) w):=by
 have H:Hid (∀ W,Ext w W→Calls Tryz.prog 49 #[.slice A n c] W (Tells (Small l) W)):=Lib.hid fun W hW=>by
  have:=g14_any A c l W (h.ext hW) (by rw [hl];exact hn) hs
  rwa [hl] at this
 clear h hs hn hl
 go_enter Tryz.func17,Tryz.ntmps17
 have hx:=Ext.refl w
 go_wp2_with fail
 refine (greattree_nil _).mono ?_
 rintro e w1 ⟨rfl,hx0⟩
 have hx1:=hx.trans hx0
 clear hx hx0
 have hx:=hx1
 clear hx1
 go_wp2_with fail
 refine (H.out _ hx).mono ?_
 rintro e w2 ⟨v2,rfl,k2,hx0⟩
 have hx1:=hx.trans hx0
 clear hx hx0
 have hx:=hx1
 clear hx1
 go_wp2_with fail
 refine bodyPost_ret (v:=.bool v2) (by simp only [results,Tryz.results17];go_simp) rfl ?_
 exact ⟨_,rfl,k2,hx⟩
end Go.Proofs.YtfmgnaigcibcaaaGreatDoor
