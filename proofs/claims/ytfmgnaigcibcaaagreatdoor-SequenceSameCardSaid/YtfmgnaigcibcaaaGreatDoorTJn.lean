import Derived.Test.YtfmgnaigcibcaaaGreatDoorTQc
import Derived.Test.YtfmgnaigcibcaaaGreatDoorTQe
import Derived.Test.YtfmgnaigcibcaaaGreatDoorTBase
import Derived.Test.YtfmgnaigcibcaaaGreatDoorTQ4
import Derived.Test.YtfmgnaigcibcaaaGreatDoorTJf
import Derived.Deep.Slices
import Derived.Test.YtfmgnaigcibcaaaGreatDoorTHeld
import Derived.Laws.MakeOwn
import Derived.Laws.CopyOwn
import Derived.Laws.CopyRow
import Derived.Laws.AppendOwn
import Derived.Deep.AppendLies
import Derived.Test.YtfmgnaigcibcaaaGreatDoorTQ3
import Derived.Lib.SliceRun
set_option linter.unusedSimpArgs false
set_option linter.unusedVariables false
namespace Go.Proofs.YtfmgnaigcibcaaaGreatDoor
open Go.RowKit
theorem commute_back {a b c d:Qp} (h:a.commute b=(c,d,true)):c.commute d=(a,b,true)∧c.check=0∧d.check=0:=by
 unfold Qp.commute at h
 split at h
 ·simp only [Prod.mk.injEq] at h
  exact absurd h.2.2 (by decide)
 rename_i h0
 split at h
 ·simp only [Prod.mk.injEq] at h
  exact absurd h.2.2 (by decide)
 rename_i h1
 split at h
 ·rename_i h2
  simp only [Prod.mk.injEq,and_true] at h
  generalize hr:a.run b=R at h h1 h2
  obtain ⟨c',d',k⟩:=R
  dsimp only at h h1 h2
  obtain ⟨rfl,rfl⟩:=h
  obtain rfl:k=true:=by simpa using h1
  have hc:=run_ok hr rfl
  generalize hs:c'.run d'=S at h2
  obtain ⟨x,y,k2⟩:=S
  simp only [Bool.and_eq_true] at h2
  obtain ⟨rfl,h3,h4⟩:=h2
  have ex:=Qp.same_iff.1 h3
  have ey:=Qp.same_iff.1 h4
  subst ex ey
  refine ⟨?_,hc⟩
  unfold Qp.commute
  rw [if_neg (by simp [hc.1,hc.2]),hs]
  dsimp only
  rw [if_neg (by simp),hr]
  dsimp only
  rw [if_pos (by simp [Qp.same_iff.2 rfl])]
 ·simp only [Prod.mk.injEq] at h
  exact absurd h.2.2 (by decide)
theorem check_fits {q:Qp} (h:q.check=0):q.Fits:=by
 have s:=Qp.bounds h
 have t:=Qp.small h
 have h1:=s.path
 have h2:=s.to_
 exact ⟨by omega,by omega,by omega,by omega⟩
theorem commute_cm {a b c d:Qp} (h:a.commute b=(c,d,true)):Cm a b c d∧c.check=0∧d.check=0:=by
 refine ⟨?_,(commute_back h).2⟩
 unfold Qp.commute at h
 split at h
 ·simp only [Prod.mk.injEq] at h
  exact absurd h.2.2 (by decide)
 rename_i h0
 simp only [ne_eq,not_or,Decidable.not_not] at h0
 split at h
 ·simp only [Prod.mk.injEq] at h
  exact absurd h.2.2 (by decide)
 rename_i h1
 split at h
 ·simp only [Prod.mk.injEq,and_true] at h
  refine run_cm ?_ h0.1 h0.2
  rw [← h.1,← h.2]
  have:(a.run b).2.2=true:=by simpa using h1
  rw [← this]
 ·simp only [Prod.mk.injEq] at h
  exact absurd h.2.2 (by decide)
end Go.Proofs.YtfmgnaigcibcaaaGreatDoor
namespace Go.Proofs.YtfmgnaigcibcaaaGreatDoor
open Go Go.RowKit
theorem part_pair (a b:Int) (w:World):(part 3 #[.int .i64 a,.int .i64 b] 0).run Tryz.prog w=.ok (.int .i64 a) w∧(part 3 #[.int .i64 a,.int .i64 b] 1).run Tryz.prog w=.ok (.int .i64 b) w:=⟨by kernel_rfl,by kernel_rfl⟩
theorem size_int (w:World):(sizeOf 3).run Tryz.prog w=.ok 1 w:=by kernel_rfl
theorem eql_pair (a b c d:Int) (w:World):(Op.equalIn 10000 57 (.agg #[.int .i64 a,.int .i64 b]) (.agg #[.int .i64 c,.int .i64 d])).run Tryz.prog w=.ok (a == c && b == d) w:=by
 have u:Tryz.prog.underlying 57=some (.array 2 3):=Tryz.underlying57
 have ui:Tryz.prog.underlying 3=some (.int .i64):=Tryz.underlying3
 have p1:=fun w=>(part_pair a b w).1
 have p2:=fun w=>(part_pair a b w).2
 have p3:=fun w=>(part_pair c d w).1
 have p4:=fun w=>(part_pair c d w).2
 have e:∀ x y,(Op.equalIn 9999 3 (.int .i64 x) (.int .i64 y)).run Tryz.prog w=.ok (x == y) w:=fun x y=>run_equalIn_int w 9998 _ _ _ _ _ ui
 show (Op.equalIn (9999+1) 57 (.agg #[.int .i64 a,.int .i64 b]) (.agg #[.int .i64 c,.int .i64 d])).run Tryz.prog w=_
 unfold Op.equalIn
 simp only [Sem.run_bind,run_underlying u,Result.andThen_ok,size_int]
 simp [List.range',p1,p2,p3,p4,e,Sem.run_bind]
 by_cases h1:a=c <;> by_cases h2:b=d <;> simp [h1,h2]
end Go.Proofs.YtfmgnaigcibcaaaGreatDoor
namespace Go.Proofs.YtfmgnaigcibcaaaGreatDoor
open Go Go.ChangeShapes Go.WideShapes Go.RowKit Go.Deep
def Row (w:World) (A:Option Addr) (ps:List Pv):Prop:=
 0 < ps.length→∃ b o,A=some ⟨b,o,none⟩∧b < w.heap.size∧∀ (i:Nat) (p:Pv),ps[i]?=some p→w.rangeAt b (o+i * 12) (parr p).toList
theorem Row.ext {w w':World} {A:Option Addr} {ps:List Pv} (h:Row w A ps) (hx:Ext w w'):Row w' A ps:=fun h0=>by
 obtain ⟨b,o,e,hl,hc⟩:=h h0
 exact ⟨b,o,e,Nat.lt_of_lt_of_le hl hx.size_le,fun i p hp j v hv=>by rw [hx.cell (p:=⟨b,_,none⟩) hl];exact hc i p hp j v hv⟩
def Qs (w:World) (F:Nat→Prop) (A:Option Addr) (l:List Qp):Prop:=
 ∃ ps:List Pv,ps.length=l.length∧Row w A ps∧∀ (i:Nat) (p:Pv) (q:Qp),ps[i]?=some p→l[i]?=some q→Is w F p q
variable {w w':World} {F G:Nat→Prop} {A:Option Addr} {l:List Qp}
theorem Qs.ext (h:Qs w F A l) (hx:Ext w w'):Qs w' F A l:=by
 obtain ⟨ps,h1,h2,h3⟩:=h
 exact ⟨ps,h1,h2.ext hx,fun i p q hp hq=>(h3 i p q hp hq).ext hx⟩
theorem Qs.mono (h:Qs w F A l) (hg:∀ b,F b→G b):Qs w G A l:=by
 obtain ⟨ps,h1,h2,h3⟩:=h
 exact ⟨ps,h1,h2,fun i p q hp hq=>(h3 i p q hp hq).mono hg⟩
theorem Qs.in (h:Qs w F A l):Qs w (fun b=>F b∧b < w.heap.size) A l:=by
 obtain ⟨ps,h1,h2,h3⟩:=h
 exact ⟨ps,h1,h2,fun i p q hp hq=>(h3 i p q hp hq).in⟩
theorem Qs.nil (w:World) (F:Nat→Prop) (A:Option Addr):Qs w F A []:=⟨[],rfl,fun h=>absurd h (Nat.lt_irrefl 0),fun i p q hp=>by simp at hp⟩
theorem Qs.get (h:Qs w F A l) {i:Nat} {q:Qp} (hi:l[i]?=some q):∃ b o p,A=some ⟨b,o,none⟩∧b < w.heap.size∧w.rangeAt b (o+i * 12) (parr p).toList∧Is w F p q:=by
 obtain ⟨ps,h1,h2,h3⟩:=h
 have hlt:i < l.length:=(List.getElem?_eq_some_iff.1 hi).1
 have hp:ps[i]?=some ps[i]:=List.getElem?_eq_getElem (by omega)
 obtain ⟨b,o,e,hl,hc⟩:=h2 (by omega)
 exact ⟨b,o,_,e,hl,hc i _ hp,h3 i _ q hp hi⟩
theorem Qs.take (h:Qs w F A l) (n:Nat):Qs w F A (l.take n):=by
 obtain ⟨ps,h1,h2,h3⟩:=h
 refine ⟨ps.take n,by simp [h1],fun h0=>?_,fun i p q hp hq=>?_⟩
 ·obtain ⟨b,o,e,hl,hc⟩:=h2 (by simp at h0;omega)
  refine ⟨b,o,e,hl,fun i p hp=>hc i p ?_⟩
  rw [List.getElem?_take] at hp
  split at hp
  ·exact hp
  ·cases hp
 ·rw [List.getElem?_take] at hp hq
  split at hp
  ·rename_i hi
   rw [if_pos hi] at hq
   exact h3 i p q hp hq
  ·cases hp
theorem Qs.drop {b o:Nat} (h:Qs w F (some ⟨b,o,none⟩) l) (n:Nat):Qs w F (some ⟨b,o+n * 12,none⟩) (l.drop n):=by
 obtain ⟨ps,h1,h2,h3⟩:=h
 refine ⟨ps.drop n,by simp [h1],fun h0=>?_,fun i p q hp hq=>?_⟩
 ·obtain ⟨b',o',e,hl,hc⟩:=h2 (by simp at h0;omega)
  obtain ⟨rfl,rfl⟩:b=b'∧o=o':=by simpa using e
  refine ⟨b,_,rfl,hl,fun i p hp=>?_⟩
  rw [List.getElem?_drop] at hp
  have:=hc (n+i) p hp
  rwa [show o+(n+i) * 12=o+n * 12+i * 12 by omega] at this
 ·rw [List.getElem?_drop] at hp hq
  exact h3 _ p q hp hq
theorem cells12 {w:World} {b o:Nat} {p:Pv} (h:w.rangeAt b o (parr p).toList):w.cell? ⟨b,o,none⟩=some (.int .i64 p.kind)∧w.cell? ⟨b,o+1,none⟩=some (.string p.path)∧w.cell? ⟨b,o+2,none⟩=some (.string p.to_)∧w.cell? ⟨b,o+3,none⟩=some (.int .i64 p.ty)∧w.cell? ⟨b,o+4,none⟩=some (.int .i64 p.at_)∧w.cell? ⟨b,o+5,none⟩=some (.slice p.A1 p.n1 p.c1)∧w.cell? ⟨b,o+6,none⟩=some (.slice p.A2 p.n2 p.c2)∧w.cell? ⟨b,o+7,none⟩=some (.int .i64 p.off)∧w.cell? ⟨b,o+8,none⟩=some (.string p.so)∧w.cell? ⟨b,o+9,none⟩=some (.string p.sn)∧w.cell? ⟨b,o+10,none⟩=some (.int .i64 p.om)∧w.cell? ⟨b,o+11,none⟩=some (.int .i64 p.nm):=
 ⟨h 0 _ rfl,h 1 _ rfl,h 2 _ rfl,h 3 _ rfl,h 4 _ rfl,h 5 _ rfl,h 6 _ rfl,h 7 _ rfl,h 8 _ rfl,h 9 _ rfl,h 10 _ rfl,h 11 _ rfl⟩
section
variable {H:Type} {enc:TypeId × Value→H} {W:World} {held:Bool}
instance:Inhabited Pv:=⟨Qp.zero.pv none 0 none 0⟩
instance:Inhabited Qp:=⟨Qp.zero⟩
set_option maxRecDepth 100000 in
theorem open_prims {fuel:Nat} {v:Value} {x:DataW H × List MemPlace} (h:DataW.trod enc Tryz.prog W 0 (fun _=>true) held fuel 37 [v]=some x) (hw:∀ n∈x.1.weights Tryz.prog 37,n≤reachBytes):
 ∃ A l c,v=.slice A l.length c∧Qs W (fun _=>True) A l∧l.length≤c∧c≤879609302195∧(A=none→c=0)∧∀ q∈l,q.Meek:=by
 have hu:Tryz.prog.underlying 37=some (.slice 28):=Tryz.underlying37
 rcases open_slice hu h with ⟨e,_⟩ | ⟨a,len,cap,m,n,D,Pl,e,_,hlc,_,hm,hx,hc⟩
 ·obtain rfl:v=.slice none 0 0:=by simpa using e
  exact ⟨none,[],0,rfl,Qs.nil _ _ _,Nat.zero_le _,Nat.zero_le _,fun _=>rfl,fun q hq=>by cases hq⟩
 ·obtain rfl:v=.slice (some a) len cap:=by simpa using e
  have hm':m=cap:=by simpa using hm
  subst hm'
  rw [hx] at hw
  simp only [DataW.weights,hu] at hw
  have hcap:m * 160≤reachBytes:=by
   have:=hw _ (List.mem_cons_self ..)
   have hb:Tryz.prog.bytesOf 28=160:=by kernel_rfl
   rw [hb] at this
   simp only [List.length_map,List.length_range] at this
   rwa [show len+(m - len)=m by omega] at this
  obtain ⟨pq,hpq⟩:=choose_lt (α:=Pv × Qp) (n:=len) (p:=fun i pq=>(∀ j v,(parr pq.1).toList[j]?=some v→W.cell? ((a.add (i * 12)).add j)=some v)∧Is W (fun _=>True) pq.1 pq.2∧pq.2.Meek) (fun i hi=>by
   obtain ⟨cs',h1,h2⟩:=hc i (by omega)
   rw [cPrim] at h1
   obtain ⟨_,hl,hcell⟩:=World.cells?_some h1
   match cs',hl with
   | [v0,v1,v2,v3,v4,v5,v6,v7,v8,v9,v10,v11],_=>
     obtain ⟨p,q,hp,hi',hk⟩:=open_cells h2 (fun k hk=>hw k (List.mem_cons_of_mem _ (List.mem_append_left _ (weightsAll_mem (d:=D i) (List.mem_map.2 ⟨i,List.mem_range.2 hi,rfl⟩) _ hk))))
     have hpa:(parr p).toList=[v0,v1,v2,v3,v4,v5,v6,v7,v8,v9,v10,v11]:=by
      have:Value.agg #[v0,v1,v2,v3,v4,v5,v6,v7,v8,v9,v10,v11]=.agg (parr p):=hp
      injection this with e
      rw [← e]
     refine ⟨(p,q),fun j v hv=>?_,hi',hk⟩
     rw [hpa] at hv
     have hj:j < 12:=(List.getElem?_eq_some_iff.1 hv).1
     rw [hcell j hj,hv])
  have hl:((List.range len).map fun i=>(pq i).2).length=len:=by simp
  refine ⟨some a,(List.range len).map fun i=>(pq i).2,m,by rw [hl],⟨(List.range len).map fun i=>(pq i).1,by simp,fun h0=>?_,fun i p q hp hq=>?_⟩,by rw [hl];exact hlc,?_,(fun h=>by cases h),fun q hq=>?_⟩
  ·have hlen:0 < len:=by simpa using h0
   obtain ⟨b,o,spot⟩:=a
   have h1:=(hpq 0 hlen).1 0 _ rfl
   have hs:spot=none:=by simpa [Addr.add] using World.cell?_spot h1
   subst hs
   refine ⟨b,o,rfl,?_,fun i p hp j v hv=>?_⟩
   ·have:=lt_of_cell h1
    simpa [add_none] using this
   ·rw [List.getElem?_map,Option.map_eq_some_iff] at hp
    obtain ⟨k,hk,rfl⟩:=hp
    have hi:i < len:=by simpa using (List.getElem?_eq_some_iff.1 hk).1
    have hki:k=i:=by rw [List.getElem?_range hi] at hk;exact (Option.some.inj hk).symm
    subst hki
    have:=(hpq k hi).1 j v hv
    rwa [add_none,add_none] at this
  ·rw [List.getElem?_map,Option.map_eq_some_iff] at hp hq
   obtain ⟨k,hk,rfl⟩:=hp
   obtain ⟨k2,hk2,rfl⟩:=hq
   obtain rfl:k=k2:=Option.some.inj (hk.symm.trans hk2)
   have hi:k < len:=List.mem_range.1 (List.mem_of_getElem? hk)
   exact (hpq k hi).2.1
  ·unfold reachBytes at hcap
   omega
  ·obtain ⟨i,hi,rfl⟩:=List.mem_map.1 hq
   exact (hpq i (List.mem_range.1 hi)).2.2
end
end Go.Proofs.YtfmgnaigcibcaaaGreatDoor
namespace Go.Proofs.YtfmgnaigcibcaaaGreatDoor
open Go Go.RowKit
def flat:List Pv→List Value
 | []=>[]
 | p :: ps=>(parr p).toList ++ flat ps
theorem flat_append (a b:List Pv):flat (a ++ b)=flat a ++ flat b:=by
 induction a with
 | nil=>rfl
 | cons p a ih=>show (parr p).toList ++ flat (a ++ b)=((parr p).toList ++ flat a) ++ flat b;rw [ih,List.append_assoc]
theorem flat_length (ps:List Pv):(flat ps).length=ps.length * 12:=by
 induction ps with
 | nil=>rfl
 | cons p ps ih=>show ((parr p).toList ++ flat ps).length=_;rw [List.length_append,ih];show 12+ps.length * 12=(ps.length+1) * 12;omega
theorem flat_get {ps:List Pv} {i:Nat} {p:Pv} (h:ps[i]?=some p) {j:Nat} (hj:j < 12):(flat ps)[i * 12+j]?=(parr p).toList[j]?:=by
 induction ps generalizing i with
 | nil=>cases h
 | cons q ps ih=>
   cases i with
   | zero=>
     obtain rfl:=Option.some.inj h
     show ((parr q).toList ++ flat ps)[0 * 12+j]?=_
     rw [Nat.zero_mul,Nat.zero_add,List.getElem?_append_left (show j < (parr q).toList.length from hj)]
   | succ i=>
     show ((parr q).toList ++ flat ps)[(i+1) * 12+j]?=_
     rw [List.getElem?_append_right (show (parr q).toList.length≤_ by show 12≤_;omega)]
     have:(i+1) * 12+j - (parr q).toList.length=i * 12+j:=by show (i+1) * 12+j - 12=_;omega
     rw [this]
     exact ih h
theorem Blk.mid {g:Nat} {t:TypeId}:∀ (vs cs pre post:List Value) (w:World),vs.length=cs.length→Blk w g t (pre ++ (cs ++ post)).toArray→Blk (w.setCells g pre.length vs) g t (pre ++ (vs ++ post)).toArray
 | [],[],pre,post,w,_,h=>h
 | [],_ :: _,_,_,_,e,_=>nomatch e
 | _ :: _,[],_,_,_,e,_=>nomatch e
 | v :: vs,c :: cs,pre,post,w,e,h=>by
   have h1:=h.set_ pre.length v
   have e1:(pre ++ (c :: cs ++ post)).toArray.setIfInBounds pre.length v=((pre ++ [v]) ++ (cs ++ post)).toArray:=by simp
   rw [e1] at h1
   have h2:=Blk.mid vs cs (pre ++ [v]) post _ (by simpa using e) h1
   have e2:(pre ++ [v]).length=pre.length+1:=by simp
   rw [e2] at h2
   have e3:(pre ++ (v :: vs ++ post)).toArray=((pre ++ [v]) ++ (vs ++ post)).toArray:=by simp
   rw [e3]
   exact h2
theorem Blk.one {w:World} {g:Nat} {t:TypeId} {ps:List Pv} (h:Blk w g t (flat ps).toArray) {i:Nat} (hi:i < ps.length) (p:Pv):Blk (w.setCells g (i * 12) (parr p).toList) g t (flat (ps.set i p)).toArray:=by
 have e1:ps=ps.take i ++ ps[i] :: ps.drop (i+1):=by rw [List.getElem_cons_drop,List.take_append_drop]
 have e2:ps.set i p=ps.take i ++ p :: ps.drop (i+1):=by rw [List.set_eq_take_append_cons_drop,if_pos hi]
 have hl:(flat (ps.take i)).length=i * 12:=by rw [flat_length,List.length_take,Nat.min_eq_left (by omega)]
 rw [e1,flat_append] at h
 have h2:=Blk.mid (parr p).toList (parr ps[i]).toList (flat (ps.take i)) (flat (ps.drop (i+1))) w rfl h
 rw [hl] at h2
 rw [e2,flat_append]
 exact h2
def OwnZ (z:Nat) (w:World) (g:Nat) (l:List Qp):Prop:=
 ∃ ps:List Pv,ps.length=l.length∧Blk w g 28 (flat ps).toArray∧∀ (i:Nat) (p:Pv) (q:Qp),ps[i]?=some p→l[i]?=some q→Is w (fun b=>b≠g∧b≠z) p q
abbrev OwnL (w:World) (g:Nat) (l:List Qp):Prop:=OwnZ g w g l
structure Kept (g:Nat) (w w':World):Prop where
 ext:∀ w0,Ext w0 w→w0.heap.size≤g→Ext w0 w'
 blk:∀ g' t cs,Blk w g' t cs→g'≠g→Blk w' g' t cs
 isG:∀ p q (G:Nat→Prop),Is w G p q→(∀ b,G b→b≠g∧b < w.heap.size)→Is w' G p q
 size:w.heap.size≤w'.heap.size
theorem Kept.is {g:Nat} {w w':World} (h:Kept g w w') (p:Pv) (q:Qp) (hi:Is w (fun b=>b≠g) p q):Is w' (fun b=>b≠g) p q:=(h.isG p q _ hi.in (fun _ hb=>hb)).mono fun _ hb=>hb.1
theorem Kept.refl (g:Nat) (w:World):Kept g w w:=⟨fun _ h _=>h,fun _ _ _ h _=>h,fun _ _ _ h _=>h,Nat.le_refl _⟩
theorem Kept.of_ext {g:Nat} {w w':World} (h:Ext w w'):Kept g w w':=⟨fun _ k _=>k.trans h,fun _ _ _ k _=>Blk.ext h k,fun _ _ _ k _=>k.ext h,h.size_le⟩
theorem Kept.trans {g:Nat} {a b c:World} (h:Kept g a b) (k:Kept g b c):Kept g a c:=
 ⟨fun w0 h0 hg=>k.ext w0 (h.ext w0 h0 hg) hg,fun g' t cs hb hn=>k.blk g' t cs (h.blk g' t cs hb hn) hn,fun p q G hi hG=>k.isG p q G (h.isG p q G hi hG) (fun b hb=>⟨(hG b hb).1,Nat.lt_of_lt_of_le (hG b hb).2 h.size⟩),Nat.le_trans h.size k.size⟩
theorem setCells_size (g:Nat):∀ (vs:List Value) (o:Nat) (w:World),(w.setCells g o vs).heap.size=w.heap.size
 | [],_,_=>rfl
 | v :: vs,o,w=>by
   show ((w.setCell ⟨g,o,none⟩ v).setCells g (o+1) vs).heap.size=_
   rw [setCells_size g vs]
   simp
theorem Kept.set (g:Nat) (w:World) (o:Nat) (vs:List Value):Kept g w (w.setCells g o vs):=
 ⟨fun w0 h hg=>Ext.setAll hg vs o _ h,fun g' t cs hb hn=>Blk.farAll (w:=w) hn vs o _ hb,fun p q G hi hG=>Is.putAll (fun hg=>(hG g hg).1 rfl) vs o _ hi,by rw [setCells_size];exact Nat.le_refl _⟩
theorem Kept.alloc {g:Nat} {w w':World} (h:Kept g w w') (o:Obj):Kept g w (w'.alloc o):=h.trans (Kept.of_ext ((Ext.refl w').alloc o))
theorem Kept.drew {g:Nat} {w w':World} (h:Kept g w w'):Kept g w w'.drew:=h.trans (Kept.of_ext (Ext.refl w').drew1)
theorem Kept.cell {g:Nat} {w w':World} (h:Kept g w w') {b:Nat} (hb:b=g∨w.heap.size≤b) (k:Nat) (v:Value):Kept g w (w'.setCell ⟨b,k,none⟩ v):=
 ⟨fun w0 h0 hg=>Ext.setCell (p:=⟨b,k,none⟩) (h.ext w0 h0 hg) (by have :=h0.size_le;show w0.heap.size≤b;omega) v,fun g' t cs hb' hn=>Blk.far (p:=⟨b,k,none⟩) (h.blk g' t cs hb' hn) (by have :=hb'.lt;show g'≠b;omega) v,
  fun p q G hi hG=>(h.isG p q G hi hG).put (fun hGb=>by have :=hG b hGb;omega) v,by simpa using h.size⟩
theorem OwnZ.ext {z:Nat} {w w':World} {g:Nat} {l:List Qp} (h:OwnZ z w g l) (hx:Ext w w'):OwnZ z w' g l:=by
 obtain ⟨ps,h1,h2,h3⟩:=h
 exact ⟨ps,h1,Blk.ext hx h2,fun i p q hp hq=>(h3 i p q hp hq).ext hx⟩
theorem OwnZ.lt {z:Nat} {w:World} {g:Nat} {l:List Qp} (h:OwnZ z w g l):g < w.heap.size:=by
 obtain ⟨ps,h1,h2,h3⟩:=h
 exact h2.lt
theorem OwnZ.own {z:Nat} {w:World} {g:Nat} {l:List Qp} (h:OwnZ z w g l):OwnL w g l:=by
 obtain ⟨ps,h1,h2,h3⟩:=h
 exact ⟨ps,h1,h2,fun i p q hp hq=>(h3 i p q hp hq).mono fun b hb=>⟨hb.1,hb.1⟩⟩
theorem OwnZ.qsz {z:Nat} {w:World} {g:Nat} {l:List Qp} (h:OwnZ z w g l):Qs w (fun b=>b≠g∧b≠z) (some ⟨g,0,none⟩) l:=by
 obtain ⟨ps,h1,h2,h3⟩:=h
 refine ⟨ps,h1,fun h0=>⟨g,0,rfl,h2.lt,fun i p hp j v hv=>?_⟩,h3⟩
 have hj:j < 12:=(List.getElem?_eq_some_iff.1 hv).1
 rw [h2.cell,Nat.zero_add,List.getElem?_toArray,flat_get hp hj,hv]
theorem OwnZ.qs {z:Nat} {w:World} {g:Nat} {l:List Qp} (h:OwnZ z w g l):Qs w (fun b=>b≠g) (some ⟨g,0,none⟩) l:=h.qsz.mono fun _ hb=>hb.1
theorem Kept.isZ {g z:Nat} {w w':World} (h:Kept g w w') (p:Pv) (q:Qp) (hi:Is w (fun b=>b≠g∧b≠z) p q):Is w' (fun b=>b≠g∧b≠z) p q:=(h.isG p q _ hi.in (fun _ hb=>⟨hb.1.1,hb.2⟩)).mono fun _ hb=>hb.1
theorem OwnZ.put {z:Nat} {w:World} {g:Nat} {l:List Qp} (h:OwnZ z w g l) {i:Nat} (hi:i < l.length) {p:Pv} {q:Qp} (hq:Is w (fun b=>b≠g∧b≠z) p q):OwnZ z (w.setCells g (i * 12) (parr p).toList) g (l.set i q):=by
 obtain ⟨ps,h1,h2,h3⟩:=h
 refine ⟨ps.set i p,by simp [h1],h2.one (by omega) p,fun j p' q' hp' hq'=>?_⟩
 refine (Kept.set g w (i * 12) (parr p).toList).isZ _ _ ?_
 by_cases e:j=i
 ·subst e
  rw [List.getElem?_set_self (by omega)] at hp' hq'
  obtain rfl:=Option.some.inj hp'
  obtain rfl:=Option.some.inj hq'
  exact hq
 ·rw [List.getElem?_set_ne (Ne.symm e)] at hp' hq'
  exact h3 j p' q' hp' hq'
end Go.Proofs.YtfmgnaigcibcaaaGreatDoor
namespace Go.Proofs.YtfmgnaigcibcaaaGreatDoor
open Go Go.RowKit
section
variable {P:Program} {ops:Array Oper} {Q:Exit→Act→World→Prop} {md:Region.Mode} {S:World→Prop}
theorem run_index (t e:TypeId) (g o n c k:Nat) (hu:P.underlying t=some (.slice e)) (hs:(P.info? e).map (·.size)=some 12) (hk:k < n) (w:World):
 (Instr.indexAt t (.slice (some ⟨g,o,none⟩) n c) (.int .i64 k)).run P w=.ok (.pointer (some ⟨g,o+k * 12,none⟩)) w:=by
 cases hq:P.info? e with
 | none=>rw [hq] at hs;cases hs
 | some i=>
   have h12:i.size=12:=by rw [hq] at hs;simpa using hs
   have h0:(0:Int)≤(k:Int):=Int.natCast_nonneg k
   simp [Instr.indexAt,asIntOf,Sem.run_bind,run_underlying hu,sizeOf,typeInfo,hq,h12,hk,Addr.add,go_sem]
theorem take_index {i:Nat} {oi:Oper} {fuel:Nat} {listed:Array Bool} {a:Act} {w:World} {d:Tmp} {t e:TypeId} {x y:Operand} (g o n c k:Nat) (hi:ops[i]?=some oi) (hd:oi.dst=some d) (ho:oi.op=.indexAddr t x y) (hw:Region.wanted oi (yielded ops a.tmps)=true)
 (hs:Region.noSelect ops=true) (hf:Region.free md ops listed i=true) (hr:(Region.ready md ops listed).contains i=true)
 (hx:a.eval x=.slice (some ⟨g,o,none⟩) n c) (hy:a.eval y=.int .i64 k) (hk:k < n) (hu:P.underlying t=some (.slice e)) (h12:(P.info? e).map (·.size)=some 12) (hS:S w)
 (h:wpAnyH P md ops (NoPanic Q) S fuel (listed.setIfInBounds i true) (a.put (some d) (.pointer (some ⟨g,o+k * 12,none⟩))) w):wpAnyH P md ops (NoPanic Q) S (fuel+1) listed a w:=
 take_any hi hd hs hf hr (.inl ⟨hw,fun w _=>by
  unfold execOp
  simp only [ho,hx,hy,Sem.run_bind,run_index t e g o n c k hu h12 hk,Result.andThen_ok,Sem.run_pure]⟩) hS h
theorem ti {i:Nat} {oi:Oper} {fuel:Nat} {listed:Array Bool} {a:Act} {w:World} {d:Tmp} {t e:TypeId} {x y:Operand} (g o n c k:Nat) (hi:ops[i]?=some oi) (hd:oi.dst=some d) (ho:oi.op=.indexAddr t x y)
 (hx:a.eval x=.slice (some ⟨g,o,none⟩) n c) (hy:a.eval y=.int .i64 k) (hk:k < n) (hu:P.underlying t=some (.slice e)) (hS:S w)
 (h:wpAnyH P md ops (NoPanic Q) S fuel (listed.setIfInBounds i true) (a.put (some d) (.pointer (some ⟨g,o+k * 12,none⟩))) w)
 (hw:Region.wanted oi (yielded ops a.tmps)=true:=by kernel_rfl) (hs:Region.noSelect ops=true:=by kernel_rfl) (hf:Region.free md ops listed i=true:=by kernel_rfl) (hr:(Region.ready md ops listed).contains i=true:=by kernel_rfl) (h12:(P.info? e).map (·.size)=some 12:=by kernel_rfl):wpAnyH P md ops (NoPanic Q) S (fuel+1) listed a w:=
 take_index g o n c k hi hd ho hw hs hf hr hx hy hk hu h12 hS h
theorem take_next {i:Nat} {oi:Oper} {fuel:Nat} {listed:Array Bool} {a:Act} {w:World} {d:Tmp} {x:Operand} (k:Nat) (hi:ops[i]?=some oi) (hd:oi.dst=some d) (ho:oi.op=.binOp .add 3 x (.const (.int .i64 1)) 3) (hw:Region.wanted oi (yielded ops a.tmps)=true)
 (hs:Region.noSelect ops=true) (hf:Region.free md ops listed i=true) (hr:(Region.ready md ops listed).contains i=true)
 (hx:a.eval x=.int .i64 k) (hk:k < 1152921504606846976) (hS:S w)
 (hrun:∀ w,(execOp a.eval oi).run P w=.ok (.value (.int .i64 (k+1))) w)
 (h:wpAnyH P md ops (NoPanic Q) S fuel (listed.setIfInBounds i true) (a.put (some d) (.int .i64 ((k:Int)+1))) w):wpAnyH P md ops (NoPanic Q) S (fuel+1) listed a w:=
 take_any hi hd hs hf hr (.inl ⟨hw,fun w _=>hrun w⟩) hS h
end
end Go.Proofs.YtfmgnaigcibcaaaGreatDoor
namespace Go.Proofs.YtfmgnaigcibcaaaGreatDoor
open Go Go.RowKit
theorem Sl.off {w w':World} {g:Nat} {A:Option Addr} {n c:Nat} {l:List ByteArray} (h:Sl w A n c l) (hf:Fp (fun b=>b≠g) A n) (hb:∀ k,k≠g→w'.heap[k]?=w.heap[k]?) (hs:w.heap.size≤w'.heap.size):Sl w' A n c l:=by
 refine ⟨⟨h.1.1,fun hn=>?_⟩,h.2⟩
 obtain ⟨b,o,hA,hlt,hc⟩:=h.1.2 hn
 have hne:b≠g:=hf hn _ hA
 refine ⟨b,o,hA,Nat.lt_of_lt_of_le hlt hs,fun j hj=>?_⟩
 rw [← hc j hj]
 exact World.cell?_of_block (hb b hne)
theorem Is.off {w w':World} {g:Nat} {G:Nat→Prop} {p:Pv} {q:Qp} (h:Is w G p q) (hG:∀ b,G b→b≠g) (hb:∀ k,k≠g→w'.heap[k]?=w.heap[k]?) (hs:w.heap.size≤w'.heap.size):Is w' G p q:=by
 obtain ⟨A1,c1,A2,c2,e,⟨s1,s2⟩,f1,f2⟩:=h
 exact ⟨A1,c1,A2,c2,e,⟨s1.off (f1.mono hG) hb hs,s2.off (f2.mono hG) hb hs⟩,f1,f2⟩
section
variable {P:Program}
theorem run_copy12 (w:World) (dT sT ty elem:TypeId) (g n dCap:Nat) (a:Addr) (sCap:Nat) (cur:Array Value) (t:TypeId) (cs:List Value)
 (hu:P.underlying dT=some (.slice elem)) (hs:(P.info? elem).map (·.size)=some 12)
 (hg:w.heap[g]?=some (.cells cur t (0,0))) (hn:cs.length=n * 12) (hc:cur.size=n * 12)
 (hsrc:∀ j v,cs[j]?=some v→w.cell? (a.add j)=some v) (h1:∀ v∈cs,v.oneCell'=true):
 (Builtin.copy_ #[dT,sT] ty #[.slice (some ⟨g,0,none⟩) n dCap,.slice (some a) n sCap]).run P w=.ok (goInt n) (w.setRow g cs.toArray):=by
 have hl:=run_loadCells_list (P:=P) w a cs hsrc
 have hst:=run_storeCells_at P g 0 t cs 0 cur w hg (by omega) h1
 have e:(cur.toList.take (0+0) ++ cs ++ cur.toList.drop (0+0+cs.length)).toArray=cs.toArray:=by
  rw [List.drop_of_length_le (by rw [Array.length_toList];omega)]
  simp
 rw [e] at hst
 rw [hn] at hl
 cases hq:P.info? elem with
 | none=>simp [hq] at hs
 | some i=>
   have hi:i.size=12:=by simpa [hq] using hs
   simp [Builtin.copy_,run_underlying hu,Builtin.lenOf,Builtin.firstCells,sizeOf,typeInfo,hq,hi,hl,hst]
variable {ops:Array Oper} {Q:Exit→Act→World→Prop}
theorem wpList_make12 (w:World) {rest:List Oper} {o:Oper} {a:Act}
 (hg:o.guard=none) (l c:Operand) (t:TypeId) (hop:o.op=Op.makeSlice t l c)
 (e:TypeId) (z:Value) (ht:P.underlying t=some (.slice e)) (hi:(P.info? e).map (fun i=>(i.zero,i.size,i.bytes))=some (some z,12,160)) (n:Nat) (hl:a.eval l=.int .i64 (n:Int)) (hc:a.eval c=.int .i64 (n:Int)) (hn:n≤1000000000000)
 (hK:∀ w' cur,Ext w w'→w'.heap[w.heap.size]?=some (.cells cur e (0,0))→cur.size=n * 12→wpList P ops Q rest (a.put o.dst (.slice (some ⟨w.heap.size,0,none⟩) n n)) w'):
 wpList P ops Q (o :: rest) a w:=by
 obtain ⟨i,hi',hzz⟩:=Option.map_eq_some_iff.1 hi
 simp only [Prod.mk.injEq] at hzz
 obtain ⟨hz,hs,hb⟩:=hzz
 refine wpList_plain hg fun K hK'=>?_
 have hrun:=run_make (P:=P) w t e i z ht hi' hz .i64 .i64 (n:Int) (n:Int) (Int.natCast_nonneg n) (Int.le_refl _) (by rw [hb];omega) (by omega)
 simp only [Int.toNat_natCast] at hrun
 unfold Oper.wp
 simp [execOp,hop,hl,hc,hrun,Result.andThen]
 exact hK' _ _ (hK _ (madeCells z.cells (n * i.size)) ((Ext.refl w).alloc _) (World.alloc_heap_new w _) (by rw [size_madeCells,hs]))
theorem wpList_copy12 (w:World) {rest:List Oper} {o:Oper} {a:Act} (hgd:o.guard=none) (d s:Operand) (dT sT:TypeId)
 (ho:o.op=.call { callee:=.builtin .copy,args:=#[d,s],argTypes:=#[dT,sT] }) (elem:TypeId) (hu:P.underlying dT=some (.slice elem)) (hsz:(P.info? elem).map (·.size)=some 12)
 (g n dCap sCap:Nat) (A:Option Addr) (hd:a.eval d=.slice (some ⟨g,0,none⟩) n dCap) (hs:a.eval s=.slice A n sCap)
 (cur:Array Value) (hg:w.heap[g]?=some (.cells cur 28 (0,0))) (hc:cur.size=n * 12) (hpos:0 < n) {F:Nat→Prop} (l:List Qp) (hl:l.length=n) (hq:Qs w F A l) {z:Nat} (hF:∀ b,F b→b≠g∧b≠z)
 (hK:∀ w',OwnZ z w' g l→Kept g w w'→wpList P ops Q rest (a.put o.dst (goInt n)) w'):wpList P ops Q (o :: rest) a w:=by
 obtain ⟨ps,h1,h2,h3⟩:=hq
 obtain ⟨b,off,rfl,hb,hcell⟩:=h2 (by omega)
 have hfl:(flat ps).length=n * 12:=by rw [flat_length,h1,hl]
 have hrun:=run_copy12 (P:=P) w dT sT o.type elem g n dCap ⟨b,off,none⟩ sCap cur 28 (flat ps) hu hsz hg hfl hc (fun j v hv=>by
  have hj:j < n * 12:=by rw [← hfl];exact (List.getElem?_eq_some_iff.1 hv).1
  have hi:j / 12 < ps.length:=by omega
  have e1:ps[j / 12]?=some ps[j / 12]:=List.getElem?_eq_getElem hi
  have e2:=flat_get e1 (j:=j % 12) (by omega)
  have e3:j / 12 * 12+j % 12=j:=by omega
  rw [e3,hv] at e2
  have:=hcell _ _ e1 (j % 12) v e2.symm
  rwa [Addr.add_mid,show off+j=off+j / 12 * 12+j % 12 by omega]) (fun v hv=>by
  obtain ⟨k,hk,rfl⟩:=List.mem_iff_getElem.1 hv
  have hi:k / 12 < ps.length:=by rw [flat_length] at hk;omega
  have e1:ps[k / 12]?=some ps[k / 12]:=List.getElem?_eq_getElem hi
  have e2:=flat_get e1 (j:=k % 12) (by omega)
  have e3:k / 12 * 12+k % 12=k:=by omega
  rw [e3,List.getElem?_eq_getElem hk] at e2
  have hm:k % 12 < 12:=by omega
  generalize k % 12=m at e2 hm
  match m,hm with
  | 0,_ | 1,_ | 2,_ | 3,_ | 4,_ | 5,_ | 6,_ | 7,_ | 8,_ | 9,_ | 10,_ | 11,_=>
    rw [Option.some.inj e2]
    rfl)
 refine wpList_plain hgd fun K hK'=>?_
 have hset:(w.setRow g (flat ps).toArray).heap[g]?=some (.cells (flat ps).toArray 28 (0,0)):=setRow_heap w g cur _ _ _ hg
 have hkept:Kept g w (w.setRow g (flat ps).toArray):=
  ⟨fun w0 h0 hg0=>below_setRow h0 hg0 _,fun g' t cs hb' hn'=>(setRow_other w g g' _ hn').trans hb',fun p q G hi hG=>hi.off (fun b hb=>(hG b hb).1) (fun k hk=>setRow_other w g k _ hk) (by simp [World.setRow]),by simp [World.setRow]⟩
 have:=hK' _ _ (hK _ ⟨ps,h1,hset,fun i p q hp hq'=>hkept.isZ p q ((h3 i p q hp hq').mono hF)⟩ hkept)
 unfold Oper.wp
 simp [execOp,ho,resolve,invoke,builtin,hd,hs,hrun,Result.andThen]
 exact this
end
end Go.Proofs.YtfmgnaigcibcaaaGreatDoor
namespace Go.Proofs.YtfmgnaigcibcaaaGreatDoor
open Go Go.RowKit
def Grows (w:World) (base:Nat) (F:Nat→Prop) (v:Value) (l:List Qp):Prop:=
 ∃ ps:List Pv,ps.length=l.length∧w.ownsRow base 28 12 v l.length (flat ps)∧∀ (i:Nat) (p:Pv) (q:Qp),ps[i]?=some p→l[i]?=some q→Is w (fun b=>F b∧some b≠v.ownBlock) p q
theorem Grows.nil (w:World) (base:Nat) (F:Nat→Prop):Grows w base F (.slice none 0 0) []:=⟨[],rfl,World.ownsRow_nil w base _ 12,fun i p q hp=>by simp at hp⟩
theorem Grows.own {w:World} {base:Nat} {F:Nat→Prop} {v:Value} {l:List Qp} (h:Grows w base F v l):∀ k,v.ownBlock=some k→base≤k∧k < w.heap.size:=by
 obtain ⟨ps,h1,h2,h3⟩:=h
 exact h2.lt
theorem Grows.ext {w w':World} {base:Nat} {F:Nat→Prop} {v:Value} {l:List Qp} (h:Grows w base F v l) (hx:Ext w w'):Grows w' base F v l:=by
 obtain ⟨ps,h1,h2,h3⟩:=h
 refine ⟨ps,h1,⟨h2.1,?_⟩,fun i p q hp hq=>(h3 i p q hp hq).ext hx⟩
 rcases h2.2 with h | ⟨g,cap,cur,e,hb,hg,h4⟩
 ·exact .inl h
 ·exact .inr ⟨g,cap,cur,e,hb,Blk.ext hx (show Blk w g _ cur from hg),h4⟩
theorem Grows.kept {w w':World} {base g:Nat} {F:Nat→Prop} {v:Value} {l:List Qp} (h:Grows w base F v l) (hk:Kept g w w') (hg:g < base) (hG:∀ b,F b→b≠g):Grows w' base F v l:=by
 obtain ⟨ps,h1,h2,h3⟩:=h
 refine ⟨ps,h1,⟨h2.1,?_⟩,fun i p q hp hq=>(hk.isG p q _ (h3 i p q hp hq).in (fun b hb=>⟨hG b hb.1.1,hb.2⟩)).mono fun b hb=>hb.1⟩
 rcases h2.2 with h | ⟨g',cap,cur,e,hb,hg',h4⟩
 ·exact .inl h
 ·exact .inr ⟨g',cap,cur,e,hb,hk.blk g' _ cur hg' (by omega),h4⟩
theorem Grows.qs {w:World} {base:Nat} {F:Nat→Prop} {v:Value} {l:List Qp} (h:Grows w base F v l):∃ A c,v=.slice A l.length c∧Qs w (fun b=>F b∧some b≠v.ownBlock) A l∧l.length≤c∧(A=none→c=0):=by
 obtain ⟨ps,h1,h2,h3⟩:=h
 rcases h2.2 with ⟨rfl,h0⟩ | ⟨g,cap,cur,rfl,hb,hg,hc,hm,hs,ht⟩
 ·have hl:l=[]:=List.length_eq_zero_iff.1 h0
  subst hl
  exact ⟨none,0,rfl,Qs.nil _ _ _,Nat.le_refl _,fun _=>rfl⟩
 ·refine ⟨some ⟨g,0,none⟩,cap,rfl,⟨ps,h1,fun _=>⟨g,0,rfl,(Array.getElem?_eq_some_iff.1 hg).1,fun i p hp j v hv=>?_⟩,h3⟩,hc,fun h=>nomatch h⟩
  have hj:j < 12:=(List.getElem?_eq_some_iff.1 hv).1
  have hx:=h2.cells (g:=g) rfl (i * 12+j) v (by rw [flat_get hp hj,hv])
  rw [Addr.add_mid] at hx
  rwa [show 0+i * 12+j=0+(i * 12+j) by omega]
theorem Is.grownBy {w w':World} {row:Option Nat} {G:Nat→Prop} {p:Pv} {q:Qp} (h:Is w G p q) (hg:w.grownBy w' row) (hG:∀ b,G b→some b≠row):Is w' G p q:=by
 obtain ⟨A1,c1,A2,c2,e,⟨s1,s2⟩,f1,f2⟩:=h
 have go:∀ {A:Option Addr} {n c:Nat} {l:List ByteArray},Sl w A n c l→Fp G A n→Sl w' A n c l:=fun {A n c l} s f=>by
  refine ⟨⟨s.1.1,fun hn=>?_⟩,s.2⟩
  obtain ⟨b,o,hA,hlt,hc⟩:=s.1.2 hn
  refine ⟨b,o,hA,Nat.lt_of_lt_of_le hlt hg.size,fun j hj=>?_⟩
  rw [← hc j hj]
  exact World.cell?_of_block (hg.block b hlt (hG b (f hn _ hA)))
 exact ⟨A1,c1,A2,c2,e,⟨go s1 f1,go s2 f2⟩,f1,f2⟩
theorem Ext.grownBy {w0 w w':World} {row:Option Nat} (h:Ext w0 w) (hg:w.grownBy w' row) (hr:∀ k,row=some k→w0.heap.size≤k):Ext w0 w':=Below.grown h hg (h.size_le) hr
section
variable {P:Program} {ops:Array Oper} {Q:Exit→Act→World→Prop}
theorem flat_one {ps:List Pv} {j:Nat} {v:Value} (hv:(flat ps)[j]?=some v):∃ i p k,ps[i]?=some p∧k < 12∧(parr p).toList[k]?=some v∧j=i * 12+k:=by
 have hj:j < ps.length * 12:=by rw [← flat_length];exact (List.getElem?_eq_some_iff.1 hv).1
 have hi:j / 12 < ps.length:=by omega
 have e1:ps[j / 12]?=some ps[j / 12]:=List.getElem?_eq_getElem hi
 have e2:=flat_get e1 (j:=j % 12) (by omega)
 have e3:j / 12 * 12+j % 12=j:=by omega
 rw [e3,hv] at e2
 exact ⟨j / 12,_,j % 12,e1,by omega,e2.symm,e3.symm⟩
theorem parr_one {p:Pv} {k:Nat} {v:Value} (hk:k < 12) (h:(parr p).toList[k]?=some v):v.oneCell'=true:=by
 match k,hk with
 | 0,_ | 1,_ | 2,_ | 3,_ | 4,_ | 5,_ | 6,_ | 7,_ | 8,_ | 9,_ | 10,_ | 11,_=>
   obtain rfl:=Option.some.inj h
   rfl
theorem wpList_grow (w:World) {rest:List Oper} {o:Oper} {a:Act} (hgd:o.guard=none) (s x:Operand) (t:TypeId)
 (ho:o.op=.call { callee:=.builtin .append,args:=#[s,x],argTypes:=#[t,t] }) (ht:P.underlying t=some (.slice 28)) (hinfo:(P.info? 28).map (fun i=>(i.zero,i.size,i.bytes))=some (some (.agg zcells),12,160))
 (base:Nat) {F:Nat→Prop} (v:Value) (l l2:List Qp) (hs:a.eval s=v) (h:Grows w base F v l) (ad:Addr) (c:Nat) (hx:a.eval x=.slice (some ad) l2.length c) {G:Nat→Prop} (hq:Qs w G (some ad) l2) (hG:∀ b,G b→b < w.heap.size∧F b∧some b≠v.ownBlock)
 (hm:0 < l2.length) (hn:l.length+l2.length≤800000000000) (hbase:base≤w.heap.size)
 (hK:∀ g cap w',Grows w' base F (.slice (some ⟨g,0,none⟩) (l.length+l2.length) cap) (l ++ l2)→w.grownBy w' v.ownBlock→(v.ownBlock=some g∨g=w.heap.size)→wpList P ops Q rest (a.put o.dst (.slice (some ⟨g,0,none⟩) (l.length+l2.length) cap)) w'):wpList P ops Q (o :: rest) a w:=by
 obtain ⟨i,hi,hzz⟩:=Option.map_eq_some_iff.1 hinfo
 simp only [Prod.mk.injEq] at hzz
 obtain ⟨hz,hsz,hby⟩:=hzz
 obtain ⟨ps,h1,h2,h3⟩:=h
 obtain ⟨ps2,g1,g2,g3⟩:=hq
 obtain ⟨b,off,e,hb,hc⟩:=g2 (by omega)
 obtain rfl:=Option.some.inj e
 refine wpList_append_lies w hgd s x t ho base 28 i (.agg zcells) 12 160 ht hi hz hsz hby rfl (by omega) v l.length (flat ps) hs h2 ⟨b,off,none⟩ l2.length c (flat ps2) hx (by rw [flat_length,g1]) (fun j u hu=>?_) (fun u hu=>?_) hm (by simp [maxLen];omega) (by omega) hbase w.heap.size rfl (fun g cap w' hown hgrow hlie hlt=>?_)
 ·obtain ⟨k,p,m,hp,hm,hv,rfl⟩:=flat_one hu
  have:=hc k p hp m u hv
  rwa [Addr.add_mid,show off+(k * 12+m)=off+k * 12+m by omega]
 ·obtain ⟨j,hj,rfl⟩:=List.mem_iff_getElem.1 hu
  obtain ⟨k,p,m,hp,hm,hv,e⟩:=flat_one (List.getElem?_eq_getElem hj)
  exact parr_one hm hv
 ·refine hK g cap w' ⟨ps ++ ps2,by simp [h1,g1],by rw [List.length_append,flat_append];exact hown,fun i p q hp hq=>?_⟩ hgrow hlie
  have fin:∀ {p:Pv} {q:Qp},Is w (fun b=>b < w.heap.size∧F b∧some b≠v.ownBlock) p q→Is w' (fun b=>F b∧some b≠Value.ownBlock (.slice (some ⟨g,0,none⟩) (l ++ l2).length cap)) p q:=fun h=>
   (h.grownBy hgrow (fun b hb=>hb.2.2)).mono (fun b hb=>⟨hb.2.1,fun e=>by
     have e':b=g:=by simpa [Value.ownBlock] using e
     rcases hlie with h' | h'
     ·exact hb.2.2 (by rw [h',e'])
     ·omega⟩)
  by_cases hlt':i < ps.length
  ·rw [List.getElem?_append_left hlt'] at hp
   rw [List.getElem?_append_left (by omega)] at hq
   exact fin ((h3 i p q hp hq).in.mono fun b hb=>⟨hb.2,hb.1⟩)
  ·rw [List.getElem?_append_right (by omega)] at hp hq
   rw [h1] at hp
   exact fin ((g3 _ p q hp hq).mono hG)
end
end Go.Proofs.YtfmgnaigcibcaaaGreatDoor
namespace Go.Proofs.YtfmgnaigcibcaaaGreatDoor
open Go Go.RowKit
structure Off (D:Nat→Prop) (w w':World):Prop where
 os:w'.os=w.os
 tape:w'.tape=w.tape
 output:w'.output=w.output
 size:w.heap.size≤w'.heap.size
 block:∀ k,k < w.heap.size→¬ D k→w'.heap[k]?=w.heap[k]?
section
variable {D E F G:Nat→Prop} {a b c w w' w0:World}
theorem Off.of_ext (D:Nat→Prop) (h:Ext w w'):Off D w w':=⟨h.os,h.tape,h.output,h.size,fun k hk _=>Below.block h k hk⟩
theorem Off.refl (D:Nat→Prop) (w:World):Off D w w:=Off.of_ext D (Ext.refl w)
theorem Off.trans (h:Off D a b) (k:Off D b c):Off D a c:=⟨k.os.trans h.os,k.tape.trans h.tape,k.output.trans h.output,Nat.le_trans h.size k.size,fun i hi hd=>(k.block i (Nat.lt_of_lt_of_le hi h.size) hd).trans (h.block i hi hd)⟩
theorem Off.mono (h:Off D a b) (hD:∀ k,D k→E k):Off E a b:=⟨h.os,h.tape,h.output,h.size,fun k hk hd=>h.block k hk (fun e=>hd (hD k e))⟩
theorem Off.grown {row:Option Nat} (h:w.grownBy w' row) (hD:∀ k,row=some k→D k):Off D w w':=⟨h.os,h.tape,h.output,h.size,fun k hk hd=>h.block k hk (fun e=>hd (hD k e.symm))⟩
theorem Off.cell (h:Off D a b) (p:Addr) (hp:D p.block∨a.heap.size≤p.block) (v:Value):Off D a (b.setCell p v):=
 ⟨h.os,h.tape,h.output,by simpa using h.size,fun k hk hd=>(Below.heap_setCell b p v k (hp.elim (fun hp e=>hd (by rw [e];exact hp)) (fun hp=>by omega))).trans (h.block k hk hd)⟩
theorem Off.alloc (h:Off D a b) (o:Obj):Off D a (b.alloc o):=h.trans (Off.of_ext D ((Ext.refl b).alloc o))
theorem Off.drew (h:Off D a b):Off D a b.drew:=h.trans (Off.of_ext D (Ext.refl b).drew1)
theorem Off.ext (h:Off D a b) (h0:Ext w0 a) (hD:∀ k,D k→w0.heap.size≤k):Ext w0 b:=
 ⟨h.os.trans h0.os,h.tape.trans h0.tape,h.output.trans h0.output,Nat.le_trans h0.size_le h.size,fun k hk=>(h.block k (Nat.lt_of_lt_of_le hk h0.size_le) (fun hd=>absurd (hD k hd) (by omega))).trans (Below.block h0 k hk)⟩
theorem Blk.offD {g:Nat} {t:TypeId} {cs:Array Value} (h:Blk w g t cs) (hk:Off D w w') (hd:¬ D g):Blk w' g t cs:=(hk.block g h.lt hd).trans h
theorem Sl.offD {A:Option Addr} {n c:Nat} {l:List ByteArray} (h:Sl w A n c l) (hk:Off D w w') (hf:Fp (fun b=>¬ D b) A n):Sl w' A n c l:=by
 refine ⟨⟨h.1.1,fun hn=>?_⟩,h.2⟩
 obtain ⟨b,o,hA,hlt,hc⟩:=h.1.2 hn
 have hne:¬ D b:=hf hn _ hA
 refine ⟨b,o,hA,Nat.lt_of_lt_of_le hlt hk.size,fun j hj=>?_⟩
 rw [← hc j hj]
 exact World.cell?_of_block (hk.block b hlt hne)
theorem Is.offD {p:Pv} {q:Qp} (h:Is w G p q) (hk:Off D w w') (hG:∀ b,G b→¬ D b):Is w' G p q:=by
 obtain ⟨A1,c1,A2,c2,e,⟨s1,s2⟩,f1,f2⟩:=h
 exact ⟨A1,c1,A2,c2,e,⟨s1.offD hk (f1.mono hG),s2.offD hk (f2.mono hG)⟩,f1,f2⟩
theorem Row.offD {A:Option Addr} {ps:List Pv} (h:Row w A ps) (hk:Off D w w') (hA:0 < ps.length→∀ ad,A=some ad→¬ D ad.block):Row w' A ps:=fun h0=>by
 obtain ⟨b,o,e,hl,hc⟩:=h h0
 exact ⟨b,o,e,Nat.lt_of_lt_of_le hl hk.size,fun i p hp j v hv=>(World.cell?_of_block (a:=⟨b,_,none⟩) (hk.block b hl (hA h0 _ e))).trans (hc i p hp j v hv)⟩
theorem Qs.offD {A:Option Addr} {l:List Qp} (h:Qs w F A l) (hk:Off D w w') (hA:0 < l.length→∀ ad,A=some ad→¬ D ad.block) (hF:∀ b,F b→¬ D b):Qs w' F A l:=by
 obtain ⟨ps,h1,h2,h3⟩:=h
 exact ⟨ps,h1,h2.offD hk (fun h0=>hA (by omega)),fun i p q hp hq=>(h3 i p q hp hq).offD hk hF⟩
theorem Grows.offD {base:Nat} {v:Value} {l:List Qp} (h:Grows w base F v l) (hk:Off D w w') (hv:∀ k,v.ownBlock=some k→¬ D k) (hF:∀ b,F b→¬ D b):Grows w' base F v l:=by
 obtain ⟨ps,h1,h2,h3⟩:=h
 refine ⟨ps,h1,⟨h2.1,?_⟩,fun i p q hp hq=>(h3 i p q hp hq).offD hk (fun b hb=>hF b hb.1)⟩
 rcases h2.2 with h | ⟨g,cap,cur,e,hb,hg,h4⟩
 ·exact .inl h
 ·exact .inr ⟨g,cap,cur,e,hb,Blk.offD (show Blk w g _ cur from hg) hk (hv g (by rw [e];rfl)),h4⟩
theorem Is.turned {p:Pv} {q:Qp} (h:Is w G p q) (ht:Turned w w'):Is w' G p q:=by
 obtain ⟨A1,c1,A2,c2,e,⟨s1,s2⟩,f1,f2⟩:=h
 exact ⟨A1,c1,A2,c2,e,⟨s1.turned ht,s2.turned ht⟩,f1,f2⟩
theorem Qs.turned {A:Option Addr} {l:List Qp} (h:Qs w F A l) (ht:Turned w w'):Qs w' F A l:=by
 obtain ⟨ps,h1,h2,h3⟩:=h
 refine ⟨ps,h1,fun h0=>?_,fun i p q hp hq=>(h3 i p q hp hq).turned ht⟩
 obtain ⟨b,o,e,hl,hc⟩:=h2 h0
 exact ⟨b,o,e,Nat.lt_of_lt_of_le hl ht.size,fun i p hp j v hv=>ht.cell (hc i p hp j v hv)⟩
theorem Grows.turned {base:Nat} {v:Value} {l:List Qp} (h:Grows w base F v l) (ht:Turned w w'):Grows w' base F v l:=by
 obtain ⟨ps,h1,h2,h3⟩:=h
 refine ⟨ps,h1,⟨h2.1,?_⟩,fun i p q hp hq=>(h3 i p q hp hq).turned ht⟩
 rcases h2.2 with h | ⟨g,cap,cur,e,hb,hg,h4⟩
 ·exact .inl h
 ·exact .inr ⟨g,cap,cur,e,hb,Blk.turned (show Blk w g _ cur from hg) ht,h4⟩
end
end Go.Proofs.YtfmgnaigcibcaaaGreatDoor
namespace Go.Proofs.YtfmgnaigcibcaaaGreatDoor
open Go Go.RowKit
attribute [local go_sem ↓] Go.wp_at_zero Go.wp_at_succ
theorem own_ne {b g n c:Nat} (h:b < g):some b≠Value.ownBlock (.slice (some ⟨g,0,none⟩) n c):=fun e=>absurd (Option.some.inj (show some b=some g from e)) (by omega)
theorem Grows.empty {w:World} {base:Nat} (F:Nat→Prop) (hb:base≤w.heap.size):Grows (w.alloc (.cells #[] 28)) base F (.slice (some ⟨w.heap.size,0,none⟩) 0 0) []:=
 ⟨[],rfl,World.ownsRow_lit w #[] 0 hb (Nat.zero_le _) rfl,fun i p q hp=>by simp at hp⟩
section
variable {P:Program}
theorem run_append_zero {w:World} (base:Nat) (t ty e:TypeId) (i:TypeInfo) (size:Nat) (ht:P.underlying t=some (.slice e)) (hi:P.info? e=some i)
 (v:Value) (n:Nat) (xs:List Value) (hown:w.ownsRow base e size v n xs) (ad:Option Addr) (c:Nat):
 (Builtin.append_ #[t,t] ty #[v,.slice ad 0 c]).run P w=.ok v w:=by
 cases ad with
 | none=>rcases hown.2 with ⟨rfl,rfl⟩ | ⟨g,cap,cur,rfl,_,_,hnc,_⟩
         ·simp [Builtin.append_,run_underlying ht,sizeOf,typeInfo,hi,Builtin.lenOf,Builtin.firstCells]
         ·simp [Builtin.append_,run_underlying ht,sizeOf,typeInfo,hi,Builtin.lenOf,Builtin.firstCells,hnc,storeCells]
 | some ad=>
   have hf:=run_firstCells_some (P:=P) w i.size 0 ad 0 c [] (by simp) (by simp)
   rcases hown.2 with ⟨rfl,rfl⟩ | ⟨g,cap,cur,rfl,_,_,hnc,_⟩
   ·simp [Builtin.append_,run_underlying ht,sizeOf,typeInfo,hi,Builtin.lenOf,hf]
   ·simp [Builtin.append_,run_underlying ht,sizeOf,typeInfo,hi,Builtin.lenOf,hf,hnc,storeCells]
variable {ops:Array Oper} {Q:Exit→Act→World→Prop}
theorem wpList_append_zero {w:World} {rest:List Oper} {o:Oper} {a:Act} (hgd:o.guard=none) (s x:Operand) (t:TypeId)
 (ho:o.op=.call { callee:=.builtin .append,args:=#[s,x],argTypes:=#[t,t] })
 (base:Nat) (e:TypeId) (i:TypeInfo) (size:Nat) (ht:P.underlying t=some (.slice e)) (hi:P.info? e=some i)
 (v:Value) (n:Nat) (xs:List Value) (hs:a.eval s=v) (hown:w.ownsRow base e size v n xs) (ad:Option Addr) (c:Nat) (hx:a.eval x=.slice ad 0 c)
 (h:wpList P ops Q rest (a.put o.dst v) w):wpList P ops Q (o :: rest) a w:=by
 refine wpList_plain hgd fun K hK=>?_
 have hrun:=run_append_zero (P:=P) (w:=w) base t o.type e i size ht hi v n xs hown ad c
 unfold Oper.wp
 simp [execOp,ho,resolve,invoke,builtin,hs,hx,hrun,Result.andThen]
 exact hK _ _ h
theorem wpList_grows (w:World) {rest:List Oper} {o:Oper} {a:Act} (hgd:o.guard=none) (s x:Operand) (t:TypeId)
 (ho:o.op=.call { callee:=.builtin .append,args:=#[s,x],argTypes:=#[t,t] }) (ht:P.underlying t=some (.slice 28)) (hinfo:(P.info? 28).map (fun i=>(i.zero,i.size,i.bytes))=some (some (.agg zcells),12,160))
 (base:Nat) {F:Nat→Prop} (v:Value) (l l2:List Qp) (hs:a.eval s=v) (h:Grows w base F v l) (ad:Option Addr) (n2 c:Nat) (hx:a.eval x=.slice ad n2 c) (hn2:l2.length=n2) {G:Nat→Prop} (hq:Qs w G ad l2) (hG:∀ b,G b→b < w.heap.size∧F b∧some b≠v.ownBlock)
 (hn:l.length+n2≤800000000000) (hbase:base≤w.heap.size)
 (hK:∀ v' w',Grows w' base F v' (l ++ l2)→w.grownBy w' v.ownBlock→wpList P ops Q rest (a.put o.dst v') w'):wpList P ops Q (o :: rest) a w:=by
 subst hn2
 by_cases h0:l2=[]
 ·subst h0
  obtain ⟨i,hi,hzz⟩:=Option.map_eq_some_iff.1 hinfo
  obtain ⟨ps,h1,h2,h3⟩:=h
  exact wpList_append_zero hgd s x t ho base 28 i 12 ht hi v l.length (flat ps) hs h2 ad c hx (hK v w (by rw [List.append_nil];exact ⟨ps,h1,h2,h3⟩) (World.grownBy.refl _ _))
 ·have hm:0 < l2.length:=List.length_pos_iff.2 h0
  have hsome:∃ b o',ad=some ⟨b,o',none⟩:=by
   obtain ⟨ps,g1,g2,_⟩:=hq
   obtain ⟨b,o',e,_⟩:=g2 (by omega)
   exact ⟨b,o',e⟩
  obtain ⟨b,o',rfl⟩:=hsome
  exact wpList_grow w hgd s x t ho ht hinfo base v l l2 hs h ⟨b,o',none⟩ c hx hq hG hm hn hbase (fun g cap w' hgr hgrow _=>hK _ _ hgr hgrow)
end
set_option maxHeartbeats 4000000 in
set_option maxRecDepth 100000 in
theorem pclone_any (A:Option Addr) (n c:Nat) (l:List Qp) (w:World) {F:Nat→Prop} (h:Qs w F A l) (hn:l.length=n) (hA:A=none→n=0∧c=0) (hb:n≤100000000000):
 Calls Tryz.prog 67 #[.slice A n c] w (fun e w'=>∃ A' c',e=.returned (.slice A' n c')∧Hid (Qs w' (fun b=>F b∧b < w.heap.size) A' l)∧(A'=none→c'=0)∧(∀ ad,A'=some ad→w.heap.size≤ad.block∧ad.block < w'.heap.size)∧Ext w w'):=by
 have qq:∀ (w:World) (a:Option Addr) (n c n' c':Nat),(Go.binOp .eql 37 (.slice a n c) (.slice none n' c')).run Tryz.prog w=.ok (.bool a.isNone) w:=fun w a n c n' c'=>Lib.run_eql_slice_nil w _ _ a n c n' c' Tryz.underlying37
 cases A with
 | none=>
   obtain ⟨rfl,rfl⟩:=hA rfl
   have hl:l=[]:=List.length_eq_zero_iff.1 hn
   subst hl
   go_enter Tryz.func67,Tryz.ntmps67
   have hx:=Ext.refl w
   go_wp2
   refine bodyPost_ret (v:=.slice none 0 0) (by simp only [results,Tryz.results67];go_simp) rfl ?_
   exact ⟨none,0,rfl,Lib.hid (Qs.nil _ _ _),fun _=>rfl,(fun ad e=>nomatch e),hx⟩
 | some a=>
   have H:=Lib.hid h.in
   have HN:=Lib.hid hn
   clear h hn hA
   go_enter Tryz.func67,Tryz.ntmps67
   have hx:=Ext.refl w
   go_wp2_with (at_builtin;refine wpList_grows _ rfl _ _ 37 rfl Tryz.underlying37 (by kernel_rfl) w.heap.size _ [] l rfl (Grows.empty (fun b=>F b∧b < w.heap.size) (Nat.le_refl _)) (some a) n c rfl HN.out (H.out.ext ((Ext.refl w).alloc _)) (fun b hb=>⟨by have :=hb.2;simp;omega,hb,own_ne hb.2⟩) (by simp;omega) (by simp) ?_;intro v' w1 hgr hgrow)
   refine bodyPost_ret (v:=v') (by simp only [results,Tryz.results67];go_simp) rfl ?_
   have hx1:Ext w w1:=Ext.grownBy ((Ext.refl w).alloc _) hgrow (fun k e=>Nat.le_of_eq (Option.some.inj (show some w.heap.size=some k from e)))
   have hown:=hgr.own
   obtain ⟨A',c',rfl,hqs,hle,hnone⟩:=hgr.qs
   rw [List.nil_append] at hqs
   have hl:([] ++ l).length=n:=by simpa using HN.out
   refine ⟨A',c',by rw [hl],Lib.hid (hqs.mono fun b hb=>hb.1),hnone,fun ad e=>?_,hx1⟩
   exact hown ad.block (by rw [e];rfl)
end Go.Proofs.YtfmgnaigcibcaaaGreatDoor
namespace Go.Proofs.YtfmgnaigcibcaaaGreatDoor
open Go Go.RowKit
section
variable {P:Program} {Q:Exit→Act→World→Prop}
theorem wp_grow (w:World) {o:Oper} {a:Act} {K:Act→World→Prop} (s x:Operand) (t:TypeId)
 (ho:o.op=.call { callee:=.builtin .append,args:=#[s,x],argTypes:=#[t,t] }) (ht:P.underlying t=some (.slice 28)) (hinfo:(P.info? 28).map (fun i=>(i.zero,i.size,i.bytes))=some (some (.agg zcells),12,160))
 (base:Nat) {F:Nat→Prop} (v:Value) (l l2:List Qp) (hs:a.eval s=v) (h:Grows w base F v l) (ad:Addr) (n2 c:Nat) (hx:a.eval x=.slice (some ad) n2 c) (hn2:l2.length=n2) {G:Nat→Prop} (hq:Qs w G (some ad) l2) (hG:∀ b,G b→b < w.heap.size∧F b∧some b≠v.ownBlock)
 (hm:0 < n2) (hn:l.length+n2≤800000000000) (hbase:base≤w.heap.size)
 (hK:∀ g cap w',Grows w' base F (.slice (some ⟨g,0,none⟩) (l.length+n2) cap) (l ++ l2)→w.grownBy w' v.ownBlock→(v.ownBlock=some g∨g=w.heap.size)→K (a.put o.dst (.slice (some ⟨g,0,none⟩) (l.length+n2) cap)) w'):o.wp P a w K Q:=by
 subst hn2
 obtain ⟨i,hi,hzz⟩:=Option.map_eq_some_iff.1 hinfo
 simp only [Prod.mk.injEq] at hzz
 obtain ⟨hz,hsz,hby⟩:=hzz
 obtain ⟨ps,h1,h2,h3⟩:=h
 obtain ⟨ps2,g1,g2,g3⟩:=hq
 obtain ⟨b,off,e,hb,hc⟩:=g2 (by omega)
 obtain rfl:=Option.some.inj e
 refine wp_append_lies w s x t ho base 28 i (.agg zcells) 12 160 ht hi hz hsz hby rfl (by omega) v l.length (flat ps) hs h2 ⟨b,off,none⟩ l2.length c (flat ps2) hx (by rw [flat_length,g1]) (fun j u hu=>?_) (fun u hu=>?_) hm (by simp [maxLen];omega) (by omega) hbase w.heap.size rfl (fun g cap w' hown hgrow hlie hlt=>?_)
 ·obtain ⟨k,p,m,hp,hm,hv,rfl⟩:=flat_one hu
  have:=hc k p hp m u hv
  rwa [Addr.add_mid,show off+(k * 12+m)=off+k * 12+m by omega]
 ·obtain ⟨j,hj,rfl⟩:=List.mem_iff_getElem.1 hu
  obtain ⟨k,p,m,hp,hm,hv,e⟩:=flat_one (List.getElem?_eq_getElem hj)
  exact parr_one hm hv
 ·refine hK g cap w' ⟨ps ++ ps2,by simp [h1,g1],by rw [List.length_append,flat_append];exact hown,fun i p q hp hq=>?_⟩ hgrow hlie
  have fin:∀ {p:Pv} {q:Qp},Is w (fun b=>b < w.heap.size∧F b∧some b≠v.ownBlock) p q→Is w' (fun b=>F b∧some b≠Value.ownBlock (.slice (some ⟨g,0,none⟩) (l ++ l2).length cap)) p q:=fun h=>
   (h.grownBy hgrow (fun b hb=>hb.2.2)).mono (fun b hb=>⟨hb.2.1,fun e=>by
     have e':b=g:=by simpa [Value.ownBlock] using e
     rcases hlie with h' | h'
     ·exact hb.2.2 (by rw [h',e'])
     ·omega⟩)
  by_cases hlt':i < ps.length
  ·rw [List.getElem?_append_left hlt'] at hp
   rw [List.getElem?_append_left (by omega)] at hq
   exact fin ((h3 i p q hp hq).in.mono fun b hb=>⟨hb.2,hb.1⟩)
  ·rw [List.getElem?_append_right (by omega)] at hp hq
   rw [h1] at hp
   exact fin ((g3 _ p q hp hq).mono hG)
end
end Go.Proofs.YtfmgnaigcibcaaaGreatDoor
