import Derived.Test.YtfmgnaigcibcaaaGreatDoorTJn
import Derived.Test.YtfmgnaigcibcaaaGreatDoorTQe
import Derived.Test.YtfmgnaigcibcaaaGreatDoorTQ3
import Derived.Test.YtfmgnaigcibcaaaGreatDoorTBase
import Derived.RangeFuncNested
import Derived.RangeFuncBound
import Derived.RangeFuncLeaves
import Derived.Shelf.Abstract
import Derived.Shelf.RegionOpen
import Derived.OwnWalkIn
import Derived.TacticsInMore
import Derived.LoopNIn
import Derived.LoopIn
set_option linter.unusedSimpArgs false
set_option linter.unusedVariables false
namespace Go.Proofs.YtfmgnaigcibcaaaGreatDoor
open Go.RowKit
attribute [local go_sem ↓] Go.wp_at_zero Go.wp_at_succ
def Qp.merge (a b:Qp):Qp × Qp × Bool:=
 if a.check≠0 then (Qp.zero,Qp.zero,false) else if (a.inv.commute b).2.2 then ((a.inv.commute b).1,(a.inv.commute b).2.1.inv,true) else (Qp.zero,Qp.zero,false)
def Mid (F:Nat→Prop) (w:World) (c d:Qp) (wx:World) (g7 g8:Nat):Prop:=
 ∃ P1 P2:Pv,Blk wx g7 28 (parr P1)∧Blk wx g8 28 (parr P2)∧g7≠g8∧w.heap.size+4≤g7∧w.heap.size+4≤g8 ∧
  Hid (Is wx (fun b=>(F b∧b < w.heap.size)∨(w.heap.size+4≤b∧b≠g7∧b≠g8)) P1 c)∧Hid (Is wx (fun b=>(F b∧b < w.heap.size)∨(w.heap.size+4≤b∧b≠g7∧b≠g8)) P2 d)
section
variable {P:Program} {ops:Array Oper} {Q:Exit→Act→World→Prop} {md:Region.Mode} {S:World→Prop}
theorem take_free {i:Nat} {oi:Oper} {v:Value} {fuel:Nat} {listed:Array Bool} {a:Act} {w:World} {d:Tmp} (hi:ops[i]?=some oi) (hd:oi.dst=some d) (hw:Region.wanted oi (yielded ops a.tmps)=true)
 (hs:Region.noSelect ops=true) (hf:Region.free md ops listed i=true) (hr:(Region.ready md ops listed).contains i=true)
 (hy:∀ w,(execOp a.eval oi).run P w=.ok (.value v) w) (hS:S w)
 (h:wpAnyH P md ops (NoPanic Q) S fuel (listed.setIfInBounds i true) (a.put (some d) v) w):wpAnyH P md ops (NoPanic Q) S (fuel+1) listed a w:=
 take_any hi hd hs hf hr (.inl ⟨hw,fun w _=>hy w⟩) hS h
end
end Go.Proofs.YtfmgnaigcibcaaaGreatDoor
namespace Go.Proofs.YtfmgnaigcibcaaaGreatDoor
open Go.RowKit Pa
theorem commute_run {a b c d:Qp} (h:a.commute b=(c,d,true)):a.run b=(c,d,true)∧a.check=0∧b.check=0:=by
 unfold Qp.commute at h
 split at h
 ·simp only [Prod.mk.injEq] at h
  exact absurd h.2.2 (by decide)
 rename_i h0
 simp only [ne_eq,not_or,Decidable.not_not] at h0
 split at h
 ·simp only [Prod.mk.injEq] at h
  exact absurd h.2.2 (by decide)
 rename_i h1
 split at h
 ·simp only [Prod.mk.injEq,and_true] at h
  refine ⟨?_,h0⟩
  rw [← h.1,← h.2]
  have:(a.run b).2.2=true:=by simpa using h1
  rw [← this]
 ·simp only [Prod.mk.injEq] at h
  exact absurd h.2.2 (by decide)
structure Run (a b c d C D:Qp):Prop where
 hC:C=(Qp.through b a.inv).1
 hD:D=(Qp.through a C).1
 k1:(Qp.through b a.inv).2=true
 k2:(Qp.through a C).2=true
 free:Qp.free a b C D=true
 empty:Qp.empty a b C=true
 moves:Qp.moves a b=true
 conts:Qp.contents a b C D=(c,d,true)
 z1:c.check=0
 z2:d.check=0
theorem run_parts {a b c d:Qp} (h:a.run b=(c,d,true)):∃ C D,Run a b c d C D:=by
 unfold Qp.run Qp.runOf at h
 split at h
 rotate_left
 ·simp only [Prod.mk.injEq] at h
  exact absurd h.2.2 (by decide)
 rename_i hh
 simp only [Bool.and_eq_true,decide_eq_true_eq] at hh
 obtain ⟨⟨k1,k2⟩,hf,he,hm,hc,z1,z2⟩:=hh
 simp only [Prod.mk.injEq,and_true] at h
 obtain ⟨rfl,rfl⟩:=h
 exact ⟨_,_,rfl,rfl,k1,k2,hf,he,hm,by rw [← hc],z1,z2⟩
theorem commute_ne {a b d:Qp} (h:a.commute b=(a,d,true)):False:=by
 have hm:=(commute_cm h).1
 obtain ⟨hr,ha,hb⟩:=commute_run h
 obtain ⟨C,D,R⟩:=run_parts hr
 have hk:a.kind=b.kind:=hm.cc.1
 have hp:a.kind≠5→b.path=a.path:=fun k=>(hm.pc.still k).2.1
 have hco:=contents_core a b C D
 rw [R.conts] at hco
 obtain ⟨-,-,g3,-⟩:=hco
 dsimp only at g3
 rcases Qp.kinds ha with k | k | k | k
 ·have hf:=R.free
  unfold Qp.free Qm.xfree at hf
  simp only [Bool.and_eq_true] at hf
  have h1:=hf.2.1
  unfold Qm.news at h1
  have e:=hp (by omega)
  have kb:b.kind=1∨b.kind=3:=by omega
  rcases k with k | k
  ·have k':b.kind=1:=by omega
   simp only [Qm.newPath,Qm.adds,k,k',e] at h1
   simp [Qm.eqB_iff.2] at h1
  ·have k':b.kind=3:=by omega
   simp only [Qm.newPath,Qm.adds,k,k',e] at h1
   simp [Qm.eqB_iff.2] at h1
 ·have h1:=R.k1
  have e:=hp (by omega)
  unfold Qp.through Pv.through at h1
  dsimp only at h1
  rw [Bool.and_eq_true] at h1
  have h2:=h1.1
  rcases k with k | k
  ·have k':b.kind=2:=by omega
   simp [Qm.adds,Qm.after,k',Qp.inv,k,e,Qm.within,Qm.eqB] at h2
  ·have k':b.kind=4:=by omega
   simp [Qm.adds,Qm.after,k',Qp.inv,k,e,Qm.within,Qm.eqB] at h2
 ·have ho:=hm.pc.old (by rw [k];rfl)
  rw [Ex,if_pos k] at ho
  rcases ho with ⟨e,he,h1,h2⟩ | ⟨h1,_,_⟩
  ·have:e=[]:=by
    have:=congrArg List.length h1
    simp at this
    exact this
   rw [this,List.append_nil] at h2
   exact hm.x1 k (by omega) (L_inj h2.symm)
  ·exact h1 (wi.refl _)
 ·have e:=hp (by omega)
  have l1:a.old=b.old:=hm.cc.2.2.1
  have l2:a.new=b.new:=hm.cc.2.2.2.1
  have l3:a.so=b.so:=hm.cc.2.2.2.2.1
  have l4:a.sn=b.sn:=hm.cc.2.2.2.2.2.1
  rcases k with k | k | k
  ·have:=hm.at6 k (by omega) rfl
   unfold Cross at this
   rw [l1,l2] at this
   omega
  ·have:=hm.of7 k (by omega) rfl
   unfold Cross at this
   rw [l3,l4] at this
   omega
  ·have hc:=R.conts
   have k':b.kind=8:=by omega
   have ep:C.path=a.path:=g3.2.1
   unfold Qp.contents at hc
   rw [if_neg (by simp [Qm.adds,k,k',ep,Qm.eqB]),if_pos (.inr ⟨k,k'⟩)] at hc
   simp only [Prod.mk.injEq] at hc
   exact absurd hc.2.2 (by decide)
namespace Sq
def swap (l:List Qp) (i:Nat):Option (List Qp):=
 if ((l.getD i Qp.zero).commute (l.getD (i+1) Qp.zero)).2.2 then
  some ((l.set i ((l.getD i Qp.zero).commute (l.getD (i+1) Qp.zero)).1).set (i+1) ((l.getD i Qp.zero).commute (l.getD (i+1) Qp.zero)).2.1)
 else none
def right:Nat→List Qp→Nat→Option (List Qp)
 | 0,l,_=>some l
 | n+1,l,i=>(swap l i).bind fun m=>right n m (i+1)
def left:Nat→List Qp→Nat→Option (List Qp)
 | 0,l,_=>some l
 | n+1,l,i=>(swap l (i - 1)).bind fun m=>left n m (i - 1)
def move (l:List Qp) (i k:Nat):Option (List Qp):=
 if i < l.length∧k < l.length then (if i≤k then right (k - i) l i else left (i - k) l i) else none
def withoutFrom (l:List Qp) (p:Qp):Nat→Nat→Option (List Qp)
 | 0,_=>none
 | n+1,i=>match move l i 0 with
   | some m=>if (m.getD 0 Qp.zero).same p then some m.tail else withoutFrom l p n (i+1)
   | none=>withoutFrom l p n (i+1)
def without (l:List Qp) (p:Qp):Option (List Qp):=withoutFrom l p l.length 0
def same:List Qp→List Qp→Bool
 | a,[]=>a.isEmpty
 | a,p :: b=>match without a p with
   | some r=>same r b
   | none=>false
theorem swap_at (p:List Qp) (a b:Qp) (s:List Qp):swap (p ++ a :: b :: s) p.length=if (a.commute b).2.2 then some (p ++ (a.commute b).1 :: (a.commute b).2.1 :: s) else none:=by
 have e1:(p ++ a :: b :: s).getD p.length Qp.zero=a:=by simp [List.getD]
 have e2:(p ++ a :: b :: s).getD (p.length+1) Qp.zero=b:=by simp [List.getD,List.getElem?_append_right]
 unfold swap
 rw [e1,e2]
 split
 ·congr 1
  rw [List.set_append_right _ _ (Nat.le_refl _),Nat.sub_self,List.set_cons_zero,List.set_append_right _ _ (by omega)]
  simp
 ·rfl
theorem parts {l:List Qp} {i:Nat} (h:i+1 < l.length):∃ p a b s,l=p ++ a :: b :: s∧p.length=i:=by
 refine ⟨l.take i,l[i],l[i+1],l.drop (i+2),?_,by simp;omega⟩
 rw [List.getElem_cons_drop,List.getElem_cons_drop,List.take_append_drop]
theorem swap_length {l m:List Qp} {i:Nat} (h:swap l i=some m):m.length=l.length:=by
 unfold swap at h
 split at h
 ·obtain rfl:=Option.some.inj h
  simp
 ·cases h
theorem swap_back {l m:List Qp} {i:Nat} (hi:i+1 < l.length) (h:swap l i=some m):swap m i=some l:=by
 obtain ⟨p,a,b,s,rfl,rfl⟩:=parts hi
 rw [swap_at] at h
 split at h
 ·rename_i hk
  obtain rfl:=Option.some.inj h
  rw [swap_at]
  have e:a.commute b=((a.commute b).1,(a.commute b).2.1,true):=by rw [← hk]
  rw [(commute_back e).1]
  rfl
 ·cases h
theorem right_length {n:Nat}:∀ {l m:List Qp} {i:Nat},right n l i=some m→m.length=l.length:=by
 induction n with
 | zero=>
   intro l m i h
   obtain rfl:=Option.some.inj h
   rfl
 | succ n ih=>
   intro l m i h
   obtain ⟨x,h1,h2⟩:=Option.bind_eq_some_iff.1 h
   rw [ih h2,swap_length h1]
theorem left_length {n:Nat}:∀ {l m:List Qp} {i:Nat},left n l i=some m→m.length=l.length:=by
 induction n with
 | zero=>
   intro l m i h
   obtain rfl:=Option.some.inj h
   rfl
 | succ n ih=>
   intro l m i h
   obtain ⟨x,h1,h2⟩:=Option.bind_eq_some_iff.1 h
   rw [ih h2,swap_length h1]
theorem move_length {l m:List Qp} {i k:Nat} (h:move l i k=some m):m.length=l.length:=by
 unfold move at h
 split at h
 ·split at h
  ·exact right_length h
  ·exact left_length h
 ·cases h
theorem move_self {l:List Qp} {i:Nat} (h:i < l.length):move l i i=some l:=by
 unfold move
 rw [if_pos ⟨h,h⟩,if_pos (Nat.le_refl _),Nat.sub_self]
 rfl
theorem move_next {l:List Qp} {i:Nat} (h:i+1 < l.length):move l i (i+1)=swap l i:=by
 unfold move
 rw [if_pos ⟨by omega,h⟩,if_pos (by omega),show i+1 - i=1 by omega]
 show (swap l i).bind (fun m=>some m)=_
 cases swap l i <;> rfl
theorem without_head (p:Qp) (l:List Qp):without (p :: l) p=some l:=by
 unfold without
 show withoutFrom (p :: l) p (l.length+1) 0=_
 unfold withoutFrom
 rw [move_self (by simp)]
 simp [Qp.same_iff.2]
theorem same_refl (l:List Qp):same l l=true:=by
 induction l with
 | nil=>rfl
 | cons p l ih=>
   unfold same
   rw [without_head]
   exact ih
theorem same_append (p:List Qp) (a b:List Qp):same (p ++ a) (p ++ b)=same a b:=by
 induction p with
 | nil=>rfl
 | cons q p ih=>
   show (match without (q :: (p ++ a)) q with | some r=>same r (p ++ b) | none=>false)=same a b
   rw [without_head]
   exact ih
theorem same_two {a b c d:Qp} (h:a.commute b=(c,d,true)) (s:List Qp):same (a :: b :: s) (c :: d :: s)=true:=by
 have hne:a.same c=false:=by
  cases e:a.same c
  ·rfl
  ·rw [← Qp.same_iff.1 e] at h
   exact (commute_ne h).elim
 have hs:swap (a :: b :: s) 0=some (c :: d :: s):=by
  have:=swap_at [] a b s
  rw [h] at this
  simpa using this
 unfold same
 have hw:without (a :: b :: s) c=some (d :: s):=by
  unfold without
  show withoutFrom (a :: b :: s) c (s.length+1+1) 0=_
  unfold withoutFrom
  rw [move_self (by simp)]
  simp only [List.getD_cons_zero,hne,Bool.false_eq_true,if_false]
  unfold withoutFrom
  have hm:move (a :: b :: s) 1 0=some (c :: d :: s):=by
   unfold move
   rw [if_pos ⟨by simp,by simp⟩,if_neg (by omega)]
   show (swap (a :: b :: s) 0).bind (fun m=>some m)=_
   rw [hs]
   rfl
  rw [hm]
  simp [Qp.same_iff.2]
 rw [hw]
 exact same_refl _
theorem swapped {l m:List Qp} {i:Nat} (hi:i+1 < l.length) (h:move l i (i+1)=some m):same l m=true∧same m l=true:=by
 rw [move_next hi] at h
 obtain ⟨p,a,b,s,rfl,rfl⟩:=parts hi
 rw [swap_at] at h
 split at h
 ·rename_i hk
  obtain rfl:=Option.some.inj h
  have e:a.commute b=((a.commute b).1,(a.commute b).2.1,true):=by rw [← hk]
  rw [same_append,same_append]
  exact ⟨same_two e s,same_two (commute_back e).1 s⟩
 ·cases h
end Sq
end Go.Proofs.YtfmgnaigcibcaaaGreatDoor
namespace Go.Proofs.YtfmgnaigcibcaaaGreatDoor
open Go.RowKit Pa
namespace Sq
def cancelAt (l:List Qp) (i k:Nat):Option (List Qp):=
 if (l.getD i Qp.zero).check=0 then match move l k (i+1) with
  | some m=>if (m.getD (i+1) Qp.zero).same (l.getD i Qp.zero).inv then some (m.take i ++ m.drop (i+2)) else none
  | none=>none
 else none
def cancelRow (l:List Qp) (d:Nat):Option (List Qp):=(List.range (l.length - d)).findSome? fun i=>cancelAt l i (i+d)
def cancelOne (l:List Qp):Option (List Qp):=(List.range' 1 (l.length - 1)).findSome? fun d=>cancelRow l d
def cancelN:Nat→List Qp→List Qp
 | 0,l=>l
 | n+1,l=>match cancelOne l with
   | some m=>cancelN n m
   | none=>l
def cancel (l:List Qp):List Qp:=cancelN l.length l
def invert (l:List Qp):List Qp:=(l.map Qp.inv).reverse
instance:DecidableEq Qp:=fun a b=>if h:a.same b=true then .isTrue (Qp.same_iff.1 h) else .isFalse (fun e=>h (Qp.same_iff.2 e))
def push (x:Qp):List Qp→List Qp
 | []=>[x]
 | y :: s=>if y=x.inv then s else x :: y :: s
def nf (l:List Qp):List Qp:=l.foldr push []
def Ok (l:List Qp):Prop:=∀ x∈l,x.check=0
def Red:List Qp→Prop
 | []=>True
 | [_]=>True
 | x :: y :: s=>y≠x.inv∧Red (y :: s)
theorem Red.tail {x:Qp} {s:List Qp} (h:Red (x :: s)):Red s:=by
 cases s with
 | nil=>trivial
 | cons y s=>exact h.2
theorem push_red {x:Qp} {s:List Qp} (h:Red s):Red (push x s):=by
 cases s with
 | nil=>trivial
 | cons y s=>
   show Red (if y=x.inv then s else x :: y :: s)
   split
   ·exact h.tail
   ·rename_i hne
    exact ⟨hne,h⟩
theorem nf_red (l:List Qp):Red (nf l):=by
 induction l with
 | nil=>trivial
 | cons x l ih=>exact push_red ih
theorem push_push {x:Qp} (hx:x.check=0) {s:List Qp} (h:Red s):push x (push x.inv s)=s:=by
 cases s with
 | nil=>simp [push]
 | cons y s=>
   show push x (if y=x.inv.inv then s else x.inv :: y :: s)=_
   rw [inv_inv hx]
   split
   ·rename_i e
    subst e
    cases s with
    | nil=>rfl
    | cons z s=>
      show (if z=y.inv then s else y :: z :: s)=_
      rw [if_neg h.1]
   ·show (if x.inv=x.inv then y :: s else x :: x.inv :: y :: s)=_
    rw [if_pos rfl]
theorem nf_pair {x:Qp} (hx:x.check=0) (p s:List Qp):nf (p ++ x :: x.inv :: s)=nf (p ++ s):=by
 induction p with
 | nil=>exact push_push hx (nf_red s)
 | cons q p ih=>exact congrArg (push q) ih
theorem nf_invert (l:List Qp):Ok l→∀ t,nf (l ++ (invert l ++ t))=nf t:=by
 induction l with
 | nil=>intro _ t;rfl
 | cons x l ih=>
   intro h t
   have e:x :: l ++ (invert (x :: l) ++ t)=x :: (l ++ (invert l ++ (x.inv :: t))):=by simp [invert]
   rw [e]
   show push x (nf (l ++ (invert l ++ (x.inv :: t))))=_
   rw [ih (fun y hy=>h y (List.mem_cons_of_mem _ hy))]
   exact push_push (h x (List.mem_cons_self ..)) (nf_red t)
theorem nf_of_red:∀ {l:List Qp},Red l→nf l=l
 | [],_=>rfl
 | [x],_=>rfl
 | x :: y :: s,h=>by
   show push x (nf (y :: s))=_
   rw [nf_of_red h.2]
   show (if y=x.inv then s else x :: y :: s)=_
   rw [if_neg h.1]
theorem pair_of_not_red:∀ {l:List Qp},¬ Red l→∃ p x s,l=p ++ x :: x.inv :: s
 | [],h=>(h trivial).elim
 | [x],h=>(h trivial).elim
 | x :: y :: s,h=>by
   by_cases e:y=x.inv
   ·exact ⟨[],x,s,by rw [e];rfl⟩
   ·obtain ⟨p,z,t,he⟩:=pair_of_not_red (l:=y :: s) (fun k=>h ⟨e,k⟩)
    exact ⟨x :: p,z,t,by rw [he];rfl⟩
theorem cancelAt_next {l:List Qp} (h:Ok l) {i:Nat} (hi:i+1 < l.length):cancelAt l i (i+1)=if (l.getD (i+1) Qp.zero).same (l.getD i Qp.zero).inv then some (l.take i ++ l.drop (i+2)) else none:=by
 have hc:(l.getD i Qp.zero).check=0:=by
  rw [List.getD_eq_getElem?_getD,List.getElem?_eq_getElem (by omega)]
  exact h _ (List.getElem_mem _)
 unfold cancelAt
 rw [if_pos hc,move_self hi]
theorem cancelOne_ok {l:List Qp} (h:Ok l) (hn:nf l=[]) (hl:l≠[]):∃ m,cancelOne l=some m∧nf m=[]∧Ok m∧m.length < l.length:=by
 have hr:¬ Red l:=fun k=>hl ((nf_of_red k).symm.trans hn)
 obtain ⟨p,x,s,he⟩:=pair_of_not_red hr
 have hlen:l.length=p.length+(s.length+2):=by rw [he];simp
 have h1:cancelRow l 1≠none:=by
  unfold cancelRow
  rw [ne_eq,List.findSome?_eq_none_iff]
  intro hall
  have:=hall p.length (List.mem_range.2 (by omega))
  rw [cancelAt_next h (by omega)] at this
  have e1:l.getD p.length Qp.zero=x:=by rw [he];simp [List.getD]
  have e2:l.getD (p.length+1) Qp.zero=x.inv:=by rw [he];simp [List.getD,List.getElem?_append_right]
  rw [e1,e2,if_pos (Qp.same_iff.2 rfl)] at this
  cases this
 obtain ⟨m,hm⟩:=Option.ne_none_iff_exists'.1 h1
 refine ⟨m,?_,?_⟩
 ·unfold cancelOne
  rw [show l.length - 1=(p.length+s.length)+1 by omega,List.range'_succ,List.findSome?_cons,hm]
 ·unfold cancelRow at hm
  obtain ⟨i,hi,hc⟩:=List.exists_of_findSome?_eq_some hm
  have hi':=List.mem_range.1 hi
  rw [cancelAt_next h (by omega)] at hc
  split at hc
  rotate_left
  ·cases hc
  rename_i hs
  obtain rfl:=Option.some.inj hc
  obtain ⟨q,a,b,t,rfl,rfl⟩:=parts (l:=l) (i:=i) (by omega)
  have e1:(q ++ a :: b :: t).getD q.length Qp.zero=a:=by simp [List.getD]
  have e2:(q ++ a :: b :: t).getD (q.length+1) Qp.zero=b:=by simp [List.getD,List.getElem?_append_right]
  rw [e1,e2] at hs
  obtain rfl:=Qp.same_iff.1 hs
  have e3:(q ++ a :: a.inv :: t).take q.length ++ (q ++ a :: a.inv :: t).drop (q.length+2)=q ++ t:=by simp [List.drop_append]
  rw [e3]
  refine ⟨?_,fun y hy=>h y ?_,by simp;omega⟩
  ·rw [← nf_pair (h a (by simp)) q t]
   exact hn
  ·rcases List.mem_append.1 hy with k | k
   ·exact List.mem_append_left _ k
   ·exact List.mem_append_right _ (by simp [k])
theorem cancelN_nothing:∀ (n:Nat) (l:List Qp),l.length≤n→Ok l→nf l=[]→cancelN n l=[]
 | 0,l,hl,_,_=>show l=[] from List.length_eq_zero_iff.1 (Nat.le_zero.1 hl)
 | n+1,l,hl,ho,hn=>by
   unfold cancelN
   by_cases e:l=[]
   ·subst e
    rfl
   ·obtain ⟨m,h1,h2,h3,h4⟩:=cancelOne_ok ho hn e
    rw [h1]
    exact cancelN_nothing n m (by omega) h3 h2
theorem nothing {l:List Qp} (h:Ok l):cancel (l ++ invert l)=[]:=by
 refine cancelN_nothing _ _ (Nat.le_refl _) (fun x hx=>?_) ?_
 ·rcases List.mem_append.1 hx with k | k
  ·exact h x k
  ·simp only [invert,List.mem_reverse,List.mem_map] at k
   obtain ⟨y,hy,rfl⟩:=k
   exact inv_check (h y hy)
 ·have:=nf_invert l h []
  rw [List.append_nil] at this
  exact this
end Sq
end Go.Proofs.YtfmgnaigcibcaaaGreatDoor
namespace Go.Proofs.YtfmgnaigcibcaaaGreatDoor
open Go.RowKit Pa
namespace Sq
def carried:Qp→List Qp→Except Nat (Qp × List Qp)
 | x,[]=>.ok (x,[])
 | x,y :: b=>if (x.merge y).2.2 then (match carried (x.merge y).2.1 b with
    | .ok r=>.ok (r.1,(x.merge y).1 :: r.2)
    | .error k=>.error (k+1)) else .error 0
def merge:List Qp→List Qp→Except (Nat × Nat) (List Qp × List Qp)
 | [],b=>.ok (b,[])
 | x :: a,b=>match carried x b with
   | .error k=>.error (0,k)
   | .ok r=>match merge a r.2 with
     | .ok t=>.ok (t.1,r.1 :: t.2)
     | .error e=>.error (e.1+1,e.2)
theorem merge_cons (x:Qp) (a b:List Qp):merge (x :: a) b=match carried x b with
 | .error k=>.error (0,k)
 | .ok r=>match merge a r.2 with
   | .ok t=>.ok (t.1,r.1 :: t.2)
   | .error e=>.error (e.1+1,e.2):=rfl
theorem carried_length {x:Qp} {b:List Qp} {r:Qp × List Qp}:carried x b=.ok r→r.2.length=b.length:=by
 induction b generalizing x r with
 | nil=>
   intro h
   obtain rfl:=Except.ok.inj h
   rfl
 | cons y b ih=>
   intro h
   unfold carried at h
   split at h
   ·split at h
    ·rename_i t ht
     obtain rfl:=Except.ok.inj h
     simp [ih ht]
    ·cases h
   ·cases h
theorem merge_length {a b:List Qp} {r:List Qp × List Qp}:merge a b=.ok r→r.1.length=b.length∧r.2.length=a.length:=by
 induction a generalizing b r with
 | nil=>
   intro h
   obtain rfl:=Except.ok.inj h
   exact ⟨rfl,rfl⟩
 | cons x a ih=>
   intro h
   unfold merge at h
   split at h
   ·cases h
   ·rename_i t ht
    split at h
    ·rename_i u hu
     obtain rfl:=Except.ok.inj h
     obtain ⟨h1,h2⟩:=ih hu
     exact ⟨h1.trans (carried_length ht),by simp [h2]⟩
    ·cases h
end Sq
end Go.Proofs.YtfmgnaigcibcaaaGreatDoor
namespace Go.Proofs.YtfmgnaigcibcaaaGreatDoor
open Go.RowKit
namespace Sq
theorem right_add (b:Nat):∀ (a:Nat) (l:List Qp) (i:Nat),right (a+b) l i=(right a l i).bind fun m=>right b m (i+a)
 | 0,l,i=>by
   rw [Nat.zero_add]
   rfl
 | a+1,l,i=>by
   rw [show a+1+b=(a+b)+1 by omega]
   show (swap l i).bind (fun m=>right (a+b) m (i+1))=((swap l i).bind fun m=>right a m (i+1)).bind _
   rw [Option.bind_assoc]
   congr 1
   funext m
   rw [right_add b a m (i+1),show i+1+a=i+(a+1) by omega]
theorem left_add (b:Nat):∀ (a:Nat) (l:List Qp) (i:Nat),left (a+b) l i=(left a l i).bind fun m=>left b m (i - a)
 | 0,l,i=>by
   rw [Nat.zero_add]
   rfl
 | a+1,l,i=>by
   rw [show a+1+b=(a+b)+1 by omega]
   show (swap l (i - 1)).bind (fun m=>left (a+b) m (i - 1))=((swap l (i - 1)).bind fun m=>left a m (i - 1)).bind _
   rw [Option.bind_assoc]
   congr 1
   funext m
   rw [left_add b a m (i - 1),show i - 1 - a=i - (a+1) by omega]
theorem right_step {l m:List Qp} {i j:Nat} (hj:i≤j) (h:right (j - i) l i=some m):right (j+1 - i) l i=swap m j:=by
 rw [show j+1 - i=(j - i)+1 by omega,right_add,h,show i+(j - i)=j by omega]
 show (swap m j).bind (fun m=>some m)=_
 cases swap m j <;> rfl
theorem right_dies {l m:List Qp} {i j k:Nat} (hj:i≤j) (hk:j < k) (h:right (j - i) l i=some m) (hs:swap m j=none):right (k - i) l i=none:=by
 rw [show k - i=(j+1 - i)+(k - j - 1) by omega,right_add,right_step hj h,hs]
 rfl
theorem left_step {l m:List Qp} {i j:Nat} (hj:j+1≤i) (h:left (i - (j+1)) l i=some m):left (i - j) l i=swap m j:=by
 rw [show i - j=(i - (j+1))+1 by omega,left_add,h,show i - (i - (j+1))=j+1 by omega]
 show (swap m (j+1 - 1)).bind (fun m=>some m)=_
 rw [Nat.add_sub_cancel]
 cases swap m j <;> rfl
theorem left_dies {l m:List Qp} {i j k:Nat} (hj:j+1≤i) (hk:k≤j) (h:left (i - (j+1)) l i=some m) (hs:swap m j=none):left (i - k) l i=none:=by
 rw [show i - k=(i - j)+(j - k) by omega,left_add,left_step hj h,hs]
 rfl
theorem swap_fits {l m:List Qp} {i:Nat} (hi:i+1 < l.length) (h:swap l i=some m) (hf:∀ q∈l,q.Fits):∀ q∈m,q.Fits:=by
 obtain ⟨p,a,b,s,rfl,rfl⟩:=parts hi
 rw [swap_at] at h
 split at h
 ·rename_i hk
  obtain rfl:=Option.some.inj h
  have e:a.commute b=((a.commute b).1,(a.commute b).2.1,true):=by rw [← hk]
  have hc:=(commute_back e).2
  intro q hq
  rcases List.mem_append.1 hq with m | m
  ·exact hf q (List.mem_append_left _ m)
  ·rcases List.mem_cons.1 m with rfl | m
   ·exact check_fits hc.1
   ·rcases List.mem_cons.1 m with rfl | m
    ·exact check_fits hc.2
    ·exact hf q (List.mem_append_right _ (List.mem_cons_of_mem _ (List.mem_cons_of_mem _ m)))
 ·cases h
end Sq
end Go.Proofs.YtfmgnaigcibcaaaGreatDoor
namespace Go.Proofs.YtfmgnaigcibcaaaGreatDoor
open Go.RowKit
theorem merge_fits {x y:Qp} (h:(x.merge y).2.2=true):(x.merge y).1.Fits∧(x.merge y).2.1.Fits:=by
 unfold Qp.merge at h ⊢
 split at h
 ·cases h
 ·rename_i h0
  rw [if_neg h0]
  split at h
  ·rename_i hk
   rw [if_pos hk]
   have e:x.inv.commute y=((x.inv.commute y).1,(x.inv.commute y).2.1,true):=by rw [← hk]
   have hc:=(commute_back e).2
   exact ⟨check_fits hc.1,check_fits (inv_check hc.2)⟩
  ·cases h
theorem carried_fits {l:List Qp}:∀ {x:Qp} {r:Qp × List Qp},Sq.carried x l=.ok r→x.Fits→r.1.Fits∧∀ q∈r.2,q.Fits:=by
 induction l with
 | nil=>
   intro x r h fx
   obtain rfl:=Except.ok.inj h
   exact ⟨fx,fun q hq=>by cases hq⟩
 | cons y l ih=>
   intro x r h fx
   unfold Sq.carried at h
   split at h
   ·rename_i hm
    split at h
    ·rename_i t ht
     obtain rfl:=Except.ok.inj h
     obtain ⟨h1,h2⟩:=ih ht (merge_fits hm).2
     refine ⟨h1,fun q hq=>?_⟩
     rcases List.mem_cons.1 hq with rfl | hq
     ·exact (merge_fits hm).1
     ·exact h2 q hq
    ·cases h
   ·cases h
def Mer (a b:List Qp) (k:Nat) (bk outs:List Qp):Prop:=
 outs.length=k∧bk.length=b.length∧(∀ q∈bk,q.Fits)∧(∀ q∈outs,q.Fits)∧Sq.merge a b=match Sq.merge (a.drop k) bk with
  | .ok t=>.ok (t.1,outs ++ t.2)
  | .error e=>.error (e.1+k,e.2)
theorem Mer.start (a:List Qp) {b:List Qp} (hf:∀ q∈b,q.Fits):Mer a b 0 b []:=by
 refine ⟨rfl,rfl,hf,(fun q hq=>by cases hq),?_⟩
 rw [List.drop_zero]
 cases Sq.merge a b <;> rfl
theorem Mer.step {a b bk outs:List Qp} {k:Nat} {x:Qp} {r:Qp × List Qp} (h:Mer a b k bk outs) (hx:a[k]?=some x) (fx:x.Fits) (hc:Sq.carried x bk=.ok r):Mer a b (k+1) r.2 (outs ++ [r.1]):=by
 obtain ⟨h1,h2,h3,h4,h5⟩:=h
 obtain ⟨f1,f2⟩:=carried_fits hc fx
 refine ⟨by simp [h1],(Sq.carried_length hc).trans h2,f2,fun q hq=>?_,?_⟩
 ·rcases List.mem_append.1 hq with m | m
  ·exact h4 q m
  ·obtain rfl:q=r.1:=by simpa using m
   exact f1
 ·obtain ⟨hlt,e⟩:=List.getElem?_eq_some_iff.1 hx
  rw [h5,List.drop_eq_getElem_cons hlt,e,Sq.merge_cons,hc]
  dsimp only
  cases Sq.merge (a.drop (k+1)) r.2 with
  | ok t=>simp
  | error e=>simp;omega
theorem Mer.dies {a b bk outs:List Qp} {k j:Nat} {x:Qp} (h:Mer a b k bk outs) (hx:a[k]?=some x) (hc:Sq.carried x bk=.error j):Sq.merge a b=.error (k,j):=by
 obtain ⟨h1,h2,h3,h4,h5⟩:=h
 obtain ⟨hlt,e⟩:=List.getElem?_eq_some_iff.1 hx
 rw [h5,List.drop_eq_getElem_cons hlt,e,Sq.merge_cons,hc]
 simp
theorem Mer.ends {a b bk outs:List Qp} {k:Nat} (h:Mer a b k bk outs) (hk:a.length≤k):Sq.merge a b=.ok (bk,outs):=by
 obtain ⟨h1,h2,h3,h4,h5⟩:=h
 rw [h5,List.drop_of_length_le hk]
 simp [Sq.merge]
end Go.Proofs.YtfmgnaigcibcaaaGreatDoor
namespace Go.Proofs.YtfmgnaigcibcaaaGreatDoor
open Go Go.RowKit Go.Shelf
attribute [local go_sem] Oper.semAt_some
namespace Sq
def prow (n d:Nat):List (Nat × Nat):=(List.range (n - d)).map fun i=>(i,i+d)
def prows (n d:Nat):List (Nat × Nat):=(List.range' d (n - d)).flatMap (prow n)
def pairs (n:Nat):List (Nat × Nat):=prows n 1
theorem prows_step {n d:Nat} (h:d < n):prows n d=prow n d ++ prows n (d+1):=by
 unfold prows
 rw [show n - d=(n - (d+1))+1 by omega,List.range'_succ,List.flatMap_cons]
theorem prows_end {n d:Nat} (h:n≤d):prows n d=[]:=by
 unfold prows
 rw [show n - d=0 by omega]
 rfl
theorem prow_step {n d i:Nat} (h:i+d < n):(prow n d).drop i=(i,i+d) :: (prow n d).drop (i+1):=by
 have hl:i < (prow n d).length:=by simp [prow];omega
 rw [List.drop_eq_getElem_cons hl]
 simp [prow]
theorem prow_end {n d i:Nat} (h:n≤i+d):(prow n d).drop i=[]:=by
 rw [List.drop_eq_nil_iff]
 simp [prow]
 omega
theorem drop_step {α:Type} {l r:List α} {x:α} {k:Nat} (h:l.drop k=x :: r):l[k]?=some x∧l.drop (k+1)=r∧k < l.length:=by
 have hk:k < l.length:=by
  have:=congrArg List.length h
  simp at this
  omega
 rw [List.drop_eq_getElem_cons hk] at h
 obtain ⟨h1,h2⟩:=List.cons.inj h
 exact ⟨by rw [List.getElem?_eq_getElem hk,h1],h2,hk⟩
end Sq
set_option maxHeartbeats 400000 in
theorem pairs_same (n:Int) (w:World):
 Calls Tryz.prog 88 #[.int .i64 n] w fun e w'=>e=.returned (.func (.func 112) #[] #[.pointer (some ⟨w.heap.size,0,none⟩)])∧w.alloc (.cells #[.int .i64 n] 3)=w':=by
 go_enter Tryz.func88,Tryz.ntmps88
 go_wp2
 go_ret
 simp
set_option maxHeartbeats 8000000 in
set_option maxRecDepth 100000 in
theorem pairs1_gives (n0:Nat) (hn0:3≤n0) (z n:Nat) (hn:n≤1000000000000) (I:Nat→World→Prop) (X:World→Prop) (hbox:∀ k W,I k W→Blk W z 3 #[.int .i64 n]):
 Rounds Tryz.prog n0 112 #[.pointer (some ⟨z,0,none⟩)] (fun x:Nat × Nat=>#[.int .i64 x.1,.int .i64 x.2]) I (fun k x W=>I k W∧(Sq.pairs n)[k]?=some x) (fun k x W=>I (k+1) W) X (Sq.pairs n).length:=by
 intro l T Tx W hT hTx hY h0 hT0
 have HY:=Lib.hid hY
 have HB:=Lib.hid hbox
 have H0:=Lib.hid h0
 have HT0:=Lib.hid hT0
 clear hY hT hTx h0 hT0 hbox
 refine callsIn_of_wp Tryz.func112 rfl trivial ?_ rfl
 simp only [Tryz.ntmps112,List.size_toArray,List.length_cons,List.length_nil,Nat.reduceAdd,Nat.reduceSub,Array.replicate_succ,Array.replicate_zero,List.push_toArray,List.append_toArray,List.nil_append,List.cons_append]
 gi_wp2
 gi_loopw [3] (fun u3 wr=>∃ d k:Nat,1≤d∧(d≤n∨d=1)∧u3=.int .i64 d∧k≤(Sq.pairs n).length∧Hid ((Sq.pairs n).drop k=Sq.prows n d)∧Hid (I k wr)∧Hid (T wr)) (fun u3 wr=>n - (intOf u3).toNat)
 case atStart=>exact ⟨1,0,Nat.le_refl _,.inr rfl,rfl,Nat.zero_le _,Lib.hid rfl,H0,HT0⟩
 case round=>
  clear H0 HT0
  obtain ⟨d,k,hd,hdn,rfl,hk,HD,HI,HT⟩:=hrel
  have hb:=HB.out k wr HI.out
  have hcb:=hb.cell
  have hlb:=hb.lt
  clear hb
  by_cases hlt:d < n
  ·have HD2:Hid ((Sq.pairs n).drop k=(Sq.prow n d).drop 0 ++ Sq.prows n (d+1)):=Lib.hid (by rw [HD.out,Sq.prows_step hlt,List.drop_zero])
   clear HD
   gi_wp2_with fail
   clear hcb hlb
   gi_loopw [4] (fun u4 wr=>∃ i k:Nat,i+d≤n∧u4=.int .i64 i∧k≤(Sq.pairs n).length∧Hid ((Sq.pairs n).drop k=(Sq.prow n d).drop i ++ Sq.prows n (d+1))∧Hid (I k wr)∧Hid (T wr)) (fun u4 wr=>n - (intOf u4).toNat)
   case atStart=>exact ⟨0,k,by omega,rfl,hk,HD2,HI,HT⟩
   case round=>
    clear HD2 HI HT hk
    obtain ⟨i,k,hi,rfl,hk,HD,HI,HT⟩:=hrel
    have hb:=HB.out k wr HI.out
    have hcb:=hb.cell
    have hlb:=hb.lt
    clear hb
    by_cases hlt2:i+d < n
    ·obtain ⟨g1,g2,g3⟩:=Sq.drop_step (HD.out.trans (by rw [Sq.prow_step hlt2];rfl))
     obtain ⟨fn,tmps,assign,body,hy,hR⟩:=HY.out k _ _ ⟨HI.out,g1⟩ HT.out
     have HR:=Lib.hid hR
     have HG:=Lib.hid g2
     clear hR g1 g2 HD HI HT
     simp only [Int.natCast_add] at hy HR
     gi_wp2
     refine ⟨fun _=>(by omega),HR.out.mono ?_⟩
     rintro e W4 (⟨rfl,hJ,hT4⟩ | ⟨rfl,hX4,hTx4⟩)
     ·have HJ:=Lib.hid hJ
      have HT4:=Lib.hid hT4
      clear hJ hT4 HR hcb hlb
      gi_wp2
      go_roundw
      case rel=>exact ⟨i+1,k+1,by omega,rfl,by omega,HG,HJ,HT4⟩
      case measure=>simp [intOf];omega
     ·have HE:=Lib.hid (⟨hX4,hTx4⟩:_∧_)
      clear hX4 hTx4 HR hcb hlb
      gi_wp2
      refine bodyPost_ret (results_none rfl _ _ _) rfl ?_
      exact ⟨⟨_,rfl⟩,.inr HE.out⟩
    ·have HD2:Hid ((Sq.pairs n).drop k=Sq.prows n (d+1)):=Lib.hid (by rw [HD.out,Sq.prow_end (by omega)];rfl)
     clear HD
     gi_wp2_with fail
     go_roundw
     case rel=>exact ⟨d+1,k,by omega,.inl (by omega),rfl,hk,HD2,HI,HT⟩
     case measure=>simp [intOf];omega
  ·have hkn:k=(Sq.pairs n).length:=by
    have:=HD.out
    rw [Sq.prows_end (by omega),List.drop_eq_nil_iff] at this
    omega
   subst hkn
   clear HD
   gi_wp2
   go_end0
   exact ⟨⟨_,rfl⟩,.inl ⟨HI.out,HT.out⟩⟩
end Go.Proofs.YtfmgnaigcibcaaaGreatDoor
