import Derived.Test.YtlbhaimfjfdppaaGreatDoorOp
import Derived.Test.YtlbhaimfjfdppaaGreatDoorAp
set_option linter.unusedSimpArgs false
set_option linter.unusedVariables false
namespace Go.Proofs.YtlbhaimfjfdppaaGreatDoor
open Go.RowKit
attribute [local go_sem ↓] Go.wp_at_zero Go.wp_at_succ
def Qp.merge (a b:Qp):Qp × Qp × Bool:=
 if a.check≠0 then (Qp.zero,Qp.zero,false) else if (a.inv.commute b).2.2 then ((a.inv.commute b).1,(a.inv.commute b).2.1.inv,true) else (Qp.zero,Qp.zero,false)
def Mid (F:Nat→Prop) (w:World) (c d:Qp) (wx:World) (g7 g8:Nat):Prop:=
 ∃ P1 P2:Pv,Blk wx g7 42 (parr P1)∧Blk wx g8 42 (parr P2)∧g7≠g8∧w.heap.size+4≤g7∧w.heap.size+4≤g8 ∧
  Hid (Is wx (fun b=>(F b∧b < w.heap.size)∨(w.heap.size+4≤b∧b≠g7∧b≠g8)) P1 c)∧Hid (Is wx (fun b=>(F b∧b < w.heap.size)∨(w.heap.size+4≤b∧b≠g7∧b≠g8)) P2 d)
section
variable {P:Program} {ops:Array Oper} {Q:Exit→Act→World→Prop} {md:Region.Mode} {S:World→Prop}
end
end Go.Proofs.YtlbhaimfjfdppaaGreatDoor
namespace Go.Proofs.YtlbhaimfjfdppaaGreatDoor
open Go.RowKit Pa
namespace Sq
def swap (l:List Qp) (i:Nat):Option (List Qp):=
 if ((l.getD i Qp.zero).commute (l.getD (i+1) Qp.zero)).2.2 then
  some ((l.set i ((l.getD i Qp.zero).commute (l.getD (i+1) Qp.zero)).1).set (i+1) ((l.getD i Qp.zero).commute (l.getD (i+1) Qp.zero)).2.1)
 else none
def right:Nat→List Qp→Nat→Option (List Qp)
 | 0,l,_=>some l
 | n+1,l,i=>(swap l i).bind fun m=>right n m (i+1)
def left:Nat→List Qp→Nat→Option (List Qp)
 | 0,l,_=>some l
 | n+1,l,i=>(swap l (i - 1)).bind fun m=>left n m (i - 1)
def move (l:List Qp) (i k:Nat):Option (List Qp):=
 if i < l.length∧k < l.length then (if i≤k then right (k - i) l i else left (i - k) l i) else none
def withoutFrom (l:List Qp) (p:Qp):Nat→Nat→Option (List Qp)
 | 0,_=>none
 | n+1,i=>match move l i 0 with
   | some m=>if (m.getD 0 Qp.zero).same p then some m.tail else withoutFrom l p n (i+1)
   | none=>withoutFrom l p n (i+1)
def without (l:List Qp) (p:Qp):Option (List Qp):=withoutFrom l p l.length 0
def same:List Qp→List Qp→Bool
 | a,[]=>a.isEmpty
 | a,p :: b=>match without a p with
   | some r=>same r b
   | none=>false
theorem swap_at (p:List Qp) (a b:Qp) (s:List Qp):swap (p ++ a :: b :: s) p.length=if (a.commute b).2.2 then some (p ++ (a.commute b).1 :: (a.commute b).2.1 :: s) else none:=by
 have e1:(p ++ a :: b :: s).getD p.length Qp.zero=a:=by simp [List.getD]
 have e2:(p ++ a :: b :: s).getD (p.length+1) Qp.zero=b:=by simp [List.getD,List.getElem?_append_right]
 unfold swap
 rw [e1,e2]
 split
 ·congr 1
  rw [List.set_append_right _ _ (Nat.le_refl _),Nat.sub_self,List.set_cons_zero,List.set_append_right _ _ (by omega)]
  simp
 ·rfl
theorem parts {l:List Qp} {i:Nat} (h:i+1 < l.length):∃ p a b s,l=p ++ a :: b :: s∧p.length=i:=by
 refine ⟨l.take i,l[i],l[i+1],l.drop (i+2),?_,by simp;omega⟩
 rw [List.getElem_cons_drop,List.getElem_cons_drop,List.take_append_drop]
theorem swap_length {l m:List Qp} {i:Nat} (h:swap l i=some m):m.length=l.length:=by
 unfold swap at h
 split at h
 ·obtain rfl:=Option.some.inj h
  simp
 ·cases h
theorem right_length {n:Nat}:∀ {l m:List Qp} {i:Nat},right n l i=some m→m.length=l.length:=by
 induction n with
 | zero=>
   intro l m i h
   obtain rfl:=Option.some.inj h
   rfl
 | succ n ih=>
   intro l m i h
   obtain ⟨x,h1,h2⟩:=Option.bind_eq_some_iff.1 h
   rw [ih h2,swap_length h1]
theorem left_length {n:Nat}:∀ {l m:List Qp} {i:Nat},left n l i=some m→m.length=l.length:=by
 induction n with
 | zero=>
   intro l m i h
   obtain rfl:=Option.some.inj h
   rfl
 | succ n ih=>
   intro l m i h
   obtain ⟨x,h1,h2⟩:=Option.bind_eq_some_iff.1 h
   rw [ih h2,swap_length h1]
theorem move_length {l m:List Qp} {i k:Nat} (h:move l i k=some m):m.length=l.length:=by
 unfold move at h
 split at h
 ·split at h
  ·exact right_length h
  ·exact left_length h
 ·cases h
theorem move_self {l:List Qp} {i:Nat} (h:i < l.length):move l i i=some l:=by
 unfold move
 rw [if_pos ⟨h,h⟩,if_pos (Nat.le_refl _),Nat.sub_self]
 rfl
end Sq
end Go.Proofs.YtlbhaimfjfdppaaGreatDoor
namespace Go.Proofs.YtlbhaimfjfdppaaGreatDoor
open Go.RowKit Pa
namespace Sq
def cancelAt (l:List Qp) (i k:Nat):Option (List Qp):=
 if (l.getD i Qp.zero).check=0 then match move l k (i+1) with
  | some m=>if (m.getD (i+1) Qp.zero).same (l.getD i Qp.zero).inv then some (m.take i ++ m.drop (i+2)) else none
  | none=>none
 else none
def cancelRow (l:List Qp) (d:Nat):Option (List Qp):=(List.range (l.length - d)).findSome? fun i=>cancelAt l i (i+d)
def cancelOne (l:List Qp):Option (List Qp):=(List.range' 1 (l.length - 1)).findSome? fun d=>cancelRow l d
def cancelN:Nat→List Qp→List Qp
 | 0,l=>l
 | n+1,l=>match cancelOne l with
   | some m=>cancelN n m
   | none=>l
def cancel (l:List Qp):List Qp:=cancelN l.length l
def invert (l:List Qp):List Qp:=(l.map Qp.inv).reverse
instance:DecidableEq Qp:=fun a b=>if h:a.same b=true then .isTrue (Qp.same_iff.1 h) else .isFalse (fun e=>h (Qp.same_iff.2 e))
def push (x:Qp):List Qp→List Qp
 | []=>[x]
 | y :: s=>if y=x.inv then s else x :: y :: s
def nf (l:List Qp):List Qp:=l.foldr push []
def Ok (l:List Qp):Prop:=∀ x∈l,x.check=0
def Red:List Qp→Prop
 | []=>True
 | [_]=>True
 | x :: y :: s=>y≠x.inv∧Red (y :: s)
theorem Red.tail {x:Qp} {s:List Qp} (h:Red (x :: s)):Red s:=by
 cases s with
 | nil=>trivial
 | cons y s=>exact h.2
theorem push_red {x:Qp} {s:List Qp} (h:Red s):Red (push x s):=by
 cases s with
 | nil=>trivial
 | cons y s=>
   show Red (if y=x.inv then s else x :: y :: s)
   split
   ·exact h.tail
   ·rename_i hne
    exact ⟨hne,h⟩
theorem nf_red (l:List Qp):Red (nf l):=by
 induction l with
 | nil=>trivial
 | cons x l ih=>exact push_red ih
theorem push_push {x:Qp} (hx:x.check=0) {s:List Qp} (h:Red s):push x (push x.inv s)=s:=by
 cases s with
 | nil=>simp [push]
 | cons y s=>
   show push x (if y=x.inv.inv then s else x.inv :: y :: s)=_
   rw [inv_inv hx]
   split
   ·rename_i e
    subst e
    cases s with
    | nil=>rfl
    | cons z s=>
      show (if z=y.inv then s else y :: z :: s)=_
      rw [if_neg h.1]
   ·show (if x.inv=x.inv then y :: s else x :: x.inv :: y :: s)=_
    rw [if_pos rfl]
theorem nf_pair {x:Qp} (hx:x.check=0) (p s:List Qp):nf (p ++ x :: x.inv :: s)=nf (p ++ s):=by
 induction p with
 | nil=>exact push_push hx (nf_red s)
 | cons q p ih=>exact congrArg (push q) ih
theorem nf_invert (l:List Qp):Ok l→∀ t,nf (l ++ (invert l ++ t))=nf t:=by
 induction l with
 | nil=>intro _ t;rfl
 | cons x l ih=>
   intro h t
   have e:x :: l ++ (invert (x :: l) ++ t)=x :: (l ++ (invert l ++ (x.inv :: t))):=by simp [invert]
   rw [e]
   show push x (nf (l ++ (invert l ++ (x.inv :: t))))=_
   rw [ih (fun y hy=>h y (List.mem_cons_of_mem _ hy))]
   exact push_push (h x (List.mem_cons_self ..)) (nf_red t)
theorem nf_of_red:∀ {l:List Qp},Red l→nf l=l
 | [],_=>rfl
 | [x],_=>rfl
 | x :: y :: s,h=>by
   show push x (nf (y :: s))=_
   rw [nf_of_red h.2]
   show (if y=x.inv then s else x :: y :: s)=_
   rw [if_neg h.1]
theorem pair_of_not_red:∀ {l:List Qp},¬ Red l→∃ p x s,l=p ++ x :: x.inv :: s
 | [],h=>(h trivial).elim
 | [x],h=>(h trivial).elim
 | x :: y :: s,h=>by
   by_cases e:y=x.inv
   ·exact ⟨[],x,s,by rw [e];rfl⟩
   ·obtain ⟨p,z,t,he⟩:=pair_of_not_red (l:=y :: s) (fun k=>h ⟨e,k⟩)
    exact ⟨x :: p,z,t,by rw [he];rfl⟩
theorem cancelAt_next {l:List Qp} (h:Ok l) {i:Nat} (hi:i+1 < l.length):cancelAt l i (i+1)=if (l.getD (i+1) Qp.zero).same (l.getD i Qp.zero).inv then some (l.take i ++ l.drop (i+2)) else none:=by
 have hc:(l.getD i Qp.zero).check=0:=by
  rw [List.getD_eq_getElem?_getD,List.getElem?_eq_getElem (by omega)]
  exact h _ (List.getElem_mem _)
 unfold cancelAt
 rw [if_pos hc,move_self hi]
theorem cancelOne_ok {l:List Qp} (h:Ok l) (hn:nf l=[]) (hl:l≠[]):∃ m,cancelOne l=some m∧nf m=[]∧Ok m∧m.length < l.length:=by
 have hr:¬ Red l:=fun k=>hl ((nf_of_red k).symm.trans hn)
 obtain ⟨p,x,s,he⟩:=pair_of_not_red hr
 have hlen:l.length=p.length+(s.length+2):=by rw [he];simp
 have h1:cancelRow l 1≠none:=by
  unfold cancelRow
  rw [ne_eq,List.findSome?_eq_none_iff]
  intro hall
  have:=hall p.length (List.mem_range.2 (by omega))
  rw [cancelAt_next h (by omega)] at this
  have e1:l.getD p.length Qp.zero=x:=by rw [he];simp [List.getD]
  have e2:l.getD (p.length+1) Qp.zero=x.inv:=by rw [he];simp [List.getD,List.getElem?_append_right]
  rw [e1,e2,if_pos (Qp.same_iff.2 rfl)] at this
  cases this
 obtain ⟨m,hm⟩:=Option.ne_none_iff_exists'.1 h1
 refine ⟨m,?_,?_⟩
 ·unfold cancelOne
  rw [show l.length - 1=(p.length+s.length)+1 by omega,List.range'_succ,List.findSome?_cons,hm]
 ·unfold cancelRow at hm
  obtain ⟨i,hi,hc⟩:=List.exists_of_findSome?_eq_some hm
  have hi':=List.mem_range.1 hi
  rw [cancelAt_next h (by omega)] at hc
  split at hc
  rotate_left
  ·cases hc
  rename_i hs
  obtain rfl:=Option.some.inj hc
  obtain ⟨q,a,b,t,rfl,rfl⟩:=parts (l:=l) (i:=i) (by omega)
  have e1:(q ++ a :: b :: t).getD q.length Qp.zero=a:=by simp [List.getD]
  have e2:(q ++ a :: b :: t).getD (q.length+1) Qp.zero=b:=by simp [List.getD,List.getElem?_append_right]
  rw [e1,e2] at hs
  obtain rfl:=Qp.same_iff.1 hs
  have e3:(q ++ a :: a.inv :: t).take q.length ++ (q ++ a :: a.inv :: t).drop (q.length+2)=q ++ t:=by simp [List.drop_append]
  rw [e3]
  refine ⟨?_,fun y hy=>h y ?_,by simp;omega⟩
  ·rw [← nf_pair (h a (by simp)) q t]
   exact hn
  ·rcases List.mem_append.1 hy with k | k
   ·exact List.mem_append_left _ k
   ·exact List.mem_append_right _ (by simp [k])
theorem cancelN_nothing:∀ (n:Nat) (l:List Qp),l.length≤n→Ok l→nf l=[]→cancelN n l=[]
 | 0,l,hl,_,_=>show l=[] from List.length_eq_zero_iff.1 (Nat.le_zero.1 hl)
 | n+1,l,hl,ho,hn=>by
   unfold cancelN
   by_cases e:l=[]
   ·subst e
    rfl
   ·obtain ⟨m,h1,h2,h3,h4⟩:=cancelOne_ok ho hn e
    rw [h1]
    exact cancelN_nothing n m (by omega) h3 h2
theorem nothing {l:List Qp} (h:Ok l):cancel (l ++ invert l)=[]:=by
 refine cancelN_nothing _ _ (Nat.le_refl _) (fun x hx=>?_) ?_
 ·rcases List.mem_append.1 hx with k | k
  ·exact h x k
  ·simp only [invert,List.mem_reverse,List.mem_map] at k
   obtain ⟨y,hy,rfl⟩:=k
   exact inv_check (h y hy)
 ·have:=nf_invert l h []
  rw [List.append_nil] at this
  exact this
end Sq
end Go.Proofs.YtlbhaimfjfdppaaGreatDoor
namespace Go.Proofs.YtlbhaimfjfdppaaGreatDoor
open Go.RowKit Pa
namespace Sq
def carried:Qp→List Qp→Except Nat (Qp × List Qp)
 | x,[]=>.ok (x,[])
 | x,y :: b=>if (x.merge y).2.2 then (match carried (x.merge y).2.1 b with
    | .ok r=>.ok (r.1,(x.merge y).1 :: r.2)
    | .error k=>.error (k+1)) else .error 0
def merge:List Qp→List Qp→Except (Nat × Nat) (List Qp × List Qp)
 | [],b=>.ok (b,[])
 | x :: a,b=>match carried x b with
   | .error k=>.error (0,k)
   | .ok r=>match merge a r.2 with
     | .ok t=>.ok (t.1,r.1 :: t.2)
     | .error e=>.error (e.1+1,e.2)
theorem merge_cons (x:Qp) (a b:List Qp):merge (x :: a) b=match carried x b with
 | .error k=>.error (0,k)
 | .ok r=>match merge a r.2 with
   | .ok t=>.ok (t.1,r.1 :: t.2)
   | .error e=>.error (e.1+1,e.2):=rfl
theorem carried_length {x:Qp} {b:List Qp} {r:Qp × List Qp}:carried x b=.ok r→r.2.length=b.length:=by
 induction b generalizing x r with
 | nil=>
   intro h
   obtain rfl:=Except.ok.inj h
   rfl
 | cons y b ih=>
   intro h
   unfold carried at h
   split at h
   ·split at h
    ·rename_i t ht
     obtain rfl:=Except.ok.inj h
     simp [ih ht]
    ·cases h
   ·cases h
theorem merge_length {a b:List Qp} {r:List Qp × List Qp}:merge a b=.ok r→r.1.length=b.length∧r.2.length=a.length:=by
 induction a generalizing b r with
 | nil=>
   intro h
   obtain rfl:=Except.ok.inj h
   exact ⟨rfl,rfl⟩
 | cons x a ih=>
   intro h
   unfold merge at h
   split at h
   ·cases h
   ·rename_i t ht
    split at h
    ·rename_i u hu
     obtain rfl:=Except.ok.inj h
     obtain ⟨h1,h2⟩:=ih hu
     exact ⟨h1.trans (carried_length ht),by simp [h2]⟩
    ·cases h
def withoutAll:List Qp→List Qp→Option (List Qp)
 | l,[]=>some l
 | l,p :: f=>(without l p).bind fun r=>withoutAll r f
def mediate (a b c d:List Qp):Option (List Qp):=match merge a b with
 | .error _=>none
 | .ok r=>(withoutAll c r.1).bind fun m=>if same d (r.2 ++ m) then some m else none
end Sq
end Go.Proofs.YtlbhaimfjfdppaaGreatDoor
namespace Go.Proofs.YtlbhaimfjfdppaaGreatDoor
open Go.RowKit
namespace Sq
theorem right_add (b:Nat):∀ (a:Nat) (l:List Qp) (i:Nat),right (a+b) l i=(right a l i).bind fun m=>right b m (i+a)
 | 0,l,i=>by
   rw [Nat.zero_add]
   rfl
 | a+1,l,i=>by
   rw [show a+1+b=(a+b)+1 by omega]
   show (swap l i).bind (fun m=>right (a+b) m (i+1))=((swap l i).bind fun m=>right a m (i+1)).bind _
   rw [Option.bind_assoc]
   congr 1
   funext m
   rw [right_add b a m (i+1),show i+1+a=i+(a+1) by omega]
theorem left_add (b:Nat):∀ (a:Nat) (l:List Qp) (i:Nat),left (a+b) l i=(left a l i).bind fun m=>left b m (i - a)
 | 0,l,i=>by
   rw [Nat.zero_add]
   rfl
 | a+1,l,i=>by
   rw [show a+1+b=(a+b)+1 by omega]
   show (swap l (i - 1)).bind (fun m=>left (a+b) m (i - 1))=((swap l (i - 1)).bind fun m=>left a m (i - 1)).bind _
   rw [Option.bind_assoc]
   congr 1
   funext m
   rw [left_add b a m (i - 1),show i - 1 - a=i - (a+1) by omega]
theorem right_step {l m:List Qp} {i j:Nat} (hj:i≤j) (h:right (j - i) l i=some m):right (j+1 - i) l i=swap m j:=by
 rw [show j+1 - i=(j - i)+1 by omega,right_add,h,show i+(j - i)=j by omega]
 show (swap m j).bind (fun m=>some m)=_
 cases swap m j <;> rfl
theorem right_dies {l m:List Qp} {i j k:Nat} (hj:i≤j) (hk:j < k) (h:right (j - i) l i=some m) (hs:swap m j=none):right (k - i) l i=none:=by
 rw [show k - i=(j+1 - i)+(k - j - 1) by omega,right_add,right_step hj h,hs]
 rfl
theorem left_step {l m:List Qp} {i j:Nat} (hj:j+1≤i) (h:left (i - (j+1)) l i=some m):left (i - j) l i=swap m j:=by
 rw [show i - j=(i - (j+1))+1 by omega,left_add,h,show i - (i - (j+1))=j+1 by omega]
 show (swap m (j+1 - 1)).bind (fun m=>some m)=_
 rw [Nat.add_sub_cancel]
 cases swap m j <;> rfl
theorem left_dies {l m:List Qp} {i j k:Nat} (hj:j+1≤i) (hk:k≤j) (h:left (i - (j+1)) l i=some m) (hs:swap m j=none):left (i - k) l i=none:=by
 rw [show i - k=(i - j)+(j - k) by omega,left_add,left_step hj h,hs]
 rfl
theorem swap_fits {l m:List Qp} {i:Nat} (hi:i+1 < l.length) (h:swap l i=some m) (hf:∀ q∈l,q.Fits):∀ q∈m,q.Fits:=by
 obtain ⟨p,a,b,s,rfl,rfl⟩:=parts hi
 rw [swap_at] at h
 split at h
 ·rename_i hk
  obtain rfl:=Option.some.inj h
  have e:a.commute b=((a.commute b).1,(a.commute b).2.1,true):=by rw [← hk]
  have hc:=(commute_back e).2
  intro q hq
  rcases List.mem_append.1 hq with m | m
  ·exact hf q (List.mem_append_left _ m)
  ·rcases List.mem_cons.1 m with rfl | m
   ·exact check_fits hc.1
   ·rcases List.mem_cons.1 m with rfl | m
    ·exact check_fits hc.2
    ·exact hf q (List.mem_append_right _ (List.mem_cons_of_mem _ (List.mem_cons_of_mem _ m)))
 ·cases h
end Sq
end Go.Proofs.YtlbhaimfjfdppaaGreatDoor
namespace Go.Proofs.YtlbhaimfjfdppaaGreatDoor
open Go.RowKit
theorem merge_fits {x y:Qp} (h:(x.merge y).2.2=true):(x.merge y).1.Fits∧(x.merge y).2.1.Fits:=by
 unfold Qp.merge at h ⊢
 split at h
 ·cases h
 ·rename_i h0
  rw [if_neg h0]
  split at h
  ·rename_i hk
   rw [if_pos hk]
   have e:x.inv.commute y=((x.inv.commute y).1,(x.inv.commute y).2.1,true):=by rw [← hk]
   have hc:=(commute_back e).2
   exact ⟨check_fits hc.1,check_fits (inv_check hc.2)⟩
  ·cases h
theorem carried_fits {l:List Qp}:∀ {x:Qp} {r:Qp × List Qp},Sq.carried x l=.ok r→x.Fits→r.1.Fits∧∀ q∈r.2,q.Fits:=by
 induction l with
 | nil=>
   intro x r h fx
   obtain rfl:=Except.ok.inj h
   exact ⟨fx,fun q hq=>by cases hq⟩
 | cons y l ih=>
   intro x r h fx
   unfold Sq.carried at h
   split at h
   ·rename_i hm
    split at h
    ·rename_i t ht
     obtain rfl:=Except.ok.inj h
     obtain ⟨h1,h2⟩:=ih ht (merge_fits hm).2
     refine ⟨h1,fun q hq=>?_⟩
     rcases List.mem_cons.1 hq with rfl | hq
     ·exact (merge_fits hm).1
     ·exact h2 q hq
    ·cases h
   ·cases h
def Mer (a b:List Qp) (k:Nat) (bk outs:List Qp):Prop:=
 outs.length=k∧bk.length=b.length∧(∀ q∈bk,q.Fits)∧(∀ q∈outs,q.Fits)∧Sq.merge a b=match Sq.merge (a.drop k) bk with
  | .ok t=>.ok (t.1,outs ++ t.2)
  | .error e=>.error (e.1+k,e.2)
theorem Mer.start (a:List Qp) {b:List Qp} (hf:∀ q∈b,q.Fits):Mer a b 0 b []:=by
 refine ⟨rfl,rfl,hf,(fun q hq=>by cases hq),?_⟩
 rw [List.drop_zero]
 cases Sq.merge a b <;> rfl
theorem Mer.step {a b bk outs:List Qp} {k:Nat} {x:Qp} {r:Qp × List Qp} (h:Mer a b k bk outs) (hx:a[k]?=some x) (fx:x.Fits) (hc:Sq.carried x bk=.ok r):Mer a b (k+1) r.2 (outs ++ [r.1]):=by
 obtain ⟨h1,h2,h3,h4,h5⟩:=h
 obtain ⟨f1,f2⟩:=carried_fits hc fx
 refine ⟨by simp [h1],(Sq.carried_length hc).trans h2,f2,fun q hq=>?_,?_⟩
 ·rcases List.mem_append.1 hq with m | m
  ·exact h4 q m
  ·obtain rfl:q=r.1:=by simpa using m
   exact f1
 ·obtain ⟨hlt,e⟩:=List.getElem?_eq_some_iff.1 hx
  rw [h5,List.drop_eq_getElem_cons hlt,e,Sq.merge_cons,hc]
  dsimp only
  cases Sq.merge (a.drop (k+1)) r.2 with
  | ok t=>simp
  | error e=>simp;omega
theorem Mer.dies {a b bk outs:List Qp} {k j:Nat} {x:Qp} (h:Mer a b k bk outs) (hx:a[k]?=some x) (hc:Sq.carried x bk=.error j):Sq.merge a b=.error (k,j):=by
 obtain ⟨h1,h2,h3,h4,h5⟩:=h
 obtain ⟨hlt,e⟩:=List.getElem?_eq_some_iff.1 hx
 rw [h5,List.drop_eq_getElem_cons hlt,e,Sq.merge_cons,hc]
 simp
theorem Mer.ends {a b bk outs:List Qp} {k:Nat} (h:Mer a b k bk outs) (hk:a.length≤k):Sq.merge a b=.ok (bk,outs):=by
 obtain ⟨h1,h2,h3,h4,h5⟩:=h
 rw [h5,List.drop_of_length_le hk]
 simp [Sq.merge]
end Go.Proofs.YtlbhaimfjfdppaaGreatDoor
