import Derived.Test.YtfmgnaigcibcaaaGreatDoorTUc
set_option linter.unusedSimpArgs false
set_option linter.unusedVariables false
namespace Go.Proofs.YtfmgnaigcibcaaaGreatDoor
namespace Um
def seek (m:List Qp) (p:Qp) (i:Nat):Nat→Nat→Option (List Qp)
 | 0,_=>none
 | n+1,k=>match Sq.move m k i with
   | some x=>if (x.getD i Qp.zero).same p then some x else seek m p i n (k+1)
   | none=>seek m p i n (k+1)
theorem seek_step {m:List Qp} {p:Qp} {i k n:Nat} (h:k < n):seek m p i (n - k) k=match Sq.move m k i with
 | some x=>if (x.getD i Qp.zero).same p then some x else seek m p i (n - (k+1)) (k+1)
 | none=>seek m p i (n - (k+1)) (k+1):=by
 rw [show n - k=(n - (k+1))+1 by omega]
 rfl
theorem seek_none {m:List Qp} {p:Qp} {i k n:Nat} (h:n≤k):seek m p i (n - k) k=none:=by
 rw [show n - k=0 by omega]
 rfl
theorem seek_keeps {m:List Qp} {p:Qp} {i:Nat}:∀ {n k:Nat} {x:List Qp},seek m p i n k=some x→Keeps m x∧x.length=m.length
 | 0,k,x,h=>nomatch h
 | n+1,k,x,h=>by
   unfold seek at h
   split at h
   ·rename_i y hy
    split at h
    ·obtain rfl:=Option.some.inj h
     exact ⟨move_keeps hy,Sq.move_length hy⟩
    ·exact seek_keeps h
   ·exact seek_keeps h
theorem getD_behind (p l:List Qp) (i:Nat):(p ++ l).getD (p.length+i) Qp.zero=l.getD i Qp.zero:=by
 simp [List.getD,List.getElem?_append_right]
theorem swap_behind (p l:List Qp) (i:Nat):Sq.swap (p ++ l) (p.length+i)=(Sq.swap l i).map (p ++ ·):=by
 unfold Sq.swap
 rw [getD_behind,show p.length+i+1=p.length+(i+1) by omega,getD_behind]
 split
 ·rw [Option.map_some]
  congr 1
  rw [List.set_append_right _ _ (by omega),List.set_append_right _ _ (by omega)]
  congr 2
  ·congr 1
   omega
  ·omega
 ·rfl
theorem left_behind (p:List Qp):∀ {n:Nat} {l:List Qp} {j:Nat},n≤j→Sq.left n (p ++ l) (p.length+j)=(Sq.left n l j).map (p ++ ·)
 | 0,l,j,_=>rfl
 | n+1,l,j,h=>by
   show (Sq.swap (p ++ l) (p.length+j - 1)).bind (fun m=>Sq.left n m (p.length+j - 1))=((Sq.swap l (j - 1)).bind fun m=>Sq.left n m (j - 1)).map (p ++ ·)
   rw [show p.length+j - 1=p.length+(j - 1) by omega,swap_behind]
   cases Sq.swap l (j - 1) with
   | none=>rfl
   | some m=>exact left_behind p (by omega)
theorem move_behind (p l:List Qp) {j:Nat} (hj:j < l.length):Sq.move (p ++ l) (p.length+j) p.length=(Sq.move l j 0).map (p ++ ·):=by
 have g1:p.length+j < (p ++ l).length∧p.length < (p ++ l).length:=by rw [List.length_append];omega
 have g2:j < l.length∧0 < l.length:=by omega
 unfold Sq.move
 rw [if_pos g1]
 by_cases h0:j=0
 ·subst h0
  rw [if_pos (by omega),if_pos g2,if_pos (Nat.le_refl _),show p.length - (p.length+0)=0 by omega]
  rfl
 ·rw [if_neg (by omega),if_pos g2,if_neg (by omega),show p.length+j - p.length=j - 0 by omega]
  exact left_behind p (by omega)
theorem seek_same {p r:List Qp} {q:Qp}:∀ {n j:Nat} {r':List Qp},n+j=r.length→Sq.withoutFrom r q n j=some r'→seek (p ++ r) q p.length n (p.length+j)=some (p ++ q :: r')
 | 0,j,r',_,h=>nomatch h
 | n+1,j,r',hl,h=>by
   unfold Sq.withoutFrom at h
   unfold seek
   rw [move_behind p r (by omega)]
   cases hm:Sq.move r j 0 with
   | none=>
     rw [hm] at h
     exact seek_same (j:=j+1) (by omega) h
   | some x=>
     rw [hm] at h
     dsimp only [Option.map_some] at h ⊢
     have e:(p ++ x).getD p.length Qp.zero=x.getD 0 Qp.zero:=getD_behind p x 0
     rw [e]
     by_cases hs:(x.getD 0 Qp.zero).same q=true
     ·rw [if_pos hs] at h ⊢
      obtain rfl:=Option.some.inj h
      have hx:=Sq.move_length hm
      cases x with
      | nil=>simp at hx;omega
      | cons y x=>
        have hy:y=q:=Qp.same_iff.1 (by simpa using hs)
        rw [hy]
        rfl
     ·rw [if_neg hs] at h ⊢
      exact seek_same (j:=j+1) (by omega) h
def Come (b:List Qp) (i:Nat) (m:List Qp):Prop:=i≤b.length∧∃ r,m=b.take i ++ r∧Sq.same r (b.drop i)=true
theorem Come.start {a b:List Qp} (h:Sq.same a b=true):Come b 0 a:=⟨Nat.zero_le _,a,by simp,by simpa using h⟩
theorem Come.step {b m:List Qp} {i:Nat} {p:Qp} (h:Come b i m) (hp:b[i]?=some p):∃ x,seek m p i (m.length - i) i=some x∧Come b (i+1) x:=by
 obtain ⟨hi,r,rfl,hs⟩:=h
 obtain ⟨hlt,e⟩:=List.getElem?_eq_some_iff.1 hp
 rw [List.drop_eq_getElem_cons hlt,e] at hs
 unfold Sq.same at hs
 split at hs
 rotate_left
 ·cases hs
 rename_i r' hr
 have ht:(b.take i).length=i:=by rw [List.length_take];omega
 have h1:=seek_same (p:=b.take i) (j:=0) (by omega) hr
 rw [Nat.add_zero,ht] at h1
 refine ⟨b.take i ++ p :: r',?_,hlt,r',?_,hs⟩
 ·rw [List.length_append,ht,Nat.add_sub_cancel_left]
  exact h1
 ·rw [List.take_add_one,hp]
  simp
theorem Come.ends {b m:List Qp} (h:Come b b.length m):m=b:=by
 obtain ⟨_,r,rfl,hs⟩:=h
 rw [List.drop_length] at hs
 have:r=[]:=by unfold Sq.same at hs;exact List.isEmpty_iff.1 hs
 rw [this,List.take_length,List.append_nil]
end Um
end Go.Proofs.YtfmgnaigcibcaaaGreatDoor
