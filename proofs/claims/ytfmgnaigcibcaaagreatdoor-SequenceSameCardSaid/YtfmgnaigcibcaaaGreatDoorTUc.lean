import Derived.Test.YtfmgnaigcibcaaaGreatDoorTUb
import Derived.Test.YtfmgnaigcibcaaaGreatDoorTUd
import Derived.Test.YtfmgnaigcibcaaaGreatDoorTJo
set_option linter.unusedSimpArgs false
set_option linter.unusedVariables false
namespace Go.Proofs.YtfmgnaigcibcaaaGreatDoor
open Go Pa
namespace Um
def Su:List Qp→Mp→Mp→Prop
 | [],M,N=>M=N
 | p :: l,M,N=>∃ T,Du p M T∧Su l T N
theorem Su.append:∀ {l m:List Qp} {M N:Mp},Su (l ++ m) M N ↔ ∃ T,Su l M T∧Su m T N
 | [],m,M,N=>⟨fun h=>⟨M,rfl,h⟩,fun ⟨T,h1,h2⟩=>by rw [show M=T from h1];exact h2⟩
 | p :: l,m,M,N=>by
   constructor
   ·rintro ⟨T,h1,h2⟩
    obtain ⟨U,h3,h4⟩:=Su.append.1 h2
    exact ⟨U,⟨T,h1,h3⟩,h4⟩
   ·rintro ⟨U,⟨T,h1,h3⟩,h4⟩
    exact ⟨T,h1,Su.append.2 ⟨U,h3,h4⟩⟩
theorem Su.ug:∀ {l:List Qp} {M N:Mp},Sq.Ok l→Ug M→Su l M N→Ug N
 | [],M,N,_,hM,h=>by rw [← show M=N from h];exact hM
 | p :: l,M,N,ok,hM,⟨T,h1,h2⟩=>Su.ug (fun x hx=>ok x (List.mem_cons_of_mem _ hx)) (h1.ug (ok p (List.mem_cons_self ..)) hM) h2
theorem Su.det:∀ {l:List Qp} {M N X:Mp},Su l M N→Su l M X→N=X
 | [],M,N,X,h,k=>(show M=N from h).symm.trans k
 | p :: l,M,N,X,⟨T,h1,h2⟩,⟨U,k1,k2⟩=>by
   obtain rfl:=h1.det k1
   exact Su.det h2 k2
theorem ok_parts {p s:List Qp} {a b:Qp} (h:Sq.Ok (p ++ a :: b :: s)):Sq.Ok p∧a.check=0∧b.check=0∧Sq.Ok s:=
 ⟨fun x hx=>h x (by simp [hx]),h a (by simp),h b (by simp),fun x hx=>h x (by simp [hx])⟩
theorem ok_join {p s:List Qp} {a b:Qp} (h1:Sq.Ok p) (h2:a.check=0) (h3:b.check=0) (h4:Sq.Ok s):Sq.Ok (p ++ a :: b :: s):=fun x hx=>by
 simp only [List.mem_append,List.mem_cons] at hx
 rcases hx with hx | rfl | rfl | hx
 ·exact h1 x hx
 ·exact h2
 ·exact h3
 ·exact h4 x hx
structure Keeps (l m:List Qp):Prop where
 ok:Sq.Ok l→Sq.Ok m
 su:Sq.Ok l→∀ {M N:Mp},Ug M→Su l M N→Su m M N
theorem Keeps.refl (l:List Qp):Keeps l l:=⟨id,fun _ _ _ _=>id⟩
theorem Keeps.trans {a b c:List Qp} (h:Keeps a b) (k:Keeps b c):Keeps a c:=⟨fun o=>k.ok (h.ok o),fun o _ _ hM s=>k.su (h.ok o) hM (h.su o hM s)⟩
theorem swap_keeps {l m:List Qp} {i:Nat} (hi:i+1 < l.length) (h:Sq.swap l i=some m):Keeps l m:=by
 obtain ⟨p,a,b,s,rfl,rfl⟩:=Sq.parts hi
 rw [Sq.swap_at] at h
 split at h
 ·rename_i hk
  obtain rfl:=Option.some.inj h
  have e:a.commute b=((a.commute b).1,(a.commute b).2.1,true):=by rw [← hk]
  obtain ⟨_,c1,c2⟩:=commute_back e
  refine ⟨fun ok=>?_,fun ok M N hM hs=>?_⟩
  ·obtain ⟨o1,o2,o3,o4⟩:=ok_parts ok
   exact ok_join o1 c1 c2 o4
  ·obtain ⟨o1,o2,o3,o4⟩:=ok_parts ok
   obtain ⟨T,h1,U,h2,V,h3,h4⟩:=Su.append.1 hs
   obtain ⟨U',h5,h6⟩:=diamond e (h1.ug o1 hM) h2 h3
   exact Su.append.2 ⟨T,h1,U',h5,V,h6,h4⟩
 ·cases h
theorem right_keeps:∀ {n:Nat} {l m:List Qp} {i:Nat},i+n < l.length→Sq.right n l i=some m→Keeps l m
 | 0,l,m,i,_,h=>by
   obtain rfl:=Option.some.inj h
   exact Keeps.refl _
 | n+1,l,m,i,hi,h=>by
   obtain ⟨x,h1,h2⟩:=Option.bind_eq_some_iff.1 h
   exact (swap_keeps (by omega) h1).trans (right_keeps (by rw [Sq.swap_length h1];omega) h2)
theorem left_keeps:∀ {n:Nat} {l m:List Qp} {i:Nat},n≤i→i < l.length→Sq.left n l i=some m→Keeps l m
 | 0,l,m,i,_,_,h=>by
   obtain rfl:=Option.some.inj h
   exact Keeps.refl _
 | n+1,l,m,i,hn,hi,h=>by
   obtain ⟨x,h1,h2⟩:=Option.bind_eq_some_iff.1 h
   exact (swap_keeps (by omega) h1).trans (left_keeps (by omega) (by rw [Sq.swap_length h1];omega) h2)
theorem move_lt {l m:List Qp} {i k:Nat} (h:Sq.move l i k=some m):i < l.length∧k < l.length:=by
 unfold Sq.move at h
 split at h
 ·assumption
 ·cases h
theorem move_keeps {l m:List Qp} {i k:Nat} (h:Sq.move l i k=some m):Keeps l m:=by
 obtain ⟨h1,h2⟩:=move_lt h
 unfold Sq.move at h
 rw [if_pos ⟨h1,h2⟩] at h
 split at h
 ·exact right_keeps (by omega) h
 ·exact left_keeps (by omega) h1 h
theorem right_back:∀ {n:Nat} {l m:List Qp} {i:Nat},i+n < l.length→Sq.right n l i=some m→Sq.left n m (i+n)=some l
 | 0,l,m,i,_,h=>by
   obtain rfl:=Option.some.inj h
   rfl
 | n+1,l,m,i,hi,h=>by
   obtain ⟨x,h1,h2⟩:=Option.bind_eq_some_iff.1 h
   have h3:=right_back (by rw [Sq.swap_length h1];omega) h2
   rw [Sq.left_add 1 n,show i+(n+1)=i+1+n by omega,h3]
   show (Sq.swap x (i+1+n - n - 1)).bind (fun m=>some m)=_
   rw [show i+1+n - n - 1=i by omega,Sq.swap_back (by omega) h1]
   rfl
theorem left_back:∀ {n:Nat} {l m:List Qp} {i:Nat},n≤i→i < l.length→Sq.left n l i=some m→Sq.right n m (i - n)=some l
 | 0,l,m,i,_,_,h=>by
   obtain rfl:=Option.some.inj h
   rfl
 | n+1,l,m,i,hn,hi,h=>by
   obtain ⟨x,h1,h2⟩:=Option.bind_eq_some_iff.1 h
   have h3:=left_back (by omega) (by rw [Sq.swap_length h1];omega) h2
   rw [Sq.right_add 1 n,show i - (n+1)=i - 1 - n by omega,h3]
   show (Sq.swap x (i - 1 - n+n)).bind (fun m=>some m)=_
   rw [show i - 1 - n+n=i - 1 by omega,Sq.swap_back (by omega) h1]
   rfl
theorem move_back {l m:List Qp} {i k:Nat} (h:Sq.move l i k=some m):Sq.move m k i=some l:=by
 obtain ⟨h1,h2⟩:=move_lt h
 have hl:=Sq.move_length h
 unfold Sq.move at h ⊢
 rw [if_pos ⟨h1,h2⟩] at h
 rw [if_pos ⟨by omega,by omega⟩]
 by_cases e:i=k
 ·subst e
  rw [if_pos (Nat.le_refl _),Nat.sub_self] at h ⊢
  obtain rfl:=Option.some.inj h
  rfl
 ·split at h
  ·rw [if_neg (by omega)]
   have:=right_back (by omega) h
   rwa [show i+(k - i)=k by omega] at this
  ·rw [if_pos (by omega)]
   have:=left_back (by omega) h1 h
   rwa [show i - (i - k)=k by omega] at this
theorem applyFrom_su:∀ {l:List Qp} {t r:List Pf} {i k:Nat},Tr.Good t→applyFrom t i l=(r,k,0)→Tr.Good r∧Sq.Ok l∧Su l (mp t) (mp r)
 | [],t,r,i,k,hg,h=>by
   obtain rfl:t=r:=congrArg Prod.fst h
   exact ⟨hg,fun x hx=>(by cases hx),rfl⟩
 | p :: l,t,r,i,k,hg,h=>by
   unfold applyFrom at h
   split at h
   ·rename_i h0
    exact (h0 (congrArg (fun x=>x.2.2) h)).elim
   ·rename_i h0
    have e:Tr.apply t p=((Tr.apply t p).1,0):=Prod.ext rfl (by simpa using h0)
    obtain ⟨_,hp,hd⟩:=Tr.apply_iff.1 e
    have hg':=hd.good hg hp
    obtain ⟨h1,h2,h3⟩:=applyFrom_su hg' h
    exact ⟨h1,fun x hx=>(List.mem_cons.1 hx).elim (fun e=>by rw [e];exact hp) (h2 x),_,du_of hg hp hd,h3⟩
theorem apply_su {l:List Qp} {t r:List Pf} {k:Nat} (h:apply t l=(r,k,0)):Tr.Good t∧Tr.Good r∧Sq.Ok l∧Su l (mp t) (mp r):=by
 unfold apply at h
 split at h
 ·rename_i h0
  exact (h0 (congrArg (fun x=>x.2.2) h)).elim
 ·rename_i h0
  have hg:=Tr.good_iff.1 (by simpa using h0)
  exact ⟨hg,applyFrom_su hg h⟩
theorem applyFrom_run:∀ {l:List Qp} {t:List Pf} {N:Mp} (i:Nat),Tr.Good t→Sq.Ok l→Su l (mp t) N→(∃ r k,applyFrom t i l=(r,k,0)∧Tr.Good r∧mp r=N)∨Lim (applyFrom t i l).2.2
 | [],t,N,i,hg,_,h=>.inl ⟨t,0,rfl,hg,h⟩
 | p :: l,t,N,i,hg,ok,⟨T,h1,h2⟩=>by
   have hp:=ok p (List.mem_cons_self ..)
   unfold applyFrom
   rcases du_run hg hp h1 with ⟨r,e,rfl⟩ | h3
   ·obtain ⟨_,_,hd⟩:=Tr.apply_iff.1 e
    rw [e,if_neg (by simp)]
    exact applyFrom_run (i+1) (hd.good hg hp) (fun x hx=>ok x (List.mem_cons_of_mem _ hx)) h2
   ·rw [if_pos (by rcases h3 with h3 | h3 <;> rw [h3] <;> decide)]
    exact .inr h3
theorem apply_run {l:List Qp} {t:List Pf} {N:Mp} (hg:Tr.Good t) (ok:Sq.Ok l) (h:Su l (mp t) N):(∃ r k,apply t l=(r,k,0)∧Tr.Good r∧mp r=N)∨Lim (apply t l).2.2:=by
 unfold apply
 rw [if_neg (by simpa using Tr.good_iff.2 hg)]
 exact applyFrom_run 0 hg ok h
def Like (x y:List Pf × Nat × Int):Prop:=x.2.2≠0∨Lim y.2.2∨(y.2.2=0∧y.1=x.1)
theorem keeps_like {l m:List Qp} (h:Keeps l m) (t:List Pf):Like (apply t l) (apply t m):=by
 by_cases e:(apply t l).2.2=0
 ·have e':apply t l=((apply t l).1,(apply t l).2.1,0):=Prod.ext rfl (Prod.ext rfl e)
  obtain ⟨h1,h2,h3,h4⟩:=apply_su e'
  right
  rcases apply_run h1 (h.ok h3) (h.su h3 (mp_ug h1) h4) with ⟨r,k,h5,h6,h7⟩ | h5
  ·right
   rw [h5]
   exact ⟨rfl,mp_inj h6.srt h2.srt h7⟩
  ·exact .inl h5
 ·exact .inl e
theorem moved_law {l m:List Qp} {i k:Nat} (h:Sq.move l i k=some m) (t:List Pf):Sq.move m k i=some l∧Like (apply t l) (apply t m):=⟨move_back h,keeps_like (move_keeps h) t⟩
theorem left_still:∀ {n:Nat} {l m:List Qp} {i j:Nat},j+n < i→i < l.length→Sq.left n l i=some m→m[j]?=l[j]?
 | 0,l,m,i,j,_,_,h=>by
   obtain rfl:=Option.some.inj h
   rfl
 | n+1,l,m,i,j,hj,hi,h=>by
   obtain ⟨x,h1,h2⟩:=Option.bind_eq_some_iff.1 h
   rw [left_still (i:=i - 1) (by omega) (by rw [Sq.swap_length h1];omega) h2]
   unfold Sq.swap at h1
   split at h1
   ·obtain rfl:=Option.some.inj h1
    rw [List.getElem?_set_ne (by omega),List.getElem?_set_ne (by omega)]
   ·cases h1
theorem cancelAt_keeps {l m:List Qp} {i k:Nat} (hi:i < k) (hk:k < l.length) (h:Sq.cancelAt l i k=some m):Keeps l m∧m.length+2=l.length:=by
 unfold Sq.cancelAt at h
 split at h
 rotate_left
 ·cases h
 rename_i hc
 split at h
 rotate_left
 ·cases h
 rename_i x hx
 split at h
 rotate_left
 ·cases h
 rename_i hs
 obtain rfl:=Option.some.inj h
 have hl:=Sq.move_length hx
 have hkx:=move_keeps hx
 have hs':=Qp.same_iff.1 hs
 have hst:x[i]?=l[i]?:=by
  unfold Sq.move at hx
  rw [if_pos ⟨hk,by omega⟩] at hx
  by_cases e:k=i+1
  ·rw [e,if_pos (Nat.le_refl _),Nat.sub_self] at hx
   obtain rfl:=Option.some.inj hx
   rfl
  ·rw [if_neg (by omega)] at hx
   exact left_still (by omega) hk hx
 have g1:l.getD i Qp.zero=l[i]'(by omega):=by simp [List.getD,List.getElem?_eq_getElem (show i < l.length by omega)]
 have g2:x.getD (i+1) Qp.zero=x[i+1]'(by omega):=by simp [List.getD,List.getElem?_eq_getElem (show i+1 < x.length by omega)]
 have g3:x[i]'(by omega)=l[i]'(by omega):=by
  rw [List.getElem?_eq_getElem (show i < x.length by omega),List.getElem?_eq_getElem (show i < l.length by omega)] at hst
  exact Option.some.inj hst
 rw [g1] at hc hs'
 rw [g2,← g3] at hs'
 rw [← g3] at hc
 have hp:x=x.take i ++ x[i]'(by omega) :: x[i+1]'(by omega) :: x.drop (i+2):=by
  rw [List.getElem_cons_drop,List.getElem_cons_drop,List.take_append_drop]
 generalize x[i]'(by omega)=y at *
 generalize x[i+1]'(by omega)=z at *
 subst hs'
 refine ⟨hkx.trans ⟨fun ok=>?_,fun ok M N hM s=>?_⟩,?_⟩
 ·rw [hp] at ok
  obtain ⟨o1,_,_,o4⟩:=ok_parts ok
  exact fun q hq=>(List.mem_append.1 hq).elim (o1 q) (o4 q)
 ·rw [hp] at ok s
  obtain ⟨o1,_,_,o4⟩:=ok_parts ok
  obtain ⟨T,h1,U,h2,V,h3,h4⟩:=Su.append.1 s
  have hT:=h1.ug o1 hM
  obtain rfl:=h3.det (h2.back hc hT)
  exact Su.append.2 ⟨_,h1,h4⟩
 ·rw [List.length_append,List.length_take,List.length_drop]
  omega
theorem cancelOne_keeps {l m:List Qp} (h:Sq.cancelOne l=some m):Keeps l m∧m.length+2=l.length:=by
 unfold Sq.cancelOne at h
 obtain ⟨d,hd,h1⟩:=List.exists_of_findSome?_eq_some h
 unfold Sq.cancelRow at h1
 obtain ⟨i,hi,h2⟩:=List.exists_of_findSome?_eq_some h1
 rw [List.mem_range'_1] at hd
 rw [List.mem_range] at hi
 exact cancelAt_keeps (by omega) (by omega) h2
theorem cancelN_keeps:∀ (n:Nat) (l:List Qp),l.length≤n→Keeps l (Sq.cancelN n l)∧Sq.cancelOne (Sq.cancelN n l)=none∧(Sq.cancelN n l).length≤l.length∧(Sq.cancelN n l).length % 2=l.length % 2
 | 0,l,hl=>by
   have e:l=[]:=List.length_eq_zero_iff.1 (by omega)
   subst e
   exact ⟨Keeps.refl _,rfl,Nat.le_refl _,rfl⟩
 | n+1,l,hl=>by
   unfold Sq.cancelN
   cases h:Sq.cancelOne l with
   | none=>exact ⟨Keeps.refl _,h,Nat.le_refl _,rfl⟩
   | some m=>
     obtain ⟨h1,h2⟩:=cancelOne_keeps h
     obtain ⟨h3,h4,h5,h6⟩:=cancelN_keeps n m (by omega)
     exact ⟨h1.trans h3,h4,by show (Sq.cancelN n m).length≤_;omega,by show (Sq.cancelN n m).length % 2=_;omega⟩
theorem canceled_law (l:List Qp) (t:List Pf):(Sq.cancel l).length≤l.length∧(Sq.cancel l).length % 2=l.length % 2∧Sq.cancel (Sq.cancel l)=Sq.cancel l∧Like (apply t l) (apply t (Sq.cancel l)):=by
 obtain ⟨h1,h2,h3,h4⟩:=cancelN_keeps l.length l (Nat.le_refl _)
 refine ⟨h3,h4,?_,keeps_like h1 t⟩
 show Sq.cancelN (Sq.cancelN l.length l).length (Sq.cancelN l.length l)=Sq.cancelN l.length l
 generalize Sq.cancelN l.length l=m at h2 ⊢
 cases m.length with
 | zero=>rfl
 | succ k=>
   unfold Sq.cancelN
   rw [h2]
theorem carried_su:∀ {b:List Qp} {x:Qp} {r:Qp × List Qp} {M T B:Mp},Sq.carried x b=.ok r→Ug M→x.check=0→Sq.Ok b→Du x M T→Su b M B→r.1.check=0∧Sq.Ok r.2∧∃ X,Su r.2 T X∧Du r.1 B X
 | [],x,r,M,T,B,h,hM,hx,ok,h1,h2=>by
   obtain rfl:(x,[])=r:=Except.ok.inj h
   obtain rfl:M=B:=h2
   exact ⟨hx,ok,T,rfl,h1⟩
 | y :: b,x,r,M,T,B,h,hM,hx,ok,h1,⟨Y,h2,h3⟩=>by
   unfold Sq.carried at h
   split at h
   rotate_left
   ·cases h
   rename_i hm
   have hb:Sq.Ok b:=fun q hq=>ok q (List.mem_cons_of_mem _ hq)
   have hy:=ok y (List.mem_cons_self ..)
   unfold Qp.merge at h hm
   rw [if_neg (by simpa using hx)] at h hm
   split at hm
   rotate_left
   ·cases hm
   rename_i hc
   rw [if_pos hc] at h
   have e:x.inv.commute y=((x.inv.commute y).1,(x.inv.commute y).2.1,true):=by rw [← hc]
   generalize (x.inv.commute y).1=c at *
   generalize (x.inv.commute y).2.1=d at *
   obtain ⟨_,cc,cd⟩:=commute_back e
   have hT:=h1.ug hx hM
   obtain ⟨T',h4,h5⟩:=diamond e hT (h1.back hx hM) h2
   have h6:=h5.back cd (h4.ug cc hT)
   dsimp only at h
   cases hr:Sq.carried d.inv b with
   | error k=>rw [hr] at h;cases h
   | ok s=>
     rw [hr] at h
     obtain rfl:=Except.ok.inj h
     obtain ⟨k1,k2,X,k3,k4⟩:=carried_su hr (h2.ug hy hM) (inv_check cd) hb h6 h3
     exact ⟨k1,fun q hq=>(List.mem_cons.1 hq).elim (fun e=>by rw [e];exact cc) (k2 q),X,⟨T',h4,k3⟩,k4⟩
theorem merge_su:∀ {a b:List Qp} {r:List Qp × List Qp} {M A B:Mp},Sq.merge a b=.ok r→Ug M→Sq.Ok a→Sq.Ok b→Su a M A→Su b M B→Sq.Ok r.1∧Sq.Ok r.2∧∃ X,Su r.1 A X∧Su r.2 B X
 | [],b,r,M,A,B,h,hM,oa,ob,h1,h2=>by
   obtain rfl:(b,[])=r:=Except.ok.inj h
   obtain rfl:M=A:=h1
   exact ⟨ob,oa,B,h2,rfl⟩
 | x :: a,b,r,M,A,B,h,hM,oa,ob,⟨T,h1,h3⟩,h2=>by
   rw [Sq.merge_cons] at h
   cases hc:Sq.carried x b with
   | error k=>rw [hc] at h;cases h
   | ok s=>
     rw [hc] at h
     dsimp only at h
     cases hm:Sq.merge a s.2 with
     | error k=>rw [hm] at h;cases h
     | ok t=>
       rw [hm] at h
       obtain rfl:=Except.ok.inj h
       have hx:=oa x (List.mem_cons_self ..)
       obtain ⟨k1,k2,X,k3,k4⟩:=carried_su hc hM hx ob h1 h2
       obtain ⟨j1,j2,Z,j3,j4⟩:=merge_su hm (h1.ug hx hM) (fun q hq=>oa q (List.mem_cons_of_mem _ hq)) k2 h3 k3
       exact ⟨j1,fun q hq=>(List.mem_cons.1 hq).elim (fun e=>by rw [e];exact k1) (j2 q),Z,j3,X,k4,j4⟩
theorem effect_law {a b f s:List Qp} {t:List Pf} (h:Sq.merge a b=.ok (f,s)) (ha:(apply t a).2.2=0) (hb:(apply t b).2.2=0):
 Lim (apply (apply t a).1 f).2.2∨Lim (apply (apply t b).1 s).2.2∨((apply (apply t a).1 f).2.2=0∧(apply (apply t b).1 s).2.2=0∧(apply (apply t a).1 f).1=(apply (apply t b).1 s).1):=by
 have ea:apply t a=((apply t a).1,(apply t a).2.1,0):=Prod.ext rfl (Prod.ext rfl ha)
 have eb:apply t b=((apply t b).1,(apply t b).2.1,0):=Prod.ext rfl (Prod.ext rfl hb)
 obtain ⟨h1,h2,h3,h4⟩:=apply_su ea
 obtain ⟨_,k2,k3,k4⟩:=apply_su eb
 obtain ⟨o1,o2,X,j1,j2⟩:=merge_su h (mp_ug h1) h3 k3 h4 k4
 rcases apply_run h2 o1 j1 with ⟨r,k,q1,q2,q3⟩ | q
 ·rcases apply_run k2 o2 j2 with ⟨r',k',p1,p2,p3⟩ | p
  ·right;right
   rw [q1,p1]
   exact ⟨rfl,rfl,mp_inj q2.srt p2.srt (q3.trans p3.symm)⟩
  ·exact .inr (.inl p)
 ·exact .inl q
theorem both_law {a b c d:Qp} {t:List Pf} (h:a.commute b=(c,d,true)) {u v:List Pf} (h1:Tr.apply t a=(u,0)) (h2:Tr.apply u b=(v,0)):
 Lim (Tr.apply t c).2∨∃ x,Tr.apply t c=(x,0)∧(Lim (Tr.apply x d).2∨Tr.apply x d=(v,0)):=by
 obtain ⟨g1,ha,d1⟩:=Tr.apply_iff.1 h1
 obtain ⟨g2,hb,d2⟩:=Tr.apply_iff.1 h2
 have g3:=d2.good g2 hb
 obtain ⟨_,hc,hd⟩:=commute_back h
 obtain ⟨T,k1,k2⟩:=diamond h (mp_ug g1) (du_of g1 ha d1) (du_of g2 hb d2)
 rcases du_run g1 hc k1 with ⟨x,e,rfl⟩ | k
 ·right
  obtain ⟨_,_,d3⟩:=Tr.apply_iff.1 e
  have g4:=d3.good g1 hc
  refine ⟨x,e,?_⟩
  rcases du_run g4 hd k2 with ⟨y,e',e2⟩ | k
  ·right
   obtain ⟨_,_,d4⟩:=Tr.apply_iff.1 e'
   rw [e',mp_inj (d4.good g4 hd).srt g3.srt e2]
  ·exact .inl k
 ·exact .inl k
end Um
end Go.Proofs.YtfmgnaigcibcaaaGreatDoor
