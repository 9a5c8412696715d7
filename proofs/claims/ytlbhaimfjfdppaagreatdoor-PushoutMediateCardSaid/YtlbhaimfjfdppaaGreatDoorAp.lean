import Derived.Test.YtlbhaimfjfdppaaGreatDoorModel
import Derived.Test.YtlbhaimfjfdppaaGreatDoorV
set_option linter.unusedSimpArgs false
set_option linter.unusedVariables false
namespace Go.Proofs.YtlbhaimfjfdppaaGreatDoor
namespace Pa
def Tl (e:List UInt8):Prop:=e=[]∨∃ t,e=47 :: t
theorem Tl.nil:Tl []:=.inl rfl
theorem Tl.app {e f:List UInt8} (h:Tl e) (k:Tl f):Tl (e ++ f):=by
 rcases h with rfl | ⟨t,rfl⟩
 ·exact k
 ·exact .inr ⟨t ++ f,rfl⟩
def wi (s p:List UInt8):Prop:=∃ e,Tl e∧s=p ++ e
def sw (s p:List UInt8):Prop:=∃ e,e≠[]∧Tl e∧s=p ++ e
theorem wi.refl (s:List UInt8):wi s s:=⟨[],.nil,by simp⟩
theorem wi.mk {p e:List UInt8} (h:Tl e):wi (p ++ e) p:=⟨e,h,rfl⟩
theorem wi.trans {r s p:List UInt8} (h:wi r s) (k:wi s p):wi r p:=by
 obtain ⟨e,he,rfl⟩:=h
 obtain ⟨f,hf,rfl⟩:=k
 exact ⟨f ++ e,hf.app he,by simp⟩
theorem wi.eq_or {s p:List UInt8} (h:wi s p):s=p∨sw s p:=by
 obtain ⟨e,he,rfl⟩:=h
 by_cases h0:e=[]
 ·left;simp [h0]
 ·exact .inr ⟨e,h0,he,rfl⟩
theorem sw.wi {s p:List UInt8} (h:sw s p):wi s p:=⟨h.choose,h.choose_spec.2.1,h.choose_spec.2.2⟩
theorem Tl.split {e f g:List UInt8} (h:Tl (e ++ f)) (h0:e≠[]):Tl e:=by
 cases e with
 | nil=>exact (h0 rfl).elim
 | cons x e=>
   rcases h with h | ⟨t,h⟩
   ·cases h
   ·simp only [List.cons_append,List.cons.injEq] at h
    exact .inr ⟨e,by rw [h.1]⟩
theorem wi.chain {r a b:List UInt8} (h:wi r a) (k:wi r b):wi a b∨wi b a:=by
 obtain ⟨e,he,rfl⟩:=h
 obtain ⟨f,hf,hk⟩:=k
 rcases List.append_eq_append_iff.1 hk with ⟨c,h1,h2⟩ | ⟨c,h1,h2⟩
 ·right
  by_cases h0:c=[]
  ·subst h0;rw [h1];simpa using wi.refl a
  ·refine ⟨c,?_,h1⟩
   rw [h2] at he
   exact Tl.split (g:=[]) he h0
 ·left
  by_cases h0:c=[]
  ·subst h0;rw [h1];simpa using wi.refl b
  ·refine ⟨c,?_,h1⟩
   rw [h2] at hf
   exact Tl.split (g:=[]) hf h0
def Mv (s t u v:List UInt8):Prop:=(∃ e,Tl e∧u=s ++ e∧v=t ++ e)∨(¬ wi u s∧¬ wi u t∧v=u)
def Nv (s t u v:List UInt8):Prop:=(∃ e,e≠[]∧Tl e∧u=s ++ e∧v=t ++ e)∨(¬ sw u s∧¬ sw u t∧v=u)
theorem Mv.symm {s t u v:List UInt8} (h:Mv s t u v):Mv t s v u:=by
 rcases h with ⟨e,he,rfl,rfl⟩ | ⟨h1,h2,rfl⟩
 ·exact .inl ⟨e,he,rfl,rfl⟩
 ·exact .inr ⟨h2,h1,rfl⟩
theorem Nv.symm {s t u v:List UInt8} (h:Nv s t u v):Nv t s v u:=by
 rcases h with ⟨e,h0,he,rfl,rfl⟩ | ⟨h1,h2,rfl⟩
 ·exact .inl ⟨e,h0,he,rfl,rfl⟩
 ·exact .inr ⟨h2,h1,rfl⟩
theorem Mv.uniq {s t u v v':List UInt8} (h:Mv s t u v) (k:Mv s t u v'):v=v':=by
 rcases h with ⟨e,he,rfl,rfl⟩ | ⟨h1,h2,rfl⟩ <;> rcases k with ⟨f,hf,h,rfl⟩ | ⟨k1,k2,rfl⟩
 ·rw [List.append_cancel_left h]
 ·exact (k1 (wi.mk he)).elim
 ·exact (h1 ⟨f,hf,h⟩).elim
 ·rfl
theorem Nv.uniq {s t u v v':List UInt8} (h:Nv s t u v) (k:Nv s t u v'):v=v':=by
 rcases h with ⟨e,h0,he,rfl,rfl⟩ | ⟨h1,h2,rfl⟩ <;> rcases k with ⟨f,f0,hf,h,rfl⟩ | ⟨k1,k2,rfl⟩
 ·rw [List.append_cancel_left h]
 ·exact (k1 ⟨e,h0,he,rfl⟩).elim
 ·exact (h1 ⟨f,f0,hf,h⟩).elim
 ·rfl
structure Square (s1 t1 s2 t2 s2' t2' s1' t1':List UInt8):Prop where
 v1:¬ wi t1 s1
 v2:¬ wi s2 t2
 v3:¬ wi t2 s2
 v4:¬ wi t2' s2'
 x1:t1≠s2
 x2:t2'≠s1
 x3:t1≠t2
 e1:Mv t1 s1 s2 s2'
 e2:Nv t1 s1 t2 t2'
 e3:Mv s2' t2' s1 s1'
 e4:Nv s2' t2' t1 t1'
section
variable {s1 t1 s2 t2 s2' t2' s1' t1' u r z:List UInt8}
theorem app_ne {s f:List UInt8} (h:f≠[]):¬ wi s (s ++ f):=by
 rintro ⟨e,_,h1⟩
 have:=congrArg List.length h1
 simp only [List.length_append] at this
 have:f.length=0:=by omega
 exact h (List.length_eq_zero_iff.1 this)
theorem square (H:Square s1 t1 s2 t2 s2' t2' s1' t1') (h1:Mv s1 t1 u r) (h2:Mv s2 t2 r z):∃ r',Mv s2' t2' u r'∧Mv s1' t1' r' z:=by
 obtain ⟨v1,v2,v3,v4,x1,x2,x3,e1,e2,e3,e4⟩:=H
 have n2:t2'=t2→¬ sw t2 s1→¬ wi t2 s1:=fun h k w=>by
  rcases w.eq_or with w | w
  ·exact x2 (h.trans w)
  ·exact k w
 have n1:¬ sw t2 t1→¬ wi t2 t1:=fun k w=>by
  rcases w.eq_or with w | w
  ·exact x3 w.symm
  ·exact k w
 rcases e1 with ⟨f,hf,rfl,rfl⟩ | ⟨b1,b2,rfl⟩
 ·
  have f0:f≠[]:=fun h=>x1 (by simp [h])
  have d3:s1'=s1∧¬ wi s1 t2':=by
   rcases e3 with ⟨f',hf',h,_⟩ | ⟨_,k2,k3⟩
   ·exact (app_ne (s:=s1) (f:=f) f0 ⟨f',hf',h⟩).elim
   ·exact ⟨k3,k2⟩
  have d4:t1'=t1:=by
   rcases e4 with ⟨h',_,ht,h,_⟩ | ⟨_,_,k3⟩
   ·exact (v1 ⟨f ++ h',hf.app ht,by rw [h];simp⟩).elim
   ·exact k3
  obtain ⟨rfl,d3⟩:=d3
  subst d4
  rcases h1 with ⟨e,he,rfl,rfl⟩ | ⟨g1,g2,rfl⟩
  ·by_cases hw:wi (t1' ++ e) (t1' ++ f)
   ·obtain ⟨g,hg,hx⟩:=hw
    obtain rfl:e=f ++ g:=by simpa [List.append_assoc] using hx
    have hz:z=t2 ++ g:=by
     rcases h2 with ⟨g',_,h,rfl⟩ | ⟨k,_,_⟩
     ·have:g=g':=by simpa [List.append_assoc] using h
      rw [this]
     ·exact (k ⟨g,hg,by simp⟩).elim
    subst hz
    refine ⟨t2' ++ g,.inl ⟨g,hg,by simp,rfl⟩,?_⟩
    rcases e2 with ⟨h,h0,hh,rfl,rfl⟩ | ⟨k1,k2,rfl⟩
    ·exact .inl ⟨h ++ g,hh.app hg,by simp,by simp⟩
    ·refine .inr ⟨fun w=>?_,fun w=>?_,rfl⟩
     ·rcases w.chain (wi.mk hg) with w | w
      ·exact d3 w
      ·exact n2 rfl k2 w
     ·rcases w.chain (wi.mk hg) with w | w
      ·exact v2 ((wi.mk hf).trans w)
      ·exact n1 k1 w
   ·have hz:z=t1' ++ e∧¬ wi (t1' ++ e) t2:=by
     rcases h2 with ⟨g',hg,h,rfl⟩ | ⟨_,k,h⟩
     ·exact (hw ⟨g',hg,h⟩).elim
     ·exact ⟨h,k⟩
    obtain ⟨rfl,hz⟩:=hz
    refine ⟨s1' ++ e,.inr ⟨fun w=>?_,fun w=>?_,rfl⟩,.inl ⟨e,he,rfl,rfl⟩⟩
    ·obtain ⟨g,hg,hx⟩:=w
     exact hw ⟨g,hg,by simpa [List.append_assoc] using hx⟩
    ·rcases e2 with ⟨h,h0,hh,rfl,rfl⟩ | ⟨k1,k2,rfl⟩
     ·obtain ⟨g,hg,hx⟩:=w
      exact hz ⟨g,hg,by simpa [List.append_assoc] using hx⟩
     ·rcases w.chain (wi.mk he) with w | w
      ·exact n2 rfl k2 w
      ·exact d3 w
  ·have hz:z=r∧¬ wi r t2:=by
    rcases h2 with ⟨g',hg,h,rfl⟩ | ⟨_,k,h⟩
    ·exact (g2 ⟨f ++ g',hf.app hg,by rw [h];simp⟩).elim
    ·exact ⟨h,k⟩
   obtain ⟨rfl,hz⟩:=hz
   refine ⟨z,.inr ⟨fun w=>g1 (w.trans (wi.mk hf)),fun w=>?_,rfl⟩,.inr ⟨g1,g2,rfl⟩⟩
   rcases e2 with ⟨h,h0,hh,rfl,rfl⟩ | ⟨k1,k2,rfl⟩
   ·exact g1 (w.trans (wi.mk hh))
   ·exact hz w
 ·
  rcases e2 with ⟨h,h0,hh,rfl,rfl⟩ | ⟨k1,k2,rfl⟩
  ·
   have d3:s1'=s1∧¬ wi s1 s2':=by
    rcases e3 with ⟨f',hf',hs,_⟩ | ⟨k1,k2,k3⟩
    ·exact (v4 ⟨f' ++ h,hf'.app hh,by rw [hs];simp⟩).elim
    ·exact ⟨k3,k1⟩
   have d4:t1'=t1:=by
    rcases e4 with ⟨h',_,ht,hs,_⟩ | ⟨_,_,k3⟩
    ·exact (v3 ⟨h' ++ h,ht.app hh,by rw [hs];simp⟩).elim
    ·exact k3
   obtain ⟨rfl,d3⟩:=d3
   subst d4
   rcases h1 with ⟨e,he,rfl,rfl⟩ | ⟨g1,g2,rfl⟩
   ·have hq:¬ wi (s1' ++ e) s2':=fun w=>by
     rcases w.chain (wi.mk he) with w | w
     ·exact b2 w
     ·exact d3 w
    have hz:z=t1' ++ e∧¬ wi (t1' ++ e) (t1' ++ h):=by
     rcases h2 with ⟨g',hg,hs,rfl⟩ | ⟨_,k,hs⟩
     ·rcases (wi.mk (p:=t1') he).chain ⟨g',hg,hs⟩ with w | w
      ·exact (v3 ((wi.mk hh).trans w)).elim
      ·exact (b1 w).elim
     ·exact ⟨hs,k⟩
    obtain ⟨rfl,hz⟩:=hz
    refine ⟨s1' ++ e,.inr ⟨hq,fun w=>?_,rfl⟩,.inl ⟨e,he,rfl,rfl⟩⟩
    obtain ⟨g,hg,hx⟩:=w
    exact hz ⟨g,hg,by simpa [List.append_assoc] using hx⟩
   ·rcases h2 with ⟨g,hg,rfl,rfl⟩ | ⟨k1,k2,rfl⟩
    ·exact ⟨(s1' ++ h) ++ g,.inl ⟨g,hg,rfl,rfl⟩,.inl ⟨h ++ g,hh.app hg,by simp,by simp⟩⟩
    ·exact ⟨z,.inr ⟨k1,fun w=>g1 (w.trans (wi.mk hh)),rfl⟩,.inr ⟨g1,g2,rfl⟩⟩
  ·
   have m2:¬ wi t2' s1:=n2 rfl k2
   have m1:¬ wi t2' t1:=n1 k1
   have y1:¬ sw t1 s2'→¬ wi t1 s2':=fun k w=>by
    rcases w.eq_or with w | w
    ·exact x1 w
    ·exact k w
   rcases h1 with ⟨e,he,rfl,rfl⟩ | ⟨g1,g2,rfl⟩
   ·have hz:z=t1' ++ e:=by
     rcases e4 with ⟨h',_,ht,rfl,rfl⟩ | ⟨k3,_,rfl⟩
     ·exact Mv.uniq h2 (.inl ⟨h' ++ e,ht.app he,by simp,by simp⟩)
     ·have hn:¬ wi (t1' ++ e) s2':=fun w=>by
       rcases w.chain (wi.mk he) with w | w
       ·exact b1 w
       ·exact y1 k3 w
      rcases h2 with ⟨g,hg,h,_⟩ | ⟨_,_,h⟩
      ·exact (hn ⟨g,hg,h⟩).elim
      ·exact h
    subst hz
    rcases e3 with ⟨f',hf',rfl,rfl⟩ | ⟨k3,k4,rfl⟩
    ·exact ⟨t2' ++ f' ++ e,.inl ⟨f' ++ e,hf'.app he,by simp,by simp⟩,.inl ⟨e,he,rfl,rfl⟩⟩
    ·refine ⟨s1' ++ e,.inr ⟨fun w=>?_,fun w=>?_,rfl⟩,.inl ⟨e,he,rfl,rfl⟩⟩
     ·rcases w.chain (wi.mk he) with w | w
      ·exact b2 w
      ·exact k3 w
     ·rcases w.chain (wi.mk he) with w | w
      ·exact m2 w
      ·exact k4 w
   ·rcases h2 with ⟨g,hg,rfl,rfl⟩ | ⟨c1,c2,rfl⟩
    ·refine ⟨t2' ++ g,.inl ⟨g,hg,rfl,rfl⟩,.inr ⟨fun w=>?_,fun w=>?_,rfl⟩⟩
     ·rcases e3 with ⟨f',hf',rfl,rfl⟩ | ⟨k3,k4,rfl⟩
      ·obtain ⟨k,hk,hx⟩:=w
       exact g1 ⟨k,hk,by have :g=f' ++ k:=by simpa [List.append_assoc] using hx
                         rw [this];simp⟩
      ·rcases w.chain (wi.mk hg) with w | w
       ·exact k4 w
       ·exact m2 w
     ·rcases e4 with ⟨h',_,ht,rfl,rfl⟩ | ⟨k3,k4,rfl⟩
      ·obtain ⟨k,hk,hx⟩:=w
       exact g2 ⟨k,hk,by have :g=h' ++ k:=by simpa [List.append_assoc] using hx
                         rw [this];simp⟩
      ·rcases w.chain (wi.mk hg) with w | w
       ·rcases w.eq_or with w | w
        ·exact x3 w
        ·exact k4 w
       ·exact m1 w
    ·refine ⟨z,.inr ⟨c1,c2,rfl⟩,.inr ⟨fun w=>?_,fun w=>?_,rfl⟩⟩
     ·rcases e3 with ⟨f',hf',rfl,rfl⟩ | ⟨k3,k4,rfl⟩
      ·exact c2 (w.trans (wi.mk hf'))
      ·exact g1 w
     ·rcases e4 with ⟨h',_,ht,rfl,rfl⟩ | ⟨k3,k4,rfl⟩
      ·exact c2 (w.trans (wi.mk ht))
      ·exact g2 w
end
end Pa
end Go.Proofs.YtlbhaimfjfdppaaGreatDoor
namespace Go.Proofs.YtlbhaimfjfdppaaGreatDoor
namespace Pa
abbrev L (s:ByteArray):List UInt8:=s.data.toList
theorem L_inj {s t:ByteArray} (h:L s=L t):s=t:=ByteArray.ext (Array.toList_inj.1 h)
theorem below_iff {s p:ByteArray}:Qm.below s p=true ↔ sw (L s) (L p):=by
 unfold Qm.below Lib.hasPrefix
 rw [List.isPrefixOf_iff_prefix]
 constructor
 ·rintro ⟨x,hx⟩
  exact ⟨47 :: x,by simp,.inr ⟨x,rfl⟩,by show s.data.toList=_;rw [← hx];simp⟩
 ·rintro ⟨e,h0,he,hx⟩
  rcases he with rfl | ⟨t,rfl⟩
  ·exact (h0 rfl).elim
  ·exact ⟨t,by rw [show s.data.toList=_ from hx];simp⟩
theorem within_iff {s p:ByteArray}:Qm.within s p=true ↔ wi (L s) (L p):=by
 unfold Qm.within
 rw [Bool.or_eq_true,Qm.eqB_iff,below_iff]
 constructor
 ·rintro (rfl | h)
  ·exact wi.refl _
  ·exact h.wi
 ·intro h
  rcases h.eq_or with h | h
  ·exact .inl (L_inj h)
  ·exact .inr h
theorem L_get {s:ByteArray} {j:Nat} (h:j < s.size):(L s)[j]?=some (s.data[j]!):=by
 have h':j < s.data.size:=h
 rw [getElem!_pos s.data j h']
 simp [L,h']
theorem byte_eq {x:UInt8}:((x.toNat:Int)=47) ↔ x=47:=by
 constructor
 ·intro h
  have h2:x.toNat=(47:UInt8).toNat:=by simpa using Int.ofNat.inj h
  exact UInt8.toNat_inj.1 h2
 ·rintro rfl
  rfl
theorem last_slash (s:ByteArray):(Lib.lastIndexByte s 47 < 0∧47 ∉ L s)∨(∃ (i:Nat) (name:List UInt8),Lib.lastIndexByte s 47=i∧i < s.size∧L s=(L s).take i ++ 47 :: name∧47 ∉ name∧(L s).drop i=47 :: name):=by
 rcases Lib.lastIndexByte_spec s 47 with ⟨h,hn⟩ | ⟨i,hi,h,hc,hn⟩
 ·refine .inl ⟨by omega,fun hm=>?_⟩
  obtain ⟨j,hj,hx⟩:=List.mem_iff_getElem.1 hm
  have hj':j < s.size:=hj
  have h1:=L_get hj'
  rw [List.getElem?_eq_getElem hj,hx] at h1
  exact hn j hj' (byte_eq.2 (Option.some.inj h1).symm)
 ·have hi':i < (L s).length:=hi
  have h1:=L_get hi
  have hx:(L s)[i]=47:=by
   rw [List.getElem?_eq_getElem hi'] at h1
   rw [Option.some.inj h1]
   exact byte_eq.1 hc
  have hd:(L s).drop i=47 :: (L s).drop (i+1):=by rw [List.drop_eq_getElem_cons hi',hx]
  refine .inr ⟨i,(L s).drop (i+1),h,hi,?_,fun hm=>?_,hd⟩
  ·rw [← hd,List.take_append_drop]
  ·obtain ⟨j,hj,hy⟩:=List.mem_iff_getElem.1 hm
   rw [List.length_drop] at hj
   rw [List.getElem_drop] at hy
   have hj':i+1+j < s.size:=by have :(L s).length=s.size:=rfl;omega
   have h2:=L_get hj'
   rw [List.getElem?_eq_getElem (by have :(L s).length=s.size:=rfl;omega),hy] at h2
   exact hn (i+1+j) (by omega) hj' (byte_eq.2 (Option.some.inj h2).symm)
end Pa
end Go.Proofs.YtlbhaimfjfdppaaGreatDoor
namespace Go.Proofs.YtlbhaimfjfdppaaGreatDoor
open Go.RowKit Pa
end Go.Proofs.YtlbhaimfjfdppaaGreatDoor
namespace Go.Proofs.YtlbhaimfjfdppaaGreatDoor
open Go.RowKit Pa
def Cross (p l1 l2 q m1 m2 q' p':Int):Prop:=(p+l2 < q∧q'=q - (l2 - l1)∧p'=p)∨(q+m1 < p∧¬ p+l2 < q∧q'=q∧p'=p+(m2 - m1))
theorem check_move {q:Qp} (h:q.check=0) (hk:q.kind=5):¬ wi (L q.path) (L q.to_)∧¬ wi (L q.to_) (L q.path):=by
 unfold Qp.check Pv.check at h
 split at h
 ·cases h
 split at h
 ·cases h
 split at h
 ·cases h
 unfold Pv.actCheck at h
 rw [if_neg (by show ¬ (q.kind=1∨q.kind=3);omega),if_neg (by show ¬ (q.kind=2∨q.kind=4);omega),if_pos (by exact hk)] at h
 unfold Pv.movCheck at h
 split at h
 ·cases h
 rename_i hn
 simp only [not_or] at hn
 obtain ⟨h1,h2,h3⟩:=hn
 constructor
 ·intro w
  rcases w.eq_or with w | w
  ·exact h1 (Qm.eqB_iff.2 (L_inj w).symm)
  ·exact h3 (below_iff.2 w)
 ·intro w
  rcases w.eq_or with w | w
  ·exact h1 (Qm.eqB_iff.2 (L_inj w))
  ·exact h2 (below_iff.2 w)
end Go.Proofs.YtlbhaimfjfdppaaGreatDoor
namespace Go.Proofs.YtlbhaimfjfdppaaGreatDoor
open Go.RowKit Pa
theorem places {P Q R:Prop} {A B C a1 b1 c1 a2 b2 c2 x1 y1 x2 z1 y2 z2:Int} {l1 l2 m1 m2 n1 n2:Nat} (t1:P→Q→R) (t2:P→R→Q) (t3:Q→R→P)
 (e1:P→Cross A l1 l2 B m1 m2 b1 a1) (f1:¬ P→b1=B∧a1=A) (e2:Q→Cross a1 l1 l2 C n1 n2 c1 a2) (f2:¬ Q→c1=C∧a2=a1) (e3:R→Cross b1 m1 m2 c1 n1 n2 c2 b2) (f3:¬ R→c2=c1∧b2=b1)
 (e4:R→Cross B m1 m2 C n1 n2 x1 y1) (f4:¬ R→x1=C∧y1=B) (e5:Q→Cross A l1 l2 x1 n1 n2 x2 z1) (f5:¬ Q→x2=x1∧z1=A) (e6:P→Cross z1 l1 l2 y1 m1 m2 y2 z2) (f6:¬ P→y2=y1∧z2=z1):
 c2=x2∧b2=y2∧a2=z2:=by
 by_cases p:P <;> by_cases q:Q <;> by_cases r:R
 ·have e1:=e1 p
  have e2:=e2 q
  have e3:=e3 r
  have e4:=e4 r
  have e5:=e5 q
  have e6:=e6 p
  unfold Cross at e1 e2 e3 e4 e5 e6
  rcases e1 with e1 | e1 <;> rcases e4 with e4 | e4 <;> rcases e2 with e2 | e2 <;> rcases e3 with e3 | e3 <;> rcases e5 with e5 | e5 <;> rcases e6 with e6 | e6 <;> omega
 ·exact (r (t1 p q)).elim
 ·exact (q (t2 p r)).elim
 ·have e1:=e1 p
  have e6:=e6 p
  have f2:=f2 q
  have f3:=f3 r
  have f4:=f4 r
  have f5:=f5 q
  unfold Cross at e1 e6
  omega
 ·exact (p (t3 q r)).elim
 ·have e2:=e2 q
  have e5:=e5 q
  have f1:=f1 p
  have f3:=f3 r
  have f4:=f4 r
  have f6:=f6 p
  unfold Cross at e2 e5
  omega
 ·have e3:=e3 r
  have e4:=e4 r
  have f1:=f1 p
  have f2:=f2 q
  have f5:=f5 q
  have f6:=f6 p
  unfold Cross at e3 e4
  omega
 ·have f1:=f1 p
  have f2:=f2 q
  have f3:=f3 r
  have f4:=f4 r
  have f5:=f5 q
  have f6:=f6 p
  omega
end Go.Proofs.YtlbhaimfjfdppaaGreatDoor
namespace Go.Proofs.YtlbhaimfjfdppaaGreatDoor
open Go.RowKit Pa
theorem empty_list {s:ByteArray} (h:s.toList.isEmpty=true):s=⟨#[]⟩:=by
 have hs:=size_of_empty h
 refine L_inj ?_
 exact List.length_eq_zero_iff.1 hs
structure Qp.Lean' (q:Qp):Prop where
 to_:q.kind≠5→q.to_=⟨#[]⟩
 ty:q.kind≠1→q.kind≠2→q.ty=0
 at_:q.kind≠6→q.at_=0
 old:q.kind≠6→q.old=[]
 new:q.kind≠6→q.new=[]
 off:q.kind≠7→q.off=0
 so:q.kind≠2→q.kind≠7→q.so=⟨#[]⟩
 sn:q.kind≠1→q.kind≠7→q.sn=⟨#[]⟩
 om:q.kind≠2→q.kind≠8→q.om=0
 nm:q.kind≠1→q.kind≠8→q.nm=0
theorem check_parts {q:Qp} (h:q.check=0):(1≤q.kind∧q.kind≤8)∧(q.pv none 0 none 0).tidy=true∧(q.pv none 0 none 0).pathsOk=true∧(q.pv none 0 none 0).actCheck q.old q.new=0:=by
 unfold Qp.check Pv.check at h
 cases hk:(q.pv none 0 none 0).known
 ·rw [if_pos hk] at h;cases h
 rw [if_neg (by rw [hk];exact Bool.noConfusion)] at h
 cases ht:(q.pv none 0 none 0).tidy
 ·rw [if_pos ht] at h;cases h
 rw [if_neg (by rw [ht];exact Bool.noConfusion)] at h
 cases hp:(q.pv none 0 none 0).pathsOk
 ·rw [if_pos hp] at h;cases h
 rw [if_neg (by rw [hp];exact Bool.noConfusion)] at h
 exact ⟨by simpa [Pv.known] using hk,rfl,rfl,h⟩
theorem check_of_parts {q:Qp} (hk:1≤q.kind∧q.kind≤8) (ht:(q.pv none 0 none 0).tidy=true) (hp:(q.pv none 0 none 0).pathsOk=true) (h:(q.pv none 0 none 0).actCheck q.old q.new=0):q.check=0:=by
 unfold Qp.check Pv.check
 have hk':(q.pv none 0 none 0).known=true:=by simpa [Pv.known] using hk
 rw [if_neg (by rw [hk'];exact Bool.noConfusion),if_neg (by rw [ht];exact Bool.noConfusion),if_neg (by rw [hp];exact Bool.noConfusion)]
 exact h
theorem check_lean {q:Qp} (h:q.check=0):q.Lean':=by
 have ht:=(check_parts h).2.1
 unfold Pv.tidy Pv.strip at ht
 have fin:∀ {n m:Nat},(n:Int)+m=0→n=0∧m=0:=fun h=>by omega
 by_cases k1:q.kind=1
 ·rw [if_pos (by exact k1)] at ht
  simp only [Pv.bare,Bool.and_eq_true,beq_iff_eq] at ht
  obtain ⟨⟨⟨⟨⟨⟨⟨⟨t1,t2⟩,t3⟩,t4⟩,t5⟩,t6⟩,t7⟩,t8⟩,t9⟩:=ht
  have f:=fin t4
  exact ⟨fun _=>empty_list t1,fun h=>(h k1).elim,fun _=>t3,fun _=>List.length_eq_zero_iff.1 f.1,fun _=>List.length_eq_zero_iff.1 f.2,fun _=>t5,fun _ _=>empty_list t6,fun h=>(h k1).elim,fun _ _=>t8,fun h=>(h k1).elim⟩
 rw [if_neg (by exact k1)] at ht
 by_cases k2:q.kind=2
 ·rw [if_pos (by exact k2)] at ht
  simp only [Pv.bare,Bool.and_eq_true,beq_iff_eq] at ht
  obtain ⟨⟨⟨⟨⟨⟨⟨⟨t1,t2⟩,t3⟩,t4⟩,t5⟩,t6⟩,t7⟩,t8⟩,t9⟩:=ht
  have f:=fin t4
  exact ⟨fun _=>empty_list t1,fun _ h=>(h k2).elim,fun _=>t3,fun _=>List.length_eq_zero_iff.1 f.1,fun _=>List.length_eq_zero_iff.1 f.2,fun _=>t5,fun h=>(h k2).elim,fun _ _=>empty_list t7,fun h=>(h k2).elim,fun _ _=>t9⟩
 rw [if_neg (by exact k2)] at ht
 by_cases k5:q.kind=5
 ·rw [if_pos (by exact k5)] at ht
  simp only [Pv.bare,Bool.and_eq_true,beq_iff_eq] at ht
  obtain ⟨⟨⟨⟨⟨⟨⟨⟨t1,t2⟩,t3⟩,t4⟩,t5⟩,t6⟩,t7⟩,t8⟩,t9⟩:=ht
  have f:=fin t4
  exact ⟨fun h=>(h k5).elim,fun _ _=>t2,fun _=>t3,fun _=>List.length_eq_zero_iff.1 f.1,fun _=>List.length_eq_zero_iff.1 f.2,fun _=>t5,fun _ _=>empty_list t6,fun _ _=>empty_list t7,fun _ _=>t8,fun _ _=>t9⟩
 rw [if_neg (by exact k5)] at ht
 by_cases k6:q.kind=6
 ·rw [if_pos (by exact k6)] at ht
  simp only [Pv.bare,Bool.and_eq_true,beq_iff_eq] at ht
  obtain ⟨⟨⟨⟨⟨⟨⟨⟨t1,t2⟩,t3⟩,t4⟩,t5⟩,t6⟩,t7⟩,t8⟩,t9⟩:=ht
  exact ⟨fun _=>empty_list t1,fun _ _=>t2,fun h=>(h k6).elim,fun h=>(h k6).elim,fun h=>(h k6).elim,fun _=>t5,fun _ _=>empty_list t6,fun _ _=>empty_list t7,fun _ _=>t8,fun _ _=>t9⟩
 rw [if_neg (by exact k6)] at ht
 by_cases k7:q.kind=7
 ·rw [if_pos (by exact k7)] at ht
  simp only [Pv.bare,Bool.and_eq_true,beq_iff_eq] at ht
  obtain ⟨⟨⟨⟨⟨⟨⟨⟨t1,t2⟩,t3⟩,t4⟩,t5⟩,t6⟩,t7⟩,t8⟩,t9⟩:=ht
  have f:=fin t4
  exact ⟨fun _=>empty_list t1,fun _ _=>t2,fun _=>t3,fun _=>List.length_eq_zero_iff.1 f.1,fun _=>List.length_eq_zero_iff.1 f.2,fun h=>(h k7).elim,fun _ h=>(h k7).elim,fun _ h=>(h k7).elim,fun _ _=>t8,fun _ _=>t9⟩
 rw [if_neg (by exact k7)] at ht
 by_cases k8:q.kind=8
 ·rw [if_pos (by exact k8)] at ht
  simp only [Pv.bare,Bool.and_eq_true,beq_iff_eq] at ht
  obtain ⟨⟨⟨⟨⟨⟨⟨⟨t1,t2⟩,t3⟩,t4⟩,t5⟩,t6⟩,t7⟩,t8⟩,t9⟩:=ht
  have f:=fin t4
  exact ⟨fun _=>empty_list t1,fun _ _=>t2,fun _=>t3,fun _=>List.length_eq_zero_iff.1 f.1,fun _=>List.length_eq_zero_iff.1 f.2,fun _=>t5,fun _ _=>empty_list t6,fun _ _=>empty_list t7,fun _ h=>(h k8).elim,fun _ h=>(h k8).elim⟩
 rw [if_neg (by exact k8)] at ht
 simp only [Pv.bare,Bool.and_eq_true,beq_iff_eq] at ht
 obtain ⟨⟨⟨⟨⟨⟨⟨⟨t1,t2⟩,t3⟩,t4⟩,t5⟩,t6⟩,t7⟩,t8⟩,t9⟩:=ht
 have f:=fin t4
 exact ⟨fun _=>empty_list t1,fun _ _=>t2,fun _=>t3,fun _=>List.length_eq_zero_iff.1 f.1,fun _=>List.length_eq_zero_iff.1 f.2,fun _=>t5,fun _ _=>empty_list t6,fun _ _=>empty_list t7,fun _ _=>t8,fun _ _=>t9⟩
theorem inv_inv {q:Qp} (h:q.check=0):q.inv.inv=q:=by
 have l:=check_lean h
 obtain ⟨g1,g2,g3,g4,g5,g6,g7,g8,g9,g10⟩:=l
 have hk:=(check_parts h).1
 cases q
 rename_i kind path to_ ty at_ old new off so sn om nm
 dsimp only at *
 unfold Qp.inv
 by_cases k1:kind=1
 ·subst k1;simp_all [Qp.zero]
 by_cases k2:kind=2
 ·subst k2;simp_all [Qp.zero]
 by_cases k3:kind=3
 ·subst k3;simp_all [Qp.zero]
 by_cases k4:kind=4
 ·subst k4;simp_all [Qp.zero]
 by_cases k5:kind=5
 ·subst k5;simp_all [Qp.zero]
 simp [k1,k2,k3,k4,k5]
theorem empty_isEmpty:(⟨#[]⟩:ByteArray).toList.isEmpty=true:=by rw [ByteArray.toList_eq];rfl
theorem path_ok {q:Qp} (h:(q.pv none 0 none 0).pathsOk=true):Qm.isPath q.path=true∧(q.kind=5→Qm.isPath q.to_=true):=by
 unfold Pv.pathsOk at h
 rw [Bool.and_eq_true] at h
 refine ⟨h.1,fun hk=>?_⟩
 have h2:=h.2
 have e5:(q.kind == 5)=true:=by simpa using hk
 rw [e5] at h2
 simpa using h2
theorem paths_ok {q:Qp} (h1:Qm.isPath q.path=true) (h2:q.kind=5→Qm.isPath q.to_=true):(q.pv none 0 none 0).pathsOk=true:=by
 unfold Pv.pathsOk
 rw [Bool.and_eq_true]
 refine ⟨h1,?_⟩
 by_cases hk:q.kind=5
 ·simp [h2 hk]
 ·simp [hk]
theorem inv_check {q:Qp} (h:q.check=0):q.inv.check=0:=by
 have l:=check_lean h
 obtain ⟨hk,ht,hp,ha⟩:=check_parts h
 obtain ⟨p1,p2⟩:=path_ok hp
 have e0:=empty_isEmpty
 unfold Pv.actCheck at ha
 by_cases k1:q.kind=1
 ·have ei:q.inv={ Qp.zero with kind:=2,path:=q.path,ty:=q.ty,om:=q.nm,so:=q.sn }:=by unfold Qp.inv;rw [if_pos k1]
  rw [if_pos (by exact .inl k1)] at ha
  unfold Pv.addCheck at ha
  rw [if_neg (by show ¬ q.kind=3;omega)] at ha
  rw [ei]
  refine check_of_parts ⟨by simp,by simp⟩ (by simp [Pv.tidy,Pv.strip,Pv.bare,Qp.zero,e0]) (paths_ok p1 (fun h=>by simp at h)) ?_
  unfold Pv.actCheck Pv.remCheck
  rw [if_neg (by simp),if_pos (by simp),if_neg (by simp)]
  exact ha
 by_cases k3:q.kind=3
 ·have ei:q.inv={ Qp.zero with kind:=4,path:=q.path }:=by unfold Qp.inv;rw [if_neg k1,if_pos k3]
  rw [ei]
  refine check_of_parts ⟨by simp,by simp⟩ (by simp [Pv.tidy,Pv.strip,Pv.bare,Qp.zero,e0]) (paths_ok p1 (fun h=>by simp at h)) ?_
  unfold Pv.actCheck Pv.remCheck
  rw [if_neg (by simp),if_pos (by simp),if_pos (by simp)]
 rw [if_neg (by show ¬ (q.kind=1∨q.kind=3);omega)] at ha
 by_cases k2:q.kind=2
 ·have ei:q.inv={ Qp.zero with kind:=1,path:=q.path,ty:=q.ty,nm:=q.om,sn:=q.so }:=by unfold Qp.inv;rw [if_neg k1,if_neg k3,if_pos k2]
  rw [if_pos (by exact .inl k2)] at ha
  unfold Pv.remCheck at ha
  rw [if_neg (by show ¬ q.kind=4;omega)] at ha
  rw [ei]
  refine check_of_parts ⟨by simp,by simp⟩ (by simp [Pv.tidy,Pv.strip,Pv.bare,Qp.zero,e0]) (paths_ok p1 (fun h=>by simp at h)) ?_
  unfold Pv.actCheck Pv.addCheck
  rw [if_pos (by simp),if_neg (by simp)]
  exact ha
 by_cases k4:q.kind=4
 ·have ei:q.inv={ Qp.zero with kind:=3,path:=q.path }:=by unfold Qp.inv;rw [if_neg k1,if_neg k3,if_neg k2,if_pos k4]
  rw [ei]
  refine check_of_parts ⟨by simp,by simp⟩ (by simp [Pv.tidy,Pv.strip,Pv.bare,Qp.zero,e0]) (paths_ok p1 (fun h=>by simp at h)) ?_
  unfold Pv.actCheck Pv.addCheck
  rw [if_pos (by simp),if_pos (by simp)]
 rw [if_neg (by show ¬ (q.kind=2∨q.kind=4);omega)] at ha
 by_cases k5:q.kind=5
 ·have ei:q.inv={ Qp.zero with kind:=5,path:=q.to_,to_:=q.path }:=by unfold Qp.inv;rw [if_neg k1,if_neg k3,if_neg k2,if_neg k4,if_pos k5]
  rw [if_pos (by exact k5)] at ha
  rw [ei]
  refine check_of_parts ⟨by simp,by simp⟩ (by simp [Pv.tidy,Pv.strip,Pv.bare,Qp.zero,e0]) (paths_ok (p2 k5) (fun _=>p1)) ?_
  unfold Pv.actCheck
  rw [if_neg (by simp),if_neg (by simp),if_pos (by simp)]
  unfold Pv.movCheck at ha ⊢
  split at ha
  ·cases ha
  rename_i hn
  rw [if_neg]
  rintro (w | w | w)
  ·exact hn (.inl (Qm.eqB_iff.2 (Qm.eqB_iff.1 w).symm))
  ·exact hn (.inr (.inr w))
  ·exact hn (.inr (.inl w))
 rw [if_neg (by exact k5)] at ha
 have ei:q.inv={ q with old:=q.new,new:=q.old,so:=q.sn,sn:=q.so,om:=q.nm,nm:=q.om }:=by unfold Qp.inv;rw [if_neg k1,if_neg k3,if_neg k2,if_neg k4,if_neg k5]
 obtain ⟨g1,g2,g3,g4,g5,g6,g7,g8,g9,g10⟩:=l
 rw [ei]
 refine check_of_parts hk ?_ (paths_ok p1 p2) ?_
 ·have c1:=g1 k5
  have c2:=g2 k1 k2
  by_cases k6:q.kind=6
  ·simp [Pv.tidy,Pv.strip,Pv.bare,k6,c1,c2,g6 (by omega),g7 k2 (by omega),g8 k1 (by omega),g9 k2 (by omega),g10 k1 (by omega),e0]
  by_cases k7:q.kind=7
  ·simp [Pv.tidy,Pv.strip,Pv.bare,k7,c1,c2,g3 k6,g4 k6,g5 k6,g9 k2 (by omega),g10 k1 (by omega),e0]
  have k8:q.kind=8:=by omega
  simp [Pv.tidy,Pv.strip,Pv.bare,k8,c1,c2,g3 k6,g4 k6,g5 k6,g6 k7,g7 k2 k7,g8 k1 k7,e0]
 ·unfold Pv.actCheck
  rw [if_neg (by show ¬ (q.kind=1∨q.kind=3);omega),if_neg (by show ¬ (q.kind=2∨q.kind=4);omega),if_neg (by exact k5)]
  unfold Pv.edCheck6 at ha ⊢
  by_cases k6:q.kind=6
  ·rw [if_pos (by exact k6)] at ha ⊢
   unfold Pv.linesCheck at ha ⊢
   split at ha
   ·rename_i h6;exact (h6 ha).elim
   rename_i h6
   split at ha
   ·cases ha
   rename_i h7
   split at ha
   ·cases ha
   rename_i h8
   split at ha
   ·cases ha
   rename_i h9
   have hh:Hv.check (Pv.hunk (Qp.pv { q with old:=q.new,new:=q.old,so:=q.sn,sn:=q.so,om:=q.nm,nm:=q.om } none 0 none 0))=0:=by
    simp only [ne_eq,Decidable.not_not] at h6
    unfold Hv.check Pv.hunk at h6 ⊢
    dsimp only at h6 ⊢
    split at h6
    ·cases h6
    rename_i c1
    rw [if_neg c1]
    split at h6
    ·cases h6
    rename_i c2
    rw [if_neg (by omega)]
   rw [if_neg (by rw [hh];simp),if_neg (by dsimp only at h7 ⊢;omega),if_neg ?_,if_neg (fun e=>h9 e.symm)]
   rw [List.all_append,Bool.and_comm,← List.all_append]
   exact h8
  ·rw [if_neg (by exact k6)] at ha ⊢
   unfold Pv.edCheck at ha ⊢
   dsimp only at ha ⊢
   by_cases k7:q.kind=7
   ·rw [if_pos k7] at ha ⊢
    split at ha
    ·cases ha
    rename_i c1
    rw [if_neg c1]
    split at ha
    ·cases ha
    rename_i c2
    rw [if_neg (by omega)]
    split at ha
    ·cases ha
    rename_i c3
    rw [if_neg (fun w=>c3 (Qm.eqB_iff.2 (Qm.eqB_iff.1 w).symm))]
   ·rw [if_neg k7] at ha ⊢
    split at ha
    ·cases ha
    rename_i c1
    rw [if_neg (by omega)]
    split at ha
    ·cases ha
    rename_i c2
    rw [if_neg (fun w=>c2 w.symm)]
end Go.Proofs.YtlbhaimfjfdppaaGreatDoor
