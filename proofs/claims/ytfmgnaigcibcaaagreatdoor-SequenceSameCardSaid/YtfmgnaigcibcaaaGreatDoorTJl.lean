import Derived.Test.YtfmgnaigcibcaaaGreatDoorTQe
set_option linter.unusedSimpArgs false
set_option linter.unusedVariables false
namespace Go.Proofs.YtfmgnaigcibcaaaGreatDoor
namespace Pa
def Af (k:Int) (p t u v:List UInt8):Prop:=if k=5 then Mv p t u v else v=u∧(if k≤4 then ¬ wi u p else ¬ sw u p)
def Na (k:Int) (p t u v:List UInt8):Prop:=if k=5 then Nv p t u v else v=u∧¬ sw u p
theorem not_wi {s p:ByteArray}:(!Qm.within s p)=true ↔ ¬ wi (L s) (L p):=by
 rw [Bool.not_eq_true',← within_iff]
 simp
theorem not_sw {s p:ByteArray}:(!Qm.below s p)=true ↔ ¬ sw (L s) (L p):=by
 rw [Bool.not_eq_true',← below_iff]
 simp
theorem after_iff {k:Int} {path to_ s v:ByteArray} (hk:1≤k∧k≤8):Qm.after k path to_ s=(v,true) ↔ Af k (L path) (L to_) (L s) (L v):=by
 unfold Af
 by_cases h5:k=5
 ·subst h5
  rw [if_pos rfl]
  constructor
  ·intro h
   have:=after_move (path:=path) (to_:=to_) (s:=s) (by rw [h])
   rwa [h] at this
  ·intro h
   unfold Qm.after
   rw [if_neg (by decide),if_pos (by decide)]
   rcases h with ⟨e,he,hu,hv⟩ | ⟨h1,h2,h3⟩
   ·rw [if_pos (within_iff.2 ⟨e,he,hu⟩)]
    refine Prod.ext (L_inj ?_) rfl
    show L (to_ ++ s.extract path.size s.size)=_
    rw [L_append,L_extract,hu,hv]
    have hl:(L path).length=path.size:=rfl
    have hs:s.size=(L path ++ e).length:=by rw [← hu];rfl
    rw [hs,List.take_length,← hl,List.drop_left]
   ·rw [if_neg (fun w=>h1 (within_iff.1 w))]
    exact Prod.ext (L_inj h3.symm) (not_wi.2 h2)
 ·rw [if_neg h5]
  by_cases h4:k≤4
  ·rw [if_pos h4]
   unfold Qm.after
   rw [if_pos (by simp;omega)]
   constructor
   ·intro h
    obtain ⟨rfl,h2⟩:=Prod.mk.inj h
    exact ⟨rfl,not_wi.1 h2⟩
   ·rintro ⟨h1,h2⟩
    exact Prod.ext (L_inj h1.symm) (not_wi.2 h2)
  ·rw [if_neg h4]
   unfold Qm.after
   rw [if_neg (by simp;omega),if_neg (by simp;omega)]
   constructor
   ·intro h
    obtain ⟨rfl,h2⟩:=Prod.mk.inj h
    exact ⟨rfl,not_sw.1 h2⟩
   ·rintro ⟨h1,h2⟩
    exact Prod.ext (L_inj h1.symm) (not_sw.2 h2)
theorem sw_iff_par {par name p:List UInt8} (hn:47 ∉ name):sw (par ++ 47 :: name) p ↔ wi par p:=by
 constructor
 ·intro h
  obtain ⟨c,hc,he,_⟩:=sw_par hn h
  exact ⟨c,hc,he⟩
 ·rintro ⟨e,he,rfl⟩
  exact ⟨e ++ 47 :: name,by simp,he.app (.inr ⟨name,rfl⟩),by simp⟩
theorem newAfter_iff {k:Int} {path to_ s v:ByteArray} (hk:1≤k∧k≤8):Qm.newAfter k path to_ s=(v,true) ↔ Na k (L path) (L to_) (L s) (L v):=by
 unfold Qm.newAfter Na
 by_cases hb:(decide (6≤k) && Qm.below s path)=true
 ·rw [if_pos hb]
  rw [Bool.and_eq_true,decide_eq_true_eq] at hb
  rw [if_neg (by omega)]
  constructor
  ·intro h
   cases (Prod.mk.inj h).2
  ·rintro ⟨_,h⟩
   exact (h (below_iff.1 hb.2)).elim
 rw [if_neg hb]
 rcases last_slash s with ⟨h0,hn⟩ | ⟨i,name,hi,hlt,hs,hn,hd⟩
 ·rw [if_pos h0]
  by_cases h5:k=5
  ·rw [if_pos h5]
   constructor
   ·intro h
    rw [(Prod.mk.inj h).1]
    exact (nv_none (by rw [← (Prod.mk.inj h).1];exact hn)).2 rfl
   ·intro h
    exact Prod.ext (L_inj ((nv_none hn).1 h).symm) rfl
  ·rw [if_neg h5]
   constructor
   ·intro h
    rw [← (Prod.mk.inj h).1]
    exact ⟨rfl,fun h=>hn (sw_slash h)⟩
   ·rintro ⟨h1,_⟩
    exact Prod.ext (L_inj h1.symm) rfl
 ·rw [if_neg (by omega),hi]
  dsimp only [Int.toNat_natCast]
  have hp:L (s.extract 0 i)=(L s).take i:=by rw [L_extract];rfl
  have hr:L (s.extract i s.size)=47 :: name:=by
   rw [L_extract,← hd]
   congr 1
   exact List.take_length (l:=L s)
  have hsp:L s=L (s.extract 0 i) ++ 47 :: name:=by rw [hp];exact hs
  have key:∀ x,((Qm.after k path to_ (s.extract 0 i)).1 ++ s.extract i s.size,(Qm.after k path to_ (s.extract 0 i)).2)=(x,true) ↔ ∃ m,Af k (L path) (L to_) (L (s.extract 0 i)) (L m)∧L x=L m ++ 47 :: name:=by
   intro x
   constructor
   ·intro h
    obtain ⟨h1,h2⟩:=Prod.mk.inj h
    refine ⟨_,(after_iff hk).1 (Prod.ext rfl h2),?_⟩
    rw [← h1,L_append,hr]
   ·rintro ⟨m,h1,h2⟩
    rw [(after_iff hk).2 h1]
    refine Prod.ext (L_inj ?_) rfl
    show L (m ++ s.extract i s.size)=_
    rw [L_append,hr,h2]
  rw [key v]
  by_cases h5:k=5
  ·rw [if_pos h5]
   rw [hsp,nv_par hn]
   unfold Af
   simp only [if_pos h5]
   constructor
   ·rintro ⟨m,h1,h2⟩
    exact ⟨L m,h1,h2⟩
   ·rintro ⟨m,h1,h2⟩
    exact ⟨⟨m.toArray⟩,by simpa [L] using h1,by simpa [L] using h2⟩
  ·rw [if_neg h5]
   unfold Af
   simp only [if_neg h5]
   constructor
   ·rintro ⟨m,⟨h1,h2⟩,h3⟩
    refine ⟨by rw [h3,h1,hsp],?_⟩
    by_cases h4:k≤4
    ·rw [if_pos h4] at h2
     rw [hsp,sw_iff_par hn]
     exact h2
    ·intro w
     exact hb (by rw [Bool.and_eq_true,decide_eq_true_eq];exact ⟨by omega,below_iff.2 w⟩)
   ·rintro ⟨h1,h2⟩
    refine ⟨s.extract 0 i,⟨rfl,?_⟩,by rw [h1,hsp]⟩
    rw [hsp,sw_iff_par hn] at h2
    split
    ·exact h2
    ·exact fun w=>h2 w.wi
theorem sw.ne {s p:List UInt8} (h:sw s p):s≠p:=by
 obtain ⟨e,h0,_,h2⟩:=h
 intro k
 rw [k] at h2
 exact h0 (by simpa using h2)
theorem sw.mk {p e:List UInt8} (h:Tl e) (h0:e≠[]):sw (p ++ e) p:=⟨e,h0,h,rfl⟩
theorem not_wi_of {s p:List UInt8} (h:¬ sw s p) (hn:s≠p):¬ wi s p:=fun w=>(w.eq_or).elim hn h
theorem not_sw_of {s p:List UInt8} (h:¬ wi s p):¬ sw s p:=fun w=>h w.wi
theorem turn_new {k:Int} {p t u v:List UInt8} (h:Na k p t u v) (h4:k≤4→u≠p) (h5:k=5→u≠p∧u≠t):Af k p t u v:=by
 unfold Na at h
 unfold Af
 split
 ·rename_i e
  rw [if_pos e] at h
  rcases h with ⟨e',h0,h1,h2,h3⟩ | ⟨h1,h2,h3⟩
  ·exact .inl ⟨e',h1,h2,h3⟩
  ·exact .inr ⟨not_wi_of h1 (h5 e).1,not_wi_of h2 (h5 e).2,h3⟩
 ·rename_i e
  rw [if_neg e] at h
  refine ⟨h.1,?_⟩
  split
  ·rename_i e4
   exact not_wi_of h.2 (h4 e4)
  ·exact h.2
theorem turn_old {k:Int} {p t u v:List UInt8} (h:Af k p t u v) (h5:k=5→u≠p):Na k p t u v:=by
 unfold Af at h
 unfold Na
 split
 ·rename_i e
  rw [if_pos e] at h
  rcases h with ⟨e',h1,h2,h3⟩ | ⟨h1,h2,h3⟩
  ·exact .inl ⟨e',(fun e0=>h5 e (by rw [h2,e0];simp)),h1,h2,h3⟩
  ·exact .inr ⟨not_sw_of h1,not_sw_of h2,h3⟩
 ·rename_i e
  rw [if_neg e] at h
  refine ⟨h.1,?_⟩
  have h2:=h.2
  split at h2
  ·exact not_sw_of h2
  ·exact h2
theorem turn_move {k:Int} {P T p q t:List UInt8} (n1:¬ wi P T) (n2:¬ wi T P) (h5:k≠5) (hq:Mv P T p q∨(Nv P T p q∧q≠T)) {v w:List UInt8} (a:Af k p t P v) (n:Na k p t T w):Af k q t T w∧Na k q t P v:=by
 unfold Af at a ⊢
 unfold Na at n ⊢
 rw [if_neg h5] at a n ⊢
 rw [if_neg h5]
 obtain ⟨rfl,a⟩:=a
 obtain ⟨rfl,n⟩:=n
 have asw:¬ sw v p:=by
  split at a
  ·exact not_sw_of a
  ·exact a
 have key:¬ sw w q∧¬ sw v q∧(k≤4→¬ wi w q):=by
  rcases hq with (⟨e,h1,h2,h3⟩ | ⟨h1,h2,h3⟩) | ⟨(⟨e,h0,h1,h2,h3⟩ | ⟨h1,h2,h3⟩),hne⟩
  ·refine ⟨fun h=>?_,fun h=>?_,fun h4 h=>?_⟩
   ·rw [h3] at h
    by_cases he:e=[]
    ·rw [he,List.append_nil] at h
     exact h.ne rfl
    ·exact app_ne he h.wi
   ·rw [h3] at h
    exact n1 (h.wi.trans (wi.mk h1))
   ·rw [if_pos h4] at a
    rw [h3] at h
    by_cases he:e=[]
    ·rw [he,List.append_nil] at h2
     rw [h2] at a
     exact a (wi.refl _)
    ·exact app_ne he h
  ·rw [h3]
   exact ⟨n,asw,fun _=>not_wi_of n (fun e=>h2 (by rw [e];exact wi.refl _))⟩
  ·rw [h3]
   exact ⟨fun h=>app_ne h0 h.wi,fun h=>n1 (h.wi.trans (wi.mk h1)),fun _=>app_ne h0⟩
  ·rw [h3] at hne ⊢
   exact ⟨n,asw,fun _=>not_wi_of n (fun e=>hne e.symm)⟩
 refine ⟨⟨rfl,?_⟩,rfl,key.2.1⟩
 split
 ·rename_i h4
  exact key.2.2 h4
 ·exact key.1
theorem turn_moves {P T p t q r:List UInt8} (n1:¬ wi P T) (n2:¬ wi T P) (m1:¬ wi p t) (m2:¬ wi t p) (b1:¬ wi r q) (hq:Mv P T p q) (hr:Nv P T t r) (hm:T≠q) (hn:T≠r) {v w:List UInt8} (a:Mv p t P v) (n:Nv p t T w):Mv q r T w∧Nv q r P v:=by
 constructor
 ·rcases n with ⟨e,h0,h1,h2,h3⟩ | ⟨h1,h2,h3⟩
  ·have eq:q=p:=by
    rcases hq with ⟨f,g1,g2,g3⟩ | ⟨_,_,g3⟩
    ·exact (n2 (by rw [h2,g2];exact (wi.mk h1).trans (wi.mk g1))).elim
    ·exact g3
   have er:r=t:=by
    rcases hr with ⟨f,g0,g1,g2,g3⟩ | ⟨_,_,g3⟩
    ·exact (b1 (by rw [g3,h2,eq];exact (wi.mk g1).trans (wi.mk h1))).elim
    ·exact g3
   rw [eq,er]
   exact .inl ⟨e,h1,h2,h3⟩
  ·refine .inr ⟨?_,?_,h3⟩
   ·rcases hq with ⟨f,g1,g2,g3⟩ | ⟨g1,g2,g3⟩
    ·rw [g3]
     by_cases hf:f=[]
     ·exact (hm (by rw [g3,hf];simp)).elim
     ·exact app_ne hf
    ·rw [g3]
     exact not_wi_of h1 (fun e=>g2 (by rw [e];exact wi.refl _))
   ·rcases hr with ⟨f,g0,g1,g2,g3⟩ | ⟨g1,g2,g3⟩
    ·rw [g3]
     exact app_ne g0
    ·rw [g3] at hn ⊢
     exact not_wi_of h2 hn
 ·rcases a with ⟨e,h1,h2,h3⟩ | ⟨h1,h2,h3⟩
  ·have hqp:¬ wi p P∧q=p:=by
    rcases hq with ⟨f,g1,g2,g3⟩ | ⟨g1,g2,g3⟩
    ·exfalso
     have hl:f=[]:=by
      have:=congrArg List.length g2
      rw [h2] at this
      simp at this
      exact this.2
     exact hm (by rw [g3,hl];simp)
    ·exact ⟨g1,g3⟩
   have he:e≠[]:=fun e0=>hqp.1 (by rw [h2,e0,List.append_nil];exact wi.refl _)
   have er:r=t:=by
    rcases hr with ⟨f,g0,g1,g2,g3⟩ | ⟨_,_,g3⟩
    ·exact (m2 (by rw [g2,h2];exact (wi.mk g1).trans (wi.mk h1))).elim
    ·exact g3
   rw [hqp.2,er]
   exact .inl ⟨e,he,h1,h2,h3⟩
  ·refine .inr ⟨?_,?_,h3⟩
   ·rcases hq with ⟨f,g1,g2,g3⟩ | ⟨g1,g2,g3⟩
    ·rw [g3]
     exact fun w=>n1 (w.wi.trans (wi.mk g1))
    ·rw [g3]
     exact not_sw_of h1
   ·rcases hr with ⟨f,g0,g1,g2,g3⟩ | ⟨g1,g2,g3⟩
    ·rw [g3]
     exact fun w=>n1 (w.wi.trans (wi.mk g1))
    ·rw [g3]
     exact not_sw_of h2
end Pa
open Go.RowKit Pa
structure Th (q r r':Qp):Prop where
 kind:r'.kind=r.kind
 new:Qm.adds r.kind=true→Na q.kind (L q.path) (L q.to_) (L r.path) (L r'.path)
 old:Qm.adds r.kind=false→Af q.kind (L q.path) (L q.to_) (L r.path) (L r'.path)
 to5:r.kind=5→Na q.kind (L q.path) (L q.to_) (L r.to_) (L r'.to_)
 to0:r.kind≠5→r'.to_=r.to_
def New (q:Qp) (s:ByteArray):Prop:=(Qm.adds q.kind=true∧s=q.path)∨(q.kind=5∧s=q.to_)
theorem adds_iff {k:Int}:Qm.adds k=true ↔ k=1∨k=3:=by simp [Qm.adds]
theorem adds_not {k:Int}:Qm.adds k=false ↔ k≠1∧k≠3:=by simp [Qm.adds]
theorem through_th {r q:Qp} (hk:1≤q.kind∧q.kind≤8) (h:(Qp.through r q).2=true):Th q r (Qp.through r q).1:=by
 unfold Qp.through Pv.through at h ⊢
 dsimp only at h ⊢
 rw [Bool.and_eq_true] at h
 obtain ⟨h1,h2⟩:=h
 refine ⟨rfl,fun e=>?_,fun e=>?_,fun e=>?_,fun e=>?_⟩
 ·simp only [e,if_true] at h1 ⊢;exact (newAfter_iff hk).1 (Prod.ext rfl h1)
 ·simp only [e,Bool.false_eq_true,if_false] at h1 ⊢;exact (after_iff hk).1 (Prod.ext rfl h1)
 ·have e':(r.kind == 5)=true:=by simpa using e
  simp only [e',if_true] at h2 ⊢;exact (newAfter_iff hk).1 (Prod.ext rfl h2)
 ·have e':(r.kind == 5)=false:=by simpa using e
  simp only [e',Bool.false_eq_true,if_false]
theorem th_through {r r' q:Qp} (hk:1≤q.kind∧q.kind≤8) (h:Th q r r'):Qp.through r q=({ r with path:=r'.path,to_:=r'.to_ },true):=by
 have e1:(if Qm.adds r.kind=true then Qm.newAfter q.kind q.path q.to_ r.path else Qm.after q.kind q.path q.to_ r.path)=(r'.path,true):=by
  split
  ·rename_i e
   exact (newAfter_iff hk).2 (h.new e)
  ·rename_i e
   exact (after_iff hk).2 (h.old (by simpa using e))
 have e2:(if (r.kind == 5)=true then Qm.newAfter q.kind q.path q.to_ r.to_ else (r.to_,true))=(r'.to_,true):=by
  split
  ·rename_i e
   exact (newAfter_iff hk).2 (h.to5 (by simpa using e))
  ·rename_i e
   rw [h.to0 (by simpa using e)]
 unfold Qp.through Pv.through
 dsimp only [Qp.bare,Qp.pv]
 rw [e1,e2]
 rfl
theorem inv_makes {q:Qp} (h:q.kind=1∨q.kind=3):(q.inv.kind=2∨q.inv.kind=4)∧q.inv.kind=q.kind+1∧q.inv.path=q.path∧q.inv.to_=Qp.zero.to_:=by
 rcases h with h | h <;> simp [Qp.inv,h]
theorem inv_undoes {q:Qp} (h:q.kind=2∨q.kind=4):(q.inv.kind=1∨q.inv.kind=3)∧q.inv.kind=q.kind - 1∧q.inv.path=q.path∧q.inv.to_=Qp.zero.to_:=by
 rcases h with h | h <;> simp [Qp.inv,h]
theorem inv_edit {q:Qp} (h:6≤q.kind):q.inv.kind=q.kind∧q.inv.path=q.path∧q.inv.to_=q.to_:=by
 unfold Qp.inv
 rw [if_neg (by omega),if_neg (by omega),if_neg (by omega),if_neg (by omega),if_neg (by omega)]
 exact ⟨rfl,rfl,rfl⟩
theorem inv_mv {q:Qp} (h:q.kind=5):q.inv.kind=5∧q.inv.path=q.to_∧q.inv.to_=q.path:=by
 unfold Qp.inv
 rw [if_neg (by omega),if_neg (by omega),if_neg (by omega),if_neg (by omega),if_pos h]
 exact ⟨rfl,rfl,rfl⟩
theorem Th.still {q r r':Qp} (h:Th q r r') (hq:q.kind≠5):r'.path=r.path∧r'.to_=r.to_:=by
 constructor
 ·cases e:Qm.adds r.kind
  ·have:=h.old e
   unfold Af at this
   rw [if_neg hq] at this
   exact L_inj this.1
  ·have:=h.new e
   unfold Na at this
   rw [if_neg hq] at this
   exact L_inj this.1
 ·by_cases e:r.kind=5
  ·have:=h.to5 e
   unfold Na at this
   rw [if_neg hq] at this
   exact L_inj this.1
  ·exact h.to0 e
theorem Th.turn {x b c d:Qp} (kx:1≤x.kind∧x.kind≤8) (kc:1≤c.kind∧c.kind≤8) (mx:x.kind=5→¬ wi (L x.path) (L x.to_)∧¬ wi (L x.to_) (L x.path)) (mc:c.kind=5→¬ wi (L c.path) (L c.to_)∧¬ wi (L c.to_) (L c.path)) (mb:b.kind=5→¬ wi (L b.to_) (L b.path))
 (hb:Th x c b) (hd:Th c x d) (hn:∀ s,New x s→New b s→False) (hm:x.kind=5→b.kind=5→x.to_≠b.path):Th b x.inv d.inv:=by
 have kbc:=hb.kind
 have kdx:=hd.kind
 by_cases h5:x.kind=5
 ·obtain ⟨i1,i2,i3⟩:=inv_mv h5
  obtain ⟨j1,j2,j3⟩:=inv_mv (q:=d) (by omega)
  have ax:Qm.adds x.kind=false:=adds_not.2 (by omega)
  obtain ⟨n1,n2⟩:=mx h5
  have hold:=hd.old ax
  have hto:=hd.to5 h5
  have both:Af b.kind (L b.path) (L b.to_) (L x.to_) (L d.to_)∧Na b.kind (L b.path) (L b.to_) (L x.path) (L d.path):=by
   by_cases hc5:c.kind=5
   ·have hb5:b.kind=5:=kbc.trans hc5
    have q1:=hb.old (adds_not.2 (by omega))
    have q2:=hb.to5 hc5
    unfold Af at hold q1 ⊢
    unfold Na at hto q2 ⊢
    rw [if_pos hc5] at hold hto
    rw [if_pos h5] at q1 q2
    rw [if_pos hb5,if_pos hb5]
    exact turn_moves n1 n2 (mc hc5).1 (mc hc5).2 (mb hb5) q1 q2 (fun e=>hm h5 hb5 (L_inj e)) (fun e=>hn x.to_ (.inr ⟨h5,rfl⟩) (.inr ⟨hb5,L_inj e⟩)) hold hto
   ·have hq:Mv (L x.path) (L x.to_) (L c.path) (L b.path)∨(Nv (L x.path) (L x.to_) (L c.path) (L b.path)∧L b.path≠L x.to_):=by
     cases e:Qm.adds c.kind
     ·have:=hb.old e
      unfold Af at this
      rw [if_pos h5] at this
      exact .inl this
     ·have:=hb.new e
      unfold Na at this
      rw [if_pos h5] at this
      exact .inr ⟨this,fun e'=>hn x.to_ (.inr ⟨h5,rfl⟩) (.inl ⟨by rw [kbc];exact e,(L_inj e').symm⟩)⟩
    have:=turn_move (t:=L c.to_) n1 n2 hc5 hq hold hto
    rw [kbc,hb.to0 hc5]
    exact this
  refine ⟨by omega,fun e=>?_,fun _=>?_,fun _=>?_,fun e=>(e i1).elim⟩
  ·rw [i1] at e
   cases e
  ·rw [i2,j2];exact both.1
  ·rw [i3,j3];exact both.2
 ·obtain ⟨sp,st⟩:=hb.still h5
  by_cases h6:6≤x.kind
  ·obtain ⟨i1,i2,i3⟩:=inv_edit h6
   obtain ⟨j1,j2,j3⟩:=inv_edit (q:=d) (by omega)
   have ax:Qm.adds x.kind=false:=adds_not.2 (by omega)
   refine ⟨by omega,fun e=>?_,fun _=>?_,fun e=>by omega,fun _=>?_⟩
   ·rw [i1,ax] at e
    cases e
   ·rw [i2,j2,kbc,sp,st]
    exact hd.old ax
   ·rw [i3,j3,hd.to0 h5]
  ·
   have low:Qm.adds c.kind=false→x.path≠c.path:=by
    intro e he
    have:=hb.old e
    unfold Af at this
    rw [if_neg h5,if_pos (by omega)] at this
    exact this.2 (by rw [he];exact wi.refl _)
   by_cases ha:x.kind=1∨x.kind=3
   ·obtain ⟨i0,i1,i2,i3⟩:=inv_makes ha
    obtain ⟨j0,j1,j2,j3⟩:=inv_makes (q:=d) (by omega)
    have ax:Qm.adds x.kind=true:=adds_iff.2 ha
    refine ⟨by omega,fun e=>?_,fun _=>?_,fun e=>by omega,fun _=>by rw [i3,j3]⟩
    ·have:=adds_iff.1 e
     omega
    ·rw [i2,j2,kbc,sp,st]
     refine turn_new (hd.new ax) (fun h4 e=>?_) (fun h5'=>⟨fun e=>?_,fun e=>?_⟩)
     ·cases ec:Qm.adds c.kind
      ·exact low ec (L_inj e)
      ·exact hn x.path (.inl ⟨ax,rfl⟩) (.inl ⟨by rw [kbc];exact ec,by rw [sp];exact L_inj e⟩)
     ·exact low (adds_not.2 (by omega)) (L_inj e)
     ·exact hn x.path (.inl ⟨ax,rfl⟩) (.inr ⟨kbc.trans h5',by rw [st];exact L_inj e⟩)
   ·have hr:x.kind=2∨x.kind=4:=by omega
    obtain ⟨i0,i1,i2,i3⟩:=inv_undoes hr
    obtain ⟨j0,j1,j2,j3⟩:=inv_undoes (q:=d) (by omega)
    have ax:Qm.adds x.kind=false:=adds_not.2 (by omega)
    refine ⟨by omega,fun _=>?_,fun e=>?_,fun e=>by omega,fun _=>by rw [i3,j3]⟩
    ·rw [i2,j2,kbc,sp,st]
     exact turn_old (hd.old ax) (fun h5' e=>low (adds_not.2 (by omega)) (L_inj e))
    ·have:=adds_not.1 e
     omega
theorem Th.apart {x b c d:Qp} (kx:1≤x.kind∧x.kind≤8) (kc:1≤c.kind∧c.kind≤8) (mx:x.kind=5→¬ wi (L x.path) (L x.to_)∧¬ wi (L x.to_) (L x.path)) (mc:c.kind=5→¬ wi (L c.path) (L c.to_)∧¬ wi (L c.to_) (L c.path))
 (hc:Th x.inv b c) (hb:Th x c b) (hd:Th c x d) (hm:x.kind=5→b.kind=5→x.to_≠b.path):∀ s,New b s→New d.inv s→False:=by
 intro s h1 h2
 have kbc:=hb.kind
 have kdx:=hd.kind
 have fr:(x.kind=2∨x.kind=4∨x.kind=5)∧s=d.path:=by
  by_cases k5:d.kind=5
  ·obtain ⟨j1,j2,j3⟩:=inv_mv k5
   rcases h2 with ⟨e,_⟩ | ⟨_,e⟩
   ·have:=adds_iff.1 e
    omega
   ·exact ⟨by omega,by rw [e,j3]⟩
  ·by_cases k6:6≤d.kind
   ·obtain ⟨j1,j2,j3⟩:=inv_edit k6
    rcases h2 with ⟨e,_⟩ | ⟨e,_⟩
    ·have:=adds_iff.1 e
     omega
    ·omega
   ·by_cases k1:d.kind=1∨d.kind=3
    ·obtain ⟨j0,j1,j2,j3⟩:=inv_makes k1
     rcases h2 with ⟨e,_⟩ | ⟨e,_⟩
     ·have:=adds_iff.1 e
      omega
     ·omega
    ·obtain ⟨j0,j1,j2,j3⟩:=inv_undoes (q:=d) (by omega)
     rcases h2 with ⟨_,e⟩ | ⟨e,_⟩
     ·exact ⟨by omega,by rw [e,j2]⟩
     ·omega
 obtain ⟨fr,rfl⟩:=fr
 have ax:Qm.adds x.kind=false:=adds_not.2 (by omega)
 have hold:=hd.old ax
 have xi:∀ {u v:List UInt8},Na x.inv.kind (L x.inv.path) (L x.inv.to_) u v→(x.kind=5∧Nv (L x.to_) (L x.path) u v)∨(x.kind≤4∧v=u):=by
  intro u v h
  unfold Na at h
  by_cases k5:x.kind=5
  ·obtain ⟨i1,i2,i3⟩:=inv_mv k5
   rw [if_pos i1,i2,i3] at h
   exact .inl ⟨k5,h⟩
  ·obtain ⟨i0,i1,i2,i3⟩:=inv_undoes (q:=x) (by omega)
   rw [if_neg (by omega)] at h
   exact .inr ⟨by omega,h.1⟩
 rcases h1 with ⟨e1,e2⟩ | ⟨e1,e2⟩
 ·
  have ec:c.kind=1∨c.kind=3:=by have :=adds_iff.1 e1;omega
  unfold Af at hold
  rw [if_neg (by omega),if_pos (by omega)] at hold
  obtain ⟨p1,p2⟩:=hold
  have hn:=hc.new e1
  rw [← e2,p1] at hn
  rcases xi hn with ⟨k5,⟨f,f0,f1,f2,f3⟩ | ⟨_,_,f3⟩⟩ | ⟨_,f3⟩
  ·exact (mx k5).1 ⟨f,f1,f2⟩
  ·exact p2 (by rw [f3];exact wi.refl _)
  ·exact p2 (by rw [f3];exact wi.refl _)
 ·
  have c5:c.kind=5:=by omega
  have hn:=hc.to5 e1
  rw [← e2] at hn
  unfold Af at hold
  rw [if_pos c5] at hold
  have hq:=hb.old (adds_not.2 (by omega))
  have same:L x.path=L c.path→False:=by
   intro e
   unfold Af at hq
   by_cases k5:x.kind=5
   ·rw [if_pos k5] at hq
    rcases hq with ⟨f,f1,f2,f3⟩ | ⟨f1,_,_⟩
    ·have f0:f=[]:=by
      have:=congrArg List.length f2
      rw [e] at this
      simp at this
      exact this
     exact hm k5 e1 (L_inj (by rw [f3,f0];simp))
    ·exact f1 (by rw [e];exact wi.refl _)
   ·rw [if_neg k5,if_pos (by omega)] at hq
    exact hq.2 (by rw [e];exact wi.refl _)
  rcases hold with ⟨e,g1,g2,g3⟩ | ⟨g1,g2,g3⟩
  ·rcases xi hn with ⟨k5,⟨f,f0,f1,f2,f3⟩ | ⟨_,_,f3⟩⟩ | ⟨_,f3⟩
   ·exact (mc c5).2 (by rw [f3,g2];exact (wi.mk f1).trans (wi.mk g1))
   all_goals
    rw [g3] at f3
    have e0:e=[]:=by simpa using f3
    exact same (by rw [g2,e0];simp)
  ·rw [g3] at hn
   rcases xi hn with ⟨k5,⟨f,f0,f1,f2,f3⟩ | ⟨_,_,f3⟩⟩ | ⟨_,f3⟩
   ·exact (mx k5).1 ⟨f,f1,f2⟩
   ·exact g2 (by rw [f3];exact wi.refl _)
   ·exact g2 (by rw [f3];exact wi.refl _)
theorem Th.ends {x b c d:Qp} (mc:c.kind=5→¬ wi (L c.path) (L c.to_)∧¬ wi (L c.to_) (L c.path)) (mx:x.kind=5→¬ wi (L x.path) (L x.to_)∧¬ wi (L x.to_) (L x.path)) (mb:b.kind=5→¬ wi (L b.to_) (L b.path))
 (hb:Th x c b) (hd:Th c x d) (hn:∀ s,New x s→New b s→False) (x5:x.kind=5) (b5:b.kind=5):b.to_≠d.to_:=by
 intro h
 have kbc:=hb.kind
 have c5:c.kind=5:=by omega
 have n:=hd.to5 x5
 have hr:=hb.to5 c5
 have hq:=hb.old (adds_not.2 (by omega))
 unfold Na at n hr
 unfold Af at hq
 rw [if_pos c5] at n
 rw [if_pos x5] at hr hq
 rcases n with ⟨e,h0,h1,h2,h3⟩ | ⟨h1,h2,h3⟩
 ·have eq:L b.path=L c.path:=by
   rcases hq with ⟨f,g1,g2,g3⟩ | ⟨_,_,g3⟩
   ·exact ((mx x5).2 (by rw [h2,g2];exact (wi.mk h1).trans (wi.mk g1))).elim
   ·exact g3
  have er:L b.to_=L c.to_:=by
   rcases hr with ⟨f,g0,g1,g2,g3⟩ | ⟨_,_,g3⟩
   ·exact (mb b5 (by rw [g3,h2,eq];exact (wi.mk g1).trans (wi.mk h1))).elim
   ·exact g3
  rw [h,h3] at er
  exact h0 (by simpa using er)
 ·exact hn x.to_ (.inr ⟨x5,rfl⟩) (.inr ⟨b5,by rw [h];exact (L_inj h3).symm⟩)
theorem inv_kinds {q:Qp} (k:1≤q.kind∧q.kind≤8):(1≤q.inv.kind∧q.inv.kind≤8)∧(q.inv.kind=5→q.kind=5):=by
 by_cases k5:q.kind=5
 ·have:=(inv_mv k5).1
  omega
 ·by_cases k6:6≤q.kind
  ·have:=(inv_edit k6).1
   omega
  ·by_cases k1:q.kind=1∨q.kind=3
   ·have:=(inv_makes k1).2.1
    omega
   ·have:=(inv_undoes (q:=q) (by omega)).2.1
    omega
def Out (q:Qp):Prop:=q.kind=5→¬ wi (L q.path) (L q.to_)∧¬ wi (L q.to_) (L q.path)
theorem Out.inv {q:Qp} (k:1≤q.kind∧q.kind≤8) (h:Out q):Out q.inv:=fun e=>by
 have k5:=(inv_kinds k).2 e
 obtain ⟨_,i2,i3⟩:=inv_mv k5
 rw [i2,i3]
 exact ⟨(h k5).2,(h k5).1⟩
theorem Th.turn2 {x b c d:Qp} (kx:1≤x.kind∧x.kind≤8) (kc:1≤c.kind∧c.kind≤8) (mx:Out x) (mb:Out b) (mc:Out c) (md:Out d)
 (hc:Th x.inv b c) (hb:Th x c b) (hd:Th c x d) (hn:∀ s,New x s→New b s→False) (hm:x.kind=5→b.kind=5→x.to_≠b.path):Th d.inv b.inv c.inv:=by
 have kb:1≤b.kind∧b.kind≤8:=by rw [hb.kind];exact kc
 have kd:1≤d.kind∧d.kind≤8:=by rw [hd.kind];exact kx
 refine Th.turn kb (inv_kinds kx).1 mb (mx.inv kx) (fun e=>((md.inv kd) e).2) (Th.turn kx kc mx mc (fun e=>(mb e).2) hb hd hn hm) hc (Th.apart kx kc mx mc hc hb hd hm) (fun e1 e2=>?_)
 have d5:=(inv_kinds kd).2 e2
 rw [(inv_mv d5).2.1]
 exact Th.ends mc mx (fun e=>(mb e).2) hb hd hn (by have :=hd.kind;omega) e1
theorem moves_iff {a b:Qp}:Qp.moves a b=true ↔ (a.kind=5→b.kind=5→a.to_≠b.path):=by
 unfold Qp.moves Qm.xmoves
 have h:∀ s t:ByteArray,(!Qm.eqB s t)=true ↔ s≠t:=fun s t=>by
  rw [Bool.not_eq_true',← Bool.not_eq_true,Qm.eqB_iff]
 rw [Bool.or_eq_true,Bool.or_eq_true,h]
 simp only [bne_iff_ne,ne_eq]
 constructor
 ·rintro (h | h | h) e1 e2
  ·exact (h e1).elim
  ·exact (h e2).elim
  ·exact h
 ·intro h
  by_cases e1:a.kind=5
  ·by_cases e2:b.kind=5
   ·exact .inr (.inr (h e1 e2))
   ·exact .inr (.inl e2)
  ·exact .inl e1
theorem empty_of {a b c d:Qp} (hk:c.kind=b.kind) (hd:Th c a d):Qp.empty a b c=true:=by
 unfold Qp.empty Qm.xempty
 by_cases e4:b.kind=4
 ·by_cases ef:Qm.frees a.kind=true
  ·have ax:Qm.adds a.kind=false:=by
    unfold Qm.frees at ef
    simp only [Bool.or_eq_true,beq_iff_eq] at ef
    exact adds_not.2 (by omega)
   have:=hd.old ax
   unfold Af at this
   rw [if_neg (by omega),if_pos (by omega)] at this
   have hb:Qm.below a.path c.path=false:=by
    rw [← Bool.not_eq_true,below_iff]
    exact fun w=>this.2 w.wi
   simp [hb]
  ·simp [ef]
 ·simp [e4]
theorem newPath_iff {q:Qp} {s:ByteArray}:New q s ↔ Qm.newPath q.kind q.path q.to_=(s,true):=by
 unfold New Qm.newPath
 by_cases ea:Qm.adds q.kind=true
 ·rw [if_pos ea]
  have:=adds_iff.1 ea
  constructor
  ·rintro (⟨_,e⟩ | ⟨e,_⟩)
   ·rw [e]
   ·omega
  ·intro h
   exact .inl ⟨ea,(Prod.mk.inj h).1.symm⟩
 ·rw [if_neg ea]
  constructor
  ·rintro (⟨e,_⟩ | ⟨e,e2⟩)
   ·exact (ea e).elim
   ·rw [e2,e];rfl
  ·intro h
   obtain ⟨h1,h2⟩:=Prod.mk.inj h
   exact .inr ⟨by simpa using h2,h1.symm⟩
end Go.Proofs.YtfmgnaigcibcaaaGreatDoor
namespace Go.Proofs.YtfmgnaigcibcaaaGreatDoor
open Go.RowKit Pa
theorem news_iff {a b:Qp}:Qm.news a.kind a.path a.to_ b.kind b.path b.to_=true ↔ ∀ s,New a s→New b s→False:=by
 unfold Qm.news
 have h:∀ s t:ByteArray,(!Qm.eqB s t)=true ↔ s≠t:=fun s t=>by
  rw [Bool.not_eq_true',← Bool.not_eq_true,Qm.eqB_iff]
 rw [Bool.or_eq_true,Bool.or_eq_true,h,Bool.not_eq_true',Bool.not_eq_true']
 constructor
 ·intro k s h1 h2
  rw [newPath_iff] at h1 h2
  rw [h1,h2] at k
  rcases k with k | k | k
  ·cases k
  ·cases k
  ·exact k rfl
 ·intro k
  cases e1:(Qm.newPath a.kind a.path a.to_).2
  ·exact .inl rfl
  cases e2:(Qm.newPath b.kind b.path b.to_).2
  ·exact .inr (.inl rfl)
  refine .inr (.inr fun e=>k _ (newPath_iff.2 (Prod.ext rfl e1)) (newPath_iff.2 (Prod.ext e.symm e2)))
theorem free_iff {a b c d:Qp}:Qp.free a b c d=true ↔ (∀ s,New c s→Qm.frees a.kind=true→s≠a.path)∧(∀ s,New a s→New b s→False)∧(∀ s,New d s→New c s→False):=by
 unfold Qp.free Qm.xfree
 dsimp only [Qp.bare,Qp.pv]
 rw [Bool.and_eq_true,Bool.and_eq_true,news_iff,news_iff]
 refine and_congr ?_ Iff.rfl
 rw [Bool.not_eq_true',← Bool.not_eq_true,Bool.and_eq_true,Bool.and_eq_true,Qm.eqB_iff]
 constructor
 ·rintro k s h1 h2 h3
  rw [newPath_iff] at h1
  rw [h1] at k
  exact k ⟨⟨rfl,h2⟩,h3⟩
 ·rintro k ⟨⟨h1,h2⟩,h3⟩
  exact k _ (newPath_iff.2 (Prod.ext rfl h1)) h2 h3
theorem Th.shq {q q' r r':Qp} (h:Th q r r') (k:Sh q q'):Th q' r r':=by
 obtain ⟨k1,k2,k3⟩:=k
 exact ⟨h.kind,fun e=>by rw [← k1,← k2,← k3];exact h.new e,fun e=>by rw [← k1,← k2,← k3];exact h.old e,fun e=>by rw [← k1,← k2,← k3];exact h.to5 e,h.to0⟩
theorem Th.shr {q r r' r2:Qp} (h:Th q r r') (k:Sh r' r2):Th q r r2:=by
 obtain ⟨k1,k2,k3⟩:=k
 exact ⟨by rw [← k1];exact h.kind,fun e=>by rw [← k2];exact h.new e,fun e=>by rw [← k2];exact h.old e,fun e=>by rw [← k3];exact h.to5 e,fun e=>by rw [← k3];exact h.to0 e⟩
theorem New.sh {q q':Qp} {s:ByteArray} (h:New q s) (k:Sh q q'):New q' s:=by
 obtain ⟨k1,k2,k3⟩:=k
 unfold New at h ⊢
 rw [← k1,← k2,← k3]
 exact h
theorem run_pieces {a b c d:Qp} (h:a.run b=(c,d,true)) (ka:1≤a.kind∧a.kind≤8) (kb:1≤b.kind∧b.kind≤8):
 Th a.inv b c∧Th c a d∧(∀ s,New a s→New b s→False)∧(∀ s,New d s→New c s→False)∧(a.kind=5→b.kind=5→a.to_≠b.path)∧Qp.contents a b { b with path:=c.path,to_:=c.to_ } { a with path:=d.path,to_:=d.to_ }=(c,d,true)∧(∀ s,New c s→Qm.frees a.kind=true→s≠a.path):=by
 unfold Qp.run Qp.runOf at h
 split at h
 rotate_left
 ·simp only [Prod.mk.injEq] at h
  exact absurd h.2.2 (by decide)
 rename_i hh
 simp only [Bool.and_eq_true,decide_eq_true_eq] at hh
 obtain ⟨⟨k1,k2⟩,hf,he,hm,hc,z1,z2⟩:=hh
 simp only [Prod.mk.injEq,and_true] at h
 obtain ⟨rfl,rfl⟩:=h
 have p1:=through_th (inv_kinds ka).1 k1
 have hcore:=contents_core a b (Qp.through b a.inv).1 (Qp.through a (Qp.through b a.inv).1).1
 have kC:(Qp.through b a.inv).1.kind=b.kind:=rfl
 have p2:=through_th (by rw [kC];exact kb) k2
 have c1:(Qp.through b a.inv).1={ b with path:=(Qp.through b a.inv).1.path,to_:=(Qp.through b a.inv).1.to_ }:=rfl
 have c2:(Qp.through a (Qp.through b a.inv).1).1={ a with path:=(Qp.through a (Qp.through b a.inv).1).1.path,to_:=(Qp.through a (Qp.through b a.inv).1).1.to_ }:=rfl
 generalize (Qp.through b a.inv).1=C at *
 generalize (Qp.through a C).1=D at *
 obtain ⟨_,_,g3,g4⟩:=hcore
 obtain ⟨f1,f2,f3⟩:=free_iff.1 hf
 refine ⟨p1.shr g3,(p2.shq g3).shr g4,f2,fun s h1 h2=>f3 s (h1.sh g4.symm) (h2.sh g3.symm),moves_iff.1 hm,?_,fun s h1 h2=>f1 s (h1.sh g3.symm) h2⟩
 rw [← g3.2.1,← g3.2.2,← g4.2.1,← g4.2.2,← c1,← c2,← hc]
theorem run_of {a b c d:Qp} (ka:1≤a.kind∧a.kind≤8) (kb:1≤b.kind∧b.kind≤8) (hc:Th a.inv b c) (hd:Th c a d) (f1:∀ s,New c s→Qm.frees a.kind=true→s≠a.path) (f2:∀ s,New a s→New b s→False) (f3:∀ s,New d s→New c s→False)
 (hm:a.kind=5→b.kind=5→a.to_≠b.path) (hk:Qp.contents a b { b with path:=c.path,to_:=c.to_ } { a with path:=d.path,to_:=d.to_ }=(c,d,true)) (z1:c.check=0) (z2:d.check=0):a.run b=(c,d,true):=by
 have e1:=th_through (inv_kinds ka).1 hc
 have sc:Sh c { b with path:=c.path,to_:=c.to_ }:=⟨hc.kind,rfl,rfl⟩
 have sd:Sh d { a with path:=d.path,to_:=d.to_ }:=⟨hd.kind,rfl,rfl⟩
 have e2:=th_through (q:={ b with path:=c.path,to_:=c.to_ }) kb (hd.shq sc)
 unfold Qp.run Qp.runOf
 rw [e1]
 dsimp only
 rw [e2]
 dsimp only
 rw [hk]
 rw [if_pos]
 rw [free_iff.2 ⟨fun s h=>f1 s (h.sh sc.symm),f2,fun s h h'=>f3 s (h.sh sd.symm) (h'.sh sc.symm)⟩,moves_iff.2 hm,empty_of (b:=b) (c:={ b with path:=c.path,to_:=c.to_ }) (d:=d) rfl (hd.shq sc)]
 simp [z1,z2]
theorem new_inv {q:Qp} (kq:1≤q.kind∧q.kind≤8) {s:ByteArray} (h:New q.inv s):(q.kind=2∨q.kind=4∨q.kind=5)∧s=q.path:=by
 by_cases k5:q.kind=5
 ·obtain ⟨j1,j2,j3⟩:=inv_mv k5
  rcases h with ⟨e,_⟩ | ⟨_,e⟩
  ·have:=adds_iff.1 e
   omega
  ·exact ⟨by omega,by rw [e,j3]⟩
 ·by_cases k6:6≤q.kind
  ·obtain ⟨j1,j2,j3⟩:=inv_edit k6
   rcases h with ⟨e,_⟩ | ⟨e,_⟩
   ·have:=adds_iff.1 e
    omega
   ·omega
  ·by_cases k1:q.kind=1∨q.kind=3
   ·obtain ⟨j0,j1,j2,j3⟩:=inv_makes k1
    rcases h with ⟨e,_⟩ | ⟨e,_⟩
    ·have:=adds_iff.1 e
     omega
    ·omega
   ·obtain ⟨j0,j1,j2,j3⟩:=inv_undoes (q:=q) (by omega)
    rcases h with ⟨_,e⟩ | ⟨e,_⟩
    ·exact ⟨by omega,by rw [e,j2]⟩
    ·omega
theorem frees_inv {q:Qp} (kq:1≤q.kind∧q.kind≤8) (h:Qm.frees q.inv.kind=true):New q q.inv.path:=by
 unfold Qm.frees at h
 simp only [Bool.or_eq_true,beq_iff_eq] at h
 by_cases k5:q.kind=5
 ·exact .inr ⟨k5,(inv_mv k5).2.1⟩
 ·by_cases k6:6≤q.kind
  ·have:=(inv_edit k6).1
   omega
  ·by_cases k1:q.kind=1∨q.kind=3
   ·exact .inl ⟨adds_iff.2 k1,(inv_makes k1).2.2.1⟩
   ·have:=(inv_undoes (q:=q) (by omega)).2.1
    omega
theorem Th.freed {x b c:Qp} (kx:1≤x.kind∧x.kind≤8) (kb:1≤b.kind∧b.kind≤8) (mx:Out x) (h:Th x.inv b c):∀ s,New b.inv s→New x.inv s→False:=by
 intro s h1 h2
 obtain ⟨b1,rfl⟩:=new_inv kb h1
 obtain ⟨x1,x2⟩:=new_inv kx h2
 have:=h.old (adds_not.2 (by omega))
 unfold Af at this
 by_cases k5:x.kind=5
 ·obtain ⟨i1,i2,i3⟩:=inv_mv k5
  rw [if_pos i1,i2,i3,x2] at this
  rcases this with ⟨e,e1,e2,e3⟩ | ⟨_,e2,_⟩
  ·exact (mx k5).1 ⟨e,e1,e2⟩
  ·exact e2 (wi.refl _)
 ·obtain ⟨i0,i1,i2,i3⟩:=inv_undoes (q:=x) (by omega)
  rw [if_neg (by omega),if_pos (by omega),i2,x2] at this
  exact this.2 (wi.refl _)
theorem run_turn {x b c d:Qp} (hx:x.check=0) (hb:b.check=0) (hc:c.check=0) (hd:d.check=0) (h1:x.run b=(c,d,true)) (h2:c.run d=(x,b,true))
 (hk:Qp.contents b.inv x.inv { x.inv with path:=d.inv.path,to_:=d.inv.to_ } { b.inv with path:=c.inv.path,to_:=c.inv.to_ }=(d.inv,c.inv,true)):b.inv.run x.inv=(d.inv,c.inv,true):=by
 have kx:=(check_parts hx).1
 have kb:=(check_parts hb).1
 have kc:=(check_parts hc).1
 have kd:=(check_parts hd).1
 have mx:Out x:=fun e=>check_move hx e
 have mb:Out b:=fun e=>check_move hb e
 have mc:Out c:=fun e=>check_move hc e
 have md:Out d:=fun e=>check_move hd e
 obtain ⟨p1,p2,p3,p4,p5,_⟩:=run_pieces h1 kx kb
 obtain ⟨q1,q2,q3,q4,q5,_⟩:=run_pieces h2 kc kd
 have ap:=Th.apart kx kc mx mc p1 q2 p2 p5
 refine run_of (inv_kinds kb).1 (inv_kinds kx).1 ?_ (Th.turn2 kx kc mx mb mc md p1 q2 p2 p3 p5) (fun s h h' e=>ap s (by rw [e];exact frees_inv kb h') h) (Th.freed kx kb mx p1) (fun s h h'=>Th.freed kc kd mc q1 s h' h) (fun e1 e2 e=>?_) hk (inv_check hd) (inv_check hc)
 ·rw [inv_inv hb]
  exact Th.turn kx kc mx mc (fun e=>(mb e).2) q2 p2 p3 p5
 ·have k1:=(inv_kinds kb).2 e1
  have k2:=(inv_kinds kx).2 e2
  rw [(inv_mv k1).2.2,(inv_mv k2).2.1] at e
  exact p5 k2 k1 e.symm
theorem Cross.turn {p q q' p':Int} {l1 l2 m1 m2:Nat} (h:Cross p l1 l2 q m1 m2 q' p'):Cross q m2 m1 p l2 l1 p' q':=by
 unfold Cross at *
 omega
theorem Core.inv {q q':Qp} (h:Core q q'):Core q.inv q'.inv:=by
 obtain ⟨h1,h2,h3,h4,h5,h6,h7,h8⟩:=h
 unfold Qp.inv
 rw [h1]
 repeat' split
 all_goals exact ⟨by simp_all,by simp_all,by simp_all,by simp_all,by simp_all,by simp_all,by simp_all,by simp_all⟩
theorem hunks_turn {a b a' b':Hv} (h:(a.commute b).2.2=true) (e1:a'.at_=a.at_) (e2:a'.n1=a.n2) (e3:a'.n2=a.n1) (e4:b'.at_=b.at_) (e5:b'.n1=b.n2) (e6:b'.n2=b.n1):(b'.commute a').2.2=true:=by
 have c1:a'.check=a.check:=by unfold Hv.check;rw [e1,e2,e3,Nat.add_comm a.n2]
 have c2:b'.check=b.check:=by unfold Hv.check;rw [e4,e5,e6,Nat.add_comm b.n2]
 unfold Hv.commute at h ⊢
 rw [c1,c2]
 split at h
 ·cases h
 rename_i g0
 rw [if_neg (fun k=>g0 k.symm)]
 rw [e1,e4,e6,e2]
 have k1:(b'.shift a'.growth).at_=(b.shift (-a.growth)).at_:=by simp only [Hv.shift,Hv.growth,e2,e3,e4];omega
 have k2:(a'.shift (-b'.growth)).at_=(a.shift b.growth).at_:=by simp only [Hv.shift,Hv.growth,e1,e5,e6];omega
 rw [k1,k2]
 by_cases g1:a.at_+(a.n2:Int) < b.at_
 ·rw [if_pos g1] at h
  by_cases g2:(b.shift (-a.growth)).at_≤1099511627776
  ·rw [if_neg (by omega),if_pos g1,if_pos g2]
  ·rw [if_neg g2] at h
   cases h
 ·rw [if_neg g1] at h
  by_cases g2:b.at_+(b.n1:Int) < a.at_
  ·rw [if_pos g2] at h
   by_cases g3:(a.shift b.growth).at_≤1099511627776
   ·rw [if_pos g2,if_pos g3]
   ·rw [if_neg g3] at h
    cases h
  ·rw [if_neg g2] at h
   cases h
theorem bytes_turn {a b c d a' b' c' d':Pv} (h:(a.xbytes b c d).2.2=true) (e1:a'.off=a.off) (e2:a'.so=a.sn) (e3:a'.sn=a.so) (e4:b'.off=b.off) (e5:b'.so=b.sn) (e6:b'.sn=b.so):(b'.xbytes a' c' d').2.2=true:=by
 unfold Pv.xbytes at h ⊢
 rw [e1,e2,e3,e4,e5,e6]
 split at h
 ·rename_i g1
  rw [if_neg (by omega),if_pos g1]
 ·rename_i g1
  split at h
  ·rename_i g2
   rw [if_pos g2]
  ·cases h
theorem contents_edits {x b C D:Qp} (kx:6≤x.kind) (kb:6≤b.kind) (hp:x.path=C.path) (h:(Qp.contents x b C D).2.2=true):
 ¬ (x.kind=8∧b.kind=8)∧(x.kind=6→b.kind=6→(x.bare.hunk.commute b.bare.hunk).2.2=true)∧(x.kind=7→b.kind=7→(x.bare.xbytes b.bare C.bare D.bare).2.2=true)∧¬ (x.kind=6∧b.kind=7)∧¬ (x.kind=7∧b.kind=6):=by
 have a1:Qm.adds x.kind=false:=adds_not.2 (by omega)
 have a2:Qm.adds b.kind=false:=adds_not.2 (by omega)
 have a3:Qm.eqB x.path C.path=true:=Qm.eqB_iff.2 hp
 unfold Qp.contents at h
 rw [if_neg (by simp [a1,a2,a3])] at h
 by_cases g1:b.kind=2∨(x.kind=8∧b.kind=8)
 ·rw [if_pos g1] at h
  cases h
 rw [if_neg g1] at h
 by_cases g2:x.kind=6∧b.kind=6
 ·rw [if_pos g2] at h
  by_cases g3:(x.bare.hunk.commute b.bare.hunk).2.2=true
  ·exact ⟨by omega,fun _ _=>g3,fun e=>by omega,by omega,by omega⟩
  ·rw [if_neg g3] at h
   cases h
 rw [if_neg g2] at h
 by_cases g4:x.kind=7∧b.kind=7
 ·rw [if_pos g4] at h
  exact ⟨by omega,fun e=>by omega,fun _ _=>h,by omega,by omega⟩
 rw [if_neg g4] at h
 by_cases g5:(x.kind=6∨x.kind=7)∧(b.kind=6∨b.kind=7)
 ·rw [if_pos g5] at h
  cases h
 ·exact ⟨by omega,fun e1 e2=>by omega,fun e1 e2=>by omega,by omega,by omega⟩
theorem contents_yes {a b C D:Qp} (h:Qm.adds a.kind=false→Qm.adds b.kind=false→a.path=C.path→b.kind≠2∧¬ (a.kind=8∧b.kind=8)∧(a.kind=6→b.kind=6→(a.bare.hunk.commute b.bare.hunk).2.2=true)∧(a.kind=7→b.kind=7→(a.bare.xbytes b.bare C.bare D.bare).2.2=true)∧¬ (a.kind=6∧b.kind=7)∧¬ (a.kind=7∧b.kind=6)):(Qp.contents a b C D).2.2=true:=by
 unfold Qp.contents
 by_cases g0:Qm.adds a.kind=true∨Qm.adds b.kind=true∨Qm.eqB a.path C.path=false
 ·rw [if_pos g0]
 rw [if_neg g0]
 simp only [not_or,Bool.not_eq_true,Bool.not_eq_false] at g0
 obtain ⟨k1,k2,k3,k4,k5,k6⟩:=h g0.1 g0.2.1 (Qm.eqB_iff.1 g0.2.2)
 rw [if_neg (by omega)]
 by_cases g2:a.kind=6∧b.kind=6
 ·rw [if_pos g2,if_pos (k3 g2.1 g2.2)]
 rw [if_neg g2]
 by_cases g4:a.kind=7∧b.kind=7
 ·rw [if_pos g4]
  exact k4 g4.1 g4.2
 rw [if_neg g4,if_neg (by omega)]
theorem inv_edit_eq {q:Qp} (h:6≤q.kind):q.inv={ q with old:=q.new,new:=q.old,so:=q.sn,sn:=q.so,om:=q.nm,nm:=q.om }:=by
 unfold Qp.inv
 rw [if_neg (by omega),if_neg (by omega),if_neg (by omega),if_neg (by omega),if_neg (by omega)]
theorem inv_high {q:Qp} (k:1≤q.kind∧q.kind≤8) (h:6≤q.inv.kind):6≤q.kind:=by
 by_cases k5:q.kind=5
 ·have:=(inv_mv k5).1
  omega
 ·by_cases k6:6≤q.kind
  ·exact k6
  ·by_cases k1:q.kind=1∨q.kind=3
   ·have:=(inv_makes k1).2.1
    omega
   ·have:=(inv_undoes (q:=q) (by omega)).2.1
    omega
theorem inv_two {q:Qp} (k:1≤q.kind∧q.kind≤8) (h:q.inv.kind=2):q.kind=1:=by
 by_cases k5:q.kind=5
 ·have:=(inv_mv k5).1
  omega
 ·by_cases k6:6≤q.kind
  ·have:=(inv_edit k6).1
   omega
  ·by_cases k1:q.kind=1∨q.kind=3
   ·have:=(inv_makes k1).2.1
    omega
   ·have:=(inv_undoes (q:=q) (by omega)).2.1
    omega
theorem contents_turn {x b c d C D C' D':Qp} (kx:1≤x.kind∧x.kind≤8) (kb:1≤b.kind∧b.kind≤8) (hb:Th x c b) (hd:Th c x d) (hn:∀ s,New x s→New b s→False)
 (hC:C.path=c.path) (hC':C'.path=d.inv.path) (h:(Qp.contents x b C D).2.2=true):(Qp.contents b.inv x.inv C' D').2.2=true:=by
 have kbc:=hb.kind
 have kdx:=hd.kind
 refine contents_yes fun h1 h2 hp=>?_
 rw [hC'] at hp
 have edits:6≤x.kind→6≤b.kind→x.path=C.path:=by
  intro e1 e2
  rw [(inv_edit e2).2.1,(inv_edit (q:=d) (by omega)).2.1,(hb.still (by omega)).1,(hd.still (by omega)).1] at hp
  rw [hC,hp]
 have all:6≤x.inv.kind→6≤b.inv.kind→¬ (x.kind=8∧b.kind=8)∧(x.kind=6→b.kind=6→(x.bare.hunk.commute b.bare.hunk).2.2=true)∧(x.kind=7→b.kind=7→(x.bare.xbytes b.bare C.bare D.bare).2.2=true)∧¬ (x.kind=6∧b.kind=7)∧¬ (x.kind=7∧b.kind=6)∧x.inv.kind=x.kind∧b.inv.kind=b.kind:=by
  intro e1 e2
  have e3:=inv_high kx e1
  have e4:=inv_high kb e2
  obtain ⟨c1,c2,c3,c4,c5⟩:=contents_edits e3 e4 (edits e3 e4) h
  exact ⟨c1,c2,c3,c4,c5,(inv_edit e3).1,(inv_edit e4).1⟩
 refine ⟨fun e=>?_,fun e=>?_,fun e1 e2=>?_,fun e1 e2=>?_,fun e=>?_,fun e=>?_⟩
 ·have x1:=inv_two kx e
  have nb:=adds_not.1 h1
  obtain ⟨_,_,j2,_⟩:=inv_makes (q:=d) (by omega)
  rw [j2] at hp
  obtain ⟨sp,st⟩:=hb.still (by omega)
  have hnew:=hd.new (adds_iff.2 (by omega))
  unfold Na at hnew
  by_cases b5:b.kind=5
  ·rw [(inv_mv b5).2.1,st] at hp
   rw [if_pos (by omega),← hp] at hnew
   rcases hnew with ⟨f,f0,f1,f2,f3⟩ | ⟨_,_,f3⟩
   ·exact f0 (by simpa using f3)
   ·exact hn x.path (.inl ⟨adds_iff.2 (by omega),rfl⟩) (.inr ⟨b5,by rw [st];exact (L_inj f3).symm⟩)
  ·rw [if_neg (by omega)] at hnew
   have dp:d.path=x.path:=L_inj hnew.1
   by_cases b6:6≤b.kind
   ·rw [(inv_edit b6).2.1,sp,dp] at hp
    have:=hb.old (adds_not.2 (by omega))
    unfold Af at this
    rw [if_neg (by omega),if_pos (by omega)] at this
    exact this.2 (by rw [hp];exact wi.refl _)
   ·by_cases b1:b.kind=1∨b.kind=3
    ·rw [(inv_makes b1).2.2.1,dp] at hp
     exact hn x.path (.inl ⟨adds_iff.2 (by omega),rfl⟩) (.inl ⟨adds_iff.2 b1,hp.symm⟩)
    ·have:=(inv_undoes (q:=b) (by omega)).1
     omega
 ·obtain ⟨c1,c2,c3,c4,c5,c6,c7⟩:=all (by omega) (by omega)
  omega
 ·obtain ⟨c1,c2,c3,c4,c5,c6,c7⟩:=all (by omega) (by omega)
  refine hunks_turn (c2 (by omega) (by omega)) ?_ ?_ ?_ ?_ ?_ ?_ <;> first | (rw [inv_edit_eq (q:=x) (by omega)];rfl) | (rw [inv_edit_eq (q:=b) (by omega)];rfl)
 ·obtain ⟨c1,c2,c3,c4,c5,c6,c7⟩:=all (by omega) (by omega)
  refine bytes_turn (c3 (by omega) (by omega)) ?_ ?_ ?_ ?_ ?_ ?_ <;> first | (rw [inv_edit_eq (q:=x) (by omega)];done) | (rw [inv_edit_eq (q:=b) (by omega)];done)
 ·obtain ⟨c1,c2,c3,c4,c5,c6,c7⟩:=all (by omega) (by omega)
  omega
 ·obtain ⟨c1,c2,c3,c4,c5,c6,c7⟩:=all (by omega) (by omega)
  omega
theorem Cross.uniq {p q q1 p1 q2 p2:Int} {l1 l2 m1 m2:Nat} (h:Cross p l1 l2 q m1 m2 q1 p1) (k:Cross p l1 l2 q m1 m2 q2 p2):q1=q2∧p1=p2:=by
 unfold Cross at h k
 omega
theorem inv_at {q q':Qp} (hk:q'.kind=q.kind) (h:6≤q.kind→q'.at_=q.at_) (k:1≤q.kind∧q.kind≤8):q'.inv.at_=q.inv.at_:=by
 by_cases h6:6≤q.kind
 ·rw [inv_edit_eq h6,inv_edit_eq (q:=q') (by omega)]
  exact h h6
 ·unfold Qp.inv
  rw [hk]
  repeat' split
  all_goals first | rfl | (exfalso;omega)
theorem inv_off {q q':Qp} (hk:q'.kind=q.kind) (h:6≤q.kind→q'.off=q.off) (k:1≤q.kind∧q.kind≤8):q'.inv.off=q.inv.off:=by
 by_cases h6:6≤q.kind
 ·rw [inv_edit_eq h6,inv_edit_eq (q:=q') (by omega)]
  exact h h6
 ·unfold Qp.inv
  rw [hk]
  repeat' split
  all_goals first | rfl | (exfalso;omega)
theorem contents_back {x b c d:Qp} (kx:1≤x.kind∧x.kind≤8) (kb:1≤b.kind∧b.kind≤8) (hb:Th x c b) (hd:Th c x d) (hn:∀ s,New x s→New b s→False)
 (h:Qp.contents x b { b with path:=c.path,to_:=c.to_ } { x with path:=d.path,to_:=d.to_ }=(c,d,true)):
 Qp.contents b.inv x.inv { x.inv with path:=d.inv.path,to_:=d.inv.to_ } { b.inv with path:=c.inv.path,to_:=c.inv.to_ }=(d.inv,c.inv,true):=by
 have hf:(Qp.contents x b { b with path:=c.path,to_:=c.to_ } { x with path:=d.path,to_:=d.to_ }).2.2=true:=by rw [h]
 have co:=contents_core x b { b with path:=c.path,to_:=c.to_ } { x with path:=d.path,to_:=d.to_ }
 have fa:=contents_at (a:=x) (b:=b) (c:={ b with path:=c.path,to_:=c.to_ }) (d:={ x with path:=d.path,to_:=d.to_ }) rfl rfl hf
 have fo:=contents_off (a:=x) (b:=b) (c:={ b with path:=c.path,to_:=c.to_ }) (d:={ x with path:=d.path,to_:=d.to_ }) rfl rfl hf
 rw [h] at co fa fo
 dsimp only at co fa fo
 have cc:Core b c:=Core.trans ⟨rfl,rfl,rfl,rfl,rfl,rfl,rfl,rfl⟩ co.1
 have cd:Core x d:=Core.trans ⟨rfl,rfl,rfl,rfl,rfl,rfl,rfl,rfl⟩ co.2.1
 have gf:=contents_turn kx kb hb hd hn (C:={ b with path:=c.path,to_:=c.to_ }) (C':={ x.inv with path:=d.inv.path,to_:=d.inv.to_ }) (D':={ b.inv with path:=c.inv.path,to_:=c.inv.to_ }) rfl rfl hf
 have go:=contents_core b.inv x.inv { x.inv with path:=d.inv.path,to_:=d.inv.to_ } { b.inv with path:=c.inv.path,to_:=c.inv.to_ }
 have ga:=contents_at (a:=b.inv) (b:=x.inv) (c:={ x.inv with path:=d.inv.path,to_:=d.inv.to_ }) (d:={ b.inv with path:=c.inv.path,to_:=c.inv.to_ }) rfl rfl gf
 have gg:=contents_off (a:=b.inv) (b:=x.inv) (c:={ x.inv with path:=d.inv.path,to_:=d.inv.to_ }) (d:={ b.inv with path:=c.inv.path,to_:=c.inv.to_ }) rfl rfl gf
 generalize Qp.contents b.inv x.inv { x.inv with path:=d.inv.path,to_:=d.inv.to_ } { b.inv with path:=c.inv.path,to_:=c.inv.to_ }=E at gf go ga gg ⊢
 obtain ⟨E1,E2,E3⟩:=E
 dsimp only at gf go ga gg
 obtain ⟨g1,g2,g3,g4⟩:=go
 have kc:=hb.kind
 have kd:=hd.kind
 have cci:=cc.inv
 have cdi:=cd.inv
 have edits:∀ n:Int,6≤n→((b.inv.kind=n∧x.inv.kind=n∧b.inv.path=d.inv.path) ↔ (x.kind=n∧b.kind=n∧x.path=c.path)):=by
  intro n hn6
  constructor
  ·rintro ⟨e1,e2,e3⟩
   have kb6:=inv_high kb (by omega)
   have kx6:=inv_high kx (by omega)
   rw [(inv_edit kb6).1] at e1
   rw [(inv_edit kx6).1] at e2
   rw [(inv_edit kb6).2.1,(inv_edit (q:=d) (by omega)).2.1,(hb.still (by omega)).1,(hd.still (by omega)).1] at e3
   exact ⟨e2,e1,e3.symm⟩
  ·rintro ⟨e1,e2,e3⟩
   refine ⟨by rw [(inv_edit (q:=b) (by omega)).1];exact e2,by rw [(inv_edit (q:=x) (by omega)).1];exact e1,?_⟩
   rw [(inv_edit (q:=b) (by omega)).2.1,(inv_edit (q:=d) (by omega)).2.1,(hb.still (by omega)).1,(hd.still (by omega)).1,e3]
 have at_eq:E1.at_=d.inv.at_∧E2.at_=c.inv.at_:=by
  by_cases e:x.kind=6∧b.kind=6∧x.path=c.path
  ·have e':=(edits 6 (by omega)).2 e
   have k1:=ga.1 e'.1 e'.2.1 e'.2.2
   have k2:=(fa.1 e.1 e.2.1 e.2.2).turn
   rw [inv_edit_eq (q:=b) (by omega),inv_edit_eq (q:=x) (by omega)] at k1
   rw [inv_edit_eq (q:=c) (by omega),inv_edit_eq (q:=d) (by omega)]
   exact k1.uniq k2
  ·have k1:=ga.2 (fun e'=>e ((edits 6 (by omega)).1 e'))
   have k2:=fa.2 e
   rw [k1.1,k1.2]
   exact ⟨(inv_at kd (fun _=>k2.2) kx).symm,(inv_at kc.symm (fun _=>k2.1) kb).symm⟩
 have off_eq:E1.off=d.inv.off∧E2.off=c.inv.off:=by
  by_cases e:x.kind=7∧b.kind=7∧x.path=c.path
  ·have e':=(edits 7 (by omega)).2 e
   have k1:=gg.1 e'.1 e'.2.1 e'.2.2
   have k2:=(fo.1 e.1 e.2.1 e.2.2).turn
   rw [inv_edit_eq (q:=b) (by omega),inv_edit_eq (q:=x) (by omega)] at k1
   rw [inv_edit_eq (q:=c) (by omega),inv_edit_eq (q:=d) (by omega)]
   exact k1.uniq k2
  ·have k1:=gg.2 (fun e'=>e ((edits 7 (by omega)).1 e'))
   have k2:=fo.2 e
   rw [k1.1,k1.2]
   exact ⟨(inv_off kd (fun _=>k2.2) kx).symm,(inv_off kc.symm (fun _=>k2.1) kb).symm⟩
 have r1:E1=d.inv:=Core.eq (r:=x.inv) (Core.trans ⟨rfl,rfl,rfl,rfl,rfl,rfl,rfl,rfl⟩ g1) cdi ⟨g3.1.symm.trans cdi.1.symm,g3.2.1.symm,g3.2.2.symm⟩ at_eq.1 off_eq.1
 have r2:E2=c.inv:=Core.eq (r:=b.inv) (Core.trans ⟨rfl,rfl,rfl,rfl,rfl,rfl,rfl,rfl⟩ g2) cci ⟨g4.1.symm.trans cci.1.symm,g4.2.1.symm,g4.2.2.symm⟩ at_eq.2 off_eq.2
 rw [r1,r2,gf]
theorem run_back {x b c d:Qp} (hx:x.check=0) (hb:b.check=0) (hc:c.check=0) (hd:d.check=0) (h1:x.run b=(c,d,true)) (h2:c.run d=(x,b,true)):b.inv.run x.inv=(d.inv,c.inv,true):=by
 have kx:=(check_parts hx).1
 have kb:=(check_parts hb).1
 have kc:=(check_parts hc).1
 have kd:=(check_parts hd).1
 obtain ⟨p1,p2,p3,p4,p5,p6,_⟩:=run_pieces h1 kx kb
 obtain ⟨q1,q2,q3,q4,q5,q6,_⟩:=run_pieces h2 kc kd
 exact run_turn hx hb hc hd h1 h2 (contents_back kx kb q2 p2 p3 p6)
theorem commute_pieces {a b c d:Qp} (h:a.commute b=(c,d,true)):a.check=0∧b.check=0∧c.check=0∧d.check=0∧a.run b=(c,d,true)∧c.run d=(a,b,true):=by
 unfold Qp.commute at h
 split at h
 ·simp only [Prod.mk.injEq] at h
  exact absurd h.2.2 (by decide)
 rename_i h0
 simp only [ne_eq,not_or,Decidable.not_not] at h0
 split at h
 ·simp only [Prod.mk.injEq] at h
  exact absurd h.2.2 (by decide)
 rename_i h1
 split at h
 ·rename_i h2
  simp only [Prod.mk.injEq,and_true] at h
  obtain ⟨rfl,rfl⟩:=h
  simp only [Bool.and_eq_true] at h2
  have r1:a.run b=((a.run b).1,(a.run b).2.1,true):=by
   have:(a.run b).2.2=true:=by simpa using h1
   rw [← this]
  have r2:(a.run b).1.run (a.run b).2.1=(a,b,true):=by
   exact Prod.ext (Qp.same_iff.1 h2.2.1) (Prod.ext (Qp.same_iff.1 h2.2.2) h2.1)
  have zz:(a.run b).1.check=0∧(a.run b).2.1.check=0:=by
   unfold Qp.run Qp.runOf at r1
   split at r1
   rotate_left
   ·simp only [Prod.mk.injEq] at r1
    exact absurd r1.2.2 (by decide)
   rename_i hh
   unfold Qp.run Qp.runOf
   rw [if_pos hh]
   simp only [Bool.and_eq_true,decide_eq_true_eq] at hh
   exact hh.2.2.2.2.2
  exact ⟨h0.1,h0.2,zz.1,zz.2,r1,r2⟩
 ·simp only [Prod.mk.injEq] at h
  exact absurd h.2.2 (by decide)
theorem commute_of {a b c d:Qp} (ha:a.check=0) (hb:b.check=0) (h1:a.run b=(c,d,true)) (h2:c.run d=(a,b,true)):a.commute b=(c,d,true):=by
 unfold Qp.commute
 rw [if_neg (by simp [ha,hb]),h1]
 simp only [h2,Bool.true_eq_false,if_false]
 rw [if_pos (by simp [Qp.same_iff.2])]
theorem commute_inv {a b c d:Qp} (h:a.commute b=(c,d,true)):b.inv.commute a.inv=(d.inv,c.inv,true):=by
 obtain ⟨ha,hb,hc,hd,r1,r2⟩:=commute_pieces h
 exact commute_of (inv_check hb) (inv_check ha) (run_back ha hb hc hd r1 r2) (run_back hc hd ha hb r2 r1)
end Go.Proofs.YtfmgnaigcibcaaaGreatDoor
