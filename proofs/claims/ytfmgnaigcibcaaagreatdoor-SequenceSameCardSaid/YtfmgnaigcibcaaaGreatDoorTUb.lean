import Derived.Test.YtfmgnaigcibcaaaGreatDoorTUa
set_option linter.unusedSimpArgs false
set_option linter.unusedVariables false
namespace Go.Proofs.YtfmgnaigcibcaaaGreatDoor
open Go Pa
namespace Um
theorem lines_of {s:ByteArray} {A B o w:List ByteArray} (h:Qm.linesOf s=A ++ o ++ B) (hw:∀ x∈w,10 ∉ L x):Qm.linesOf (Qm.joinOf (A ++ w ++ B))=A ++ w ++ B:=Txt.lines_join fun x hx=>by
 simp only [List.mem_append] at hx
 rcases hx with (hx | hx) | hx
 ·exact (Txt.lines_ten _ s (Nat.le_refl _) x (by rw [h];simp [hx])).1
 ·exact hw x hx
 ·exact (Txt.lines_ten _ s (Nat.le_refl _) x (by rw [h];simp [hx])).1
theorem ended_of (l:List ByteArray):Txt.Ended (L (Qm.joinOf l)):=by rw [Txt.L_join];exact Txt.ended_join l
theorem cross_lists {α:Type} {A B A' B' n o:List α} (h:A ++ n ++ B=A' ++ o ++ B') (hx:A.length+n.length < A'.length):∃ X,A'=A ++ n ++ X∧B=X ++ o ++ B':=by
 rw [List.append_assoc A'] at h
 rcases List.append_eq_append_iff.1 h with ⟨X,h1,h2⟩ | ⟨X,h1,h2⟩
 ·exact ⟨X,h1,by rw [h2,List.append_assoc]⟩
 ·have:=congrArg List.length h1
  simp only [List.length_append] at this
  omega
theorem new_lines {q:Qp} (h:q.check=0) (k:q.kind=6):(∀ x∈q.old,10 ∉ L x)∧(∀ x∈q.new,10 ∉ L x)∧0≤q.at_:=by
 obtain ⟨h1,_,_,h2,_⟩:=(check_edit h).six k
 exact ⟨fun x hx=>(h2 x (List.mem_append_left _ hx)).2.1,fun x hx=>(h2 x (List.mem_append_right _ hx)).2.1,h1⟩
theorem ed_cross {a b c d:Qp} (cc:Core b c) (cd:Core a d) (ha:a.check=0) (hb:b.check=0)
 (at6:a.kind=6→b.kind=6→Cross a.at_ a.old.length a.new.length b.at_ b.old.length b.new.length c.at_ d.at_)
 (atN:¬ (a.kind=6∧b.kind=6)→c.at_=b.at_∧d.at_=a.at_)
 (of7:a.kind=7→b.kind=7→Cross a.off a.so.size a.sn.size b.off b.so.size b.sn.size c.off d.off)
 (ofN:¬ (a.kind=7∧b.kind=7)→c.off=b.off∧d.off=a.off)
 (n8:¬ (a.kind=8∧b.kind=8)) {n m z:Nd} (h1:EdU a n m) (h2:EdU b m z):∃ m',EdU c n m'∧EdU d m' z:=by
 by_cases k66:a.kind=6∧b.kind=6
 ·obtain ⟨k1,k2⟩:=k66
  cases h1 with
  | seven k=>omega
  | eight k=>omega
  | six k t en A B h hA e=>
  cases h2 with
  | seven k=>omega
  | eight k=>omega
  | six k' t' en' A' B' h' hA' e'=>
  obtain ⟨_,w2,w3⟩:=new_lines ha k1
  obtain ⟨_,v2,v3⟩:=new_lines hb k2
  obtain ⟨c1,c2,c3,c4,c5,c6,c7,c8⟩:=cc
  obtain ⟨d1,d2,d3,d4,d5,d6,d7,d8⟩:=cd
  obtain ⟨_,of2⟩:=ofN (by omega)
  subst e
  have hl:=lines_of h w2
  rw [show Qm.linesOf _=_ from hl] at h'
  rcases at6 k1 k2 with ⟨x1,x2,x3⟩ | ⟨x1,_,x2,x3⟩
  ·obtain ⟨X,rfl,rfl⟩:=cross_lists h' (by omega)
   simp only [List.length_append] at hA'
   have hn:Qm.linesOf n.data=(A ++ a.old ++ X) ++ b.old ++ B':=by rw [h];simp only [List.append_assoc]
   refine ⟨{ n with data:=Qm.joinOf ((A ++ a.old ++ X) ++ b.new ++ B') },.six (c1.trans k2) t en (A ++ a.old ++ X) B' (by rw [c3];exact hn) (by simp only [List.length_append];omega) (by rw [c4]),.six (d1.trans k1) t (ended_of _) A (X ++ b.new ++ B') ?_ (by omega) ?_⟩
   ·show Qm.linesOf (Qm.joinOf _)=_
    rw [lines_of hn v2,d3]
    simp only [List.append_assoc]
   ·rw [e',d4]
    simp only [List.append_assoc]
  ·obtain ⟨X,rfl,rfl⟩:=cross_lists h'.symm (by omega)
   simp only [List.length_append] at hA
   have hn:Qm.linesOf n.data=A' ++ b.old ++ (X ++ a.old ++ B):=by rw [h];simp only [List.append_assoc]
   refine ⟨{ n with data:=Qm.joinOf (A' ++ b.new ++ (X ++ a.old ++ B)) },.six (c1.trans k2) t en A' (X ++ a.old ++ B) (by rw [c3];exact hn) (by omega) (by rw [c4]),.six (d1.trans k1) t (ended_of _) (A' ++ b.new ++ X) B ?_ (by simp only [List.length_append];omega) ?_⟩
   ·show Qm.linesOf (Qm.joinOf _)=_
    rw [lines_of hn v2,d3]
    simp only [List.append_assoc]
   ·rw [e',d4]
    simp only [List.append_assoc]
 by_cases k77:a.kind=7∧b.kind=7
 ·obtain ⟨k1,k2⟩:=k77
  cases h1 with
  | six k=>omega
  | eight k=>omega
  | seven k t A B h hA s hs e=>
  cases h2 with
  | six k=>omega
  | eight k=>omega
  | seven k' t' A' B' h' hA' s' hs' e'=>
  obtain ⟨c1,c2,c3,c4,c5,c6,c7,c8⟩:=cc
  obtain ⟨d1,d2,d3,d4,d5,d6,d7,d8⟩:=cd
  subst e
  rw [show L _=_ from hs] at h'
  have z1:(L a.so).length=a.so.size:=rfl
  have z2:(L a.sn).length=a.sn.size:=rfl
  have z3:(L b.so).length=b.so.size:=rfl
  have z4:(L b.sn).length=b.sn.size:=rfl
  rcases of7 k1 k2 with ⟨x1,x2,x3⟩ | ⟨x1,_,x2,x3⟩
  ·obtain ⟨X,rfl,rfl⟩:=cross_lists h' (by omega)
   simp only [List.length_append] at hA'
   obtain ⟨y,hy⟩:=L_of ((A ++ L a.so ++ X) ++ L b.sn ++ B')
   refine ⟨{ n with data:=y },.seven (c1.trans k2) t (A ++ L a.so ++ X) B' (by rw [c5,h];simp only [List.append_assoc]) (by simp only [List.length_append];omega) y (by rw [c6];exact hy) rfl,.seven (d1.trans k1) t A (X ++ L b.sn ++ B') ?_ (by omega) s' ?_ e'⟩
   ·show L y=_
    rw [hy,d5]
    simp only [List.append_assoc]
   ·rw [hs',d6]
    simp only [List.append_assoc]
  ·obtain ⟨X,rfl,rfl⟩:=cross_lists h'.symm (by omega)
   simp only [List.length_append] at hA
   obtain ⟨y,hy⟩:=L_of (A' ++ L b.sn ++ (X ++ L a.so ++ B))
   refine ⟨{ n with data:=y },.seven (c1.trans k2) t A' (X ++ L a.so ++ B) (by rw [c5,h];simp only [List.append_assoc]) (by omega) y (by rw [c6];exact hy) rfl,.seven (d1.trans k1) t (A' ++ L b.sn ++ X) B ?_ (by simp only [List.length_append];omega) s' ?_ e'⟩
   ·show L y=_
    rw [hy,d5]
    simp only [List.append_assoc]
   ·rw [hs',d6]
    simp only [List.append_assoc]
 obtain ⟨p1,p2⟩:=atN k66
 obtain ⟨p3,p4⟩:=ofN k77
 have ec:∀ {x y:Nd},EdU b x y→EdU c x y:=fun h=>h.core cc p1 p3
 have ed:∀ {x y:Nd},EdU a x y→EdU d x y:=fun h=>h.core cd p2 p4
 have t2:=h1.ty
 cases h1 with
 | six k t en A B h hA e=>
   cases h2 with
   | six k'=>omega
   | seven k' t'=>rw [t2] at t';omega
   | eight k' t' m' e'=>
     subst e
     refine ⟨{ n with mode:=b.nm },ec (.eight k' t' m' rfl),ed ?_⟩
     rw [e']
     exact .six k t en A B h hA rfl
 | seven k t A B h hA s hs e=>
   cases h2 with
   | six k' t'=>rw [t2] at t';omega
   | seven k'=>omega
   | eight k' t' m' e'=>
     subst e
     refine ⟨{ n with mode:=b.nm },ec (.eight k' t' m' rfl),ed ?_⟩
     rw [e']
     exact .seven k t A B h hA s hs rfl
 | eight k t m e=>
   subst e
   cases h2 with
   | six k' t' en A B h hA e'=>
     refine ⟨{ n with data:=Qm.joinOf (A ++ b.new ++ B) },ec (.six k' t' en A B h hA rfl),ed ?_⟩
     rw [e']
     exact .eight k t m rfl
   | seven k' t' A B h hA s hs e'=>
     refine ⟨{ n with data:=s },ec (.seven k' t' A B h hA s hs rfl),ed ?_⟩
     rw [e']
     exact .eight k t m rfl
   | eight k'=>omega
structure Xc (a b c d:Qp):Prop where
 ha:a.check=0
 hb:b.check=0
 hc:c.check=0
 hd:d.check=0
 t1:Th a.inv b c
 t2:Th c a d
 f2:∀ s,New a s→New b s→False
 f3:∀ s,New d s→New c s→False
 hk:Qp.contents a b { b with path:=c.path,to_:=c.to_ } { a with path:=d.path,to_:=d.to_ }=(c,d,true)
 f1:∀ s,New c s→Qm.frees a.kind=true→s≠a.path
 cm:Cm a b c d
 cm':Cm c d a b
theorem xc_of {a b c d:Qp} (h:a.commute b=(c,d,true)):Xc a b c d:=by
 obtain ⟨ha,hb,hc,hd,r1,r2⟩:=commute_pieces h
 obtain ⟨t1,t2,f2,f3,_,hk,f1⟩:=run_pieces r1 (check_parts ha).1 (check_parts hb).1
 exact ⟨ha,hb,hc,hd,t1,t2,f2,f3,hk,f1,run_cm r1 ha hb,run_cm r2 hc hd⟩
theorem inv_path {q:Qp} (k:1≤q.kind∧q.kind≤8) (k5:q.kind≠5):q.inv.path=q.path∧(q.inv.kind≤4 ↔ q.kind≤4)∧q.inv.kind≠5:=by
 by_cases k1:q.kind=1∨q.kind=3
 ·obtain ⟨h1,_,h2,_⟩:=inv_makes k1
  exact ⟨h2,by omega,by omega⟩
 by_cases k2:q.kind=2∨q.kind=4
 ·obtain ⟨h1,_,h2,_⟩:=inv_undoes k2
  exact ⟨h2,by omega,by omega⟩
 obtain ⟨h1,h2,_⟩:=inv_edit (q:=q) (by omega)
 exact ⟨h2,by omega,by omega⟩
theorem th_out {q r r':Qp} (t:Th q r r') (k5:q.kind≠5):r'.path=r.path∧¬ sw (L r.path) (L q.path)∧(Qm.adds r.kind=false→q.kind≤4→¬ wi (L r.path) (L q.path)):=by
 refine ⟨(t.still k5).1,?_,fun ea k4=>?_⟩
 ·cases ea:Qm.adds r.kind
  ·have:=t.old ea
   unfold Af at this
   rw [if_neg k5] at this
   have:=this.2
   split at this
   ·exact not_sw_of this
   ·exact this
  ·have:=t.new ea
   unfold Na at this
   rw [if_neg k5] at this
   exact this.2
 ·have:=t.old ea
  unfold Af at this
  rw [if_neg k5,if_pos k4] at this
  exact this.2
theorem th_to {q r r':Qp} (t:Th q r r') (k5:q.kind≠5) (k:r.kind=5):r'.to_=r.to_∧¬ sw (L r.to_) (L q.path):=by
 have:=t.to5 k
 unfold Na at this
 rw [if_neg k5] at this
 exact ⟨L_inj this.1,this.2⟩
theorem par_keep {M T:Mp} {u p:ByteArray} (h:Dir M (Tr.parent u)) (k:∀ y,y≠p→T y=M y) (n:¬ sw (L u) (L p)):Dir T (Tr.parent u):=by
 rcases h with h | ⟨m,hm,h4⟩
 ·exact .inl h
 ·by_cases e:Tr.parent u=⟨#[]⟩
  ·exact .inl e
  ·exact .inr ⟨m,by rw [k _ (fun e'=>n (by rw [← e'];exact parent_ne e))];exact hm,h4⟩
section
variable {a b c d:Qp} {M T V:Mp}
theorem dia_nn (x:Xc a b c d) (k5a:a.kind≠5) (k5b:b.kind≠5) (h1:Lo a M T) (h2:Lo b T V):∃ T',Du c M T'∧Du d T' V:=by
 have kc:=x.t1.kind
 have kd:=x.t2.kind
 have ka:=(check_parts x.ha).1
 have kb:=(check_parts x.hb).1
 obtain ⟨i1,i2,i3⟩:=inv_path ka k5a
 obtain ⟨p1,w1,v1⟩:=th_out x.t1 i3
 obtain ⟨p2,w2,v2⟩:=th_out x.t2 (by rw [kc];exact k5b)
 rw [i1] at w1 v1
 rw [p1] at w2 v2
 by_cases e:a.path=b.path
 ·have hk6:6≤a.kind∧6≤b.kind:=by
   refine ⟨?_,?_⟩
   ·by_cases k:a.kind≤4
    ·exfalso
     cases eb:Qm.adds b.kind
     ·exact v1 eb (i2.2 k) (by rw [e];exact wi.refl _)
     ·cases ea:Qm.adds a.kind
      ·have:=adds_iff.1 eb
       exact v2 ea (by omega) (by rw [e];exact wi.refl _)
      ·exact x.f2 a.path (.inl ⟨ea,rfl⟩) (.inl ⟨eb,e⟩)
    ·omega
   ·by_cases k:b.kind≤4
    ·exfalso
     cases ea:Qm.adds a.kind
     ·exact v2 ea (by omega) (by rw [e];exact wi.refl _)
     ·cases eb:Qm.adds b.kind
      ·have:=adds_iff.1 ea
       exact v1 eb (i2.2 (by omega)) (by rw [e];exact wi.refl _)
      ·exact x.f2 a.path (.inl ⟨ea,rfl⟩) (.inl ⟨eb,e⟩)
    ·omega
  obtain ⟨k6a,k6b⟩:=hk6
  have n8:¬ (a.kind=8∧b.kind=8):=fun k8=>by
   have hk:=x.hk
   unfold Qp.contents at hk
   rw [if_neg,if_pos (.inr k8)] at hk
   ·have:=congrArg (fun r=>r.2.2) hk
    exact absurd this (by simp)
   ·show ¬ (Qm.adds a.kind=true∨Qm.adds b.kind=true∨Qm.eqB a.path c.path=false)
    rw [p1,← e,adds_iff,adds_iff,Qm.eqB_iff.2 rfl]
    rintro (k | k | k)
    ·omega
    ·omega
    ·cases k
  obtain ⟨l1,r1,_,_⟩:=h1
  obtain ⟨l2,r2,_,_⟩:=h2
  cases l1 with
  | add k=>omega
  | rem k=>omega
  | ed n m q1 q2 q3=>
  rw [← e] at l2 r2
  cases l2 with
  | add k=>omega
  | rem k=>omega
  | ed m' z q4 q5 q6=>
  obtain rfl:=Option.some.inj (q4.symm.trans q2)
  obtain ⟨y,q7,q8⟩:=ed_cross x.cm.cc x.cm.cd x.ha x.hb (fun k k'=>x.cm.at6 k k' (e.trans p1.symm)) (fun k=>x.cm.atN (fun k'=>k ⟨k'.1,k'.2.1⟩)) (fun k k'=>x.cm.of7 k k' (e.trans p1.symm)) (fun k=>x.cm.ofN (fun k'=>k ⟨k'.1,k'.2.1⟩)) n8 q3 q6
  have pc:c.path=a.path:=p1.trans e.symm
  refine ⟨upd M a.path (some y),.lo (by omega) ⟨?_,fun w hw=>?_,fun k=>?_,fun k=>by omega⟩,.lo (by omega) ⟨?_,fun w hw=>?_,fun k=>?_,fun k=>by omega⟩⟩
  ·rw [pc,upd_at];exact .ed n y q1 rfl q7
  ·rw [pc] at hw;exact upd_ne hw
  ·have:=adds_iff.1 k;omega
  ·rw [p2,upd_at];exact .ed y z rfl q5 q8
  ·rw [p2] at hw
   rw [upd_ne hw,r2 w hw,r1 w hw]
  ·have:=adds_iff.1 k;omega
 ·have n1:¬ wi (L a.path) (L b.path):=not_wi_of w2 (fun k=>e (L_inj k))
  have n2:¬ wi (L b.path) (L a.path):=not_wi_of w1 (fun k=>e (L_inj k).symm)
  have hat:=x.cm.atN (fun k=>e (k.2.2.trans p1))
  have hof:=x.cm.ofN (fun k=>e (k.2.2.trans p1))
  refine ⟨upd M b.path (V b.path),.lo (by rw [kc];exact k5b) ⟨?_,fun y hy=>?_,fun k=>?_,fun k y hy=>?_⟩,.lo (by rw [kd];exact k5a) ⟨?_,fun y hy=>?_,fun k=>?_,fun k y hy=>?_⟩⟩
  ·rw [p1,upd_at,← h1.rest b.path (Ne.symm e)]
   exact h2.loc.core x.cm.cc hat.1 hof.1
  ·rw [p1] at hy;exact upd_ne hy
  ·rw [p1]
   exact par_keep (h2.dir (by rw [← kc];exact k)) (fun y hy=>(h1.rest y hy).symm) w1
  ·rw [p1] at hy
   have:=h2.bare (by omega) y hy
   rwa [h1.rest y (fun e'=>n1 (by rw [← e'];exact hy.wi))] at this
  ·rw [p2,upd_ne e,h2.rest a.path e]
   exact h1.loc.core x.cm.cd hat.2 hof.2
  ·rw [p2] at hy
   by_cases ey:y=b.path
   ·rw [ey,upd_at]
   ·rw [upd_ne ey,h2.rest y ey,h1.rest y hy]
  ·rw [p2]
   exact par_keep (h1.dir (by rw [← kd];exact k)) (fun y hy=>upd_ne hy) w2
  ·rw [p2] at hy
   rw [upd_ne (fun e'=>n2 (by rw [← e'];exact hy.wi))]
   exact h1.bare (by omega) y hy
theorem mv_sw {s t z v x y:List UInt8} (hz:Mv s t z v) (hx:Mv s t x y) (w:sw z x) (n:¬ wi s x):sw v y:=by
 obtain ⟨e,e0,he,rfl⟩:=w
 rcases hx with ⟨f,hf,rfl,rfl⟩ | ⟨g1,g2,rfl⟩
 ·have:v=t ++ f ++ e:=by
   refine hz.uniq (.inl ⟨f ++ e,hf.app he,by simp only [List.append_assoc],by simp only [List.append_assoc]⟩)
  rw [this]
  exact sw.mk he e0
 ·rcases hz with ⟨f,hf,h1,_⟩ | ⟨_,_,rfl⟩
  ·have hw:wi (y ++ e) s:=⟨f,hf,h1⟩
   exact (hw.chain (wi.mk he)).elim (fun k=>(n k).elim) (fun k=>(g1 k).elim)
  ·exact sw.mk he e0
theorem dia_mn (x:Xc a b c d) (k5a:a.kind=5) (k5b:b.kind≠5) (hM:Ug M) (h1:Mo a.path a.to_ M T) (h2:Lo b T V):∃ T',Du c M T'∧Du d T' V:=by
 have kc:=x.t1.kind
 have kd:=x.t2.kind
 have kb:=(check_parts x.hb).1
 obtain ⟨j1,j2,j3⟩:=inv_mv k5a
 obtain ⟨n1,n2⟩:=check_move x.ha k5a
 have hs:=q_ne x.ha
 have ht:=q_to x.ha k5a
 obtain ⟨p2,w2,v2⟩:=th_out x.t2 (by rw [kc];exact k5b)
 obtain ⟨p3,w3⟩:=th_to x.t2 (by rw [kc];exact k5b) k5a
 have ea:Qm.adds a.kind=false:=by rw [k5a];rfl
 have v2:=v2 ea
 have hnv:Qm.adds b.kind=true→Nv (L a.path) (L a.to_) (L c.path) (L b.path):=fun k=>by
  have:=x.t1.new k
  unfold Na at this
  rw [if_pos j1,j2,j3] at this
  exact this.symm
 have hmv:Mv (L a.path) (L a.to_) (L c.path) (L b.path):=by
  cases k:Qm.adds b.kind
  ·have:=x.t1.old k
   unfold Af at this
   rw [if_pos j1,j2,j3] at this
   exact this.symm
  ·have h:=hnv k
   refine Mv_of h (fun e=>x.f1 c.path (.inl ⟨by rw [kc];exact k,rfl⟩) (by rw [k5a];rfl) (L_inj e)) fun e=>?_
   rw [e] at h
   rcases h with ⟨f,_,hf,h4,_⟩ | ⟨_,_,h4⟩
   ·exact n2 ⟨f,hf,h4⟩
   ·exact x.f2 a.to_ (.inr ⟨k5a,rfl⟩) (.inl ⟨k,(L_inj h4).symm⟩)
 have hat:=x.cm.atN (fun k=>by omega)
 have hof:=x.cm.ofN (fun k=>by omega)
 have hxt:a.to_≠c.path:=fun e=>Mv_src n1 n2 hmv.symm (by rw [e];exact wi.refl _)
 have hys:¬ wi (L b.path) (L a.path):=Mv_src n2 n1 hmv
 have hsx:a.path=c.path→V b.path≠none:=fun e=>by
  have hl:=h2.loc
  cases hl with
  | add k _ e'=>rw [e'];exact fun e=>nomatch e
  | rem k _ _=>exact (v2 (by omega) (by rw [e];exact wi.refl _)).elim
  | ed _ _ _ e' _=>rw [e'];exact fun e=>nomatch e
 refine ⟨upd M c.path (V b.path),.lo (by rw [kc];exact k5b) ⟨?_,fun y hy=>upd_ne hy,fun k=>?_,fun k z hz=>?_⟩,.mo (by rw [kd];exact k5a) ?_⟩
 ·rw [upd_at,← h1.mv _ _ hmv]
  exact h2.loc.core x.cm.cc hat.1 hof.1
 ·rw [kc] at k
  exact (h1.dirs hs ht (hnv k)).2 (h2.dir k)
 ·cases e:M z with
  | none=>rfl
  | some n=>
    obtain ⟨v,hv,e'⟩:=h1.go hM ht (u:=z) (by rw [e];exact fun e=>nomatch e)
    rw [h2.bare (by omega) v (mv_sw hv hmv hz (v2 (by omega))),e] at e'
    cases e'
 ·rw [p2,p3]
  refine ⟨?_,?_,par_keep h1.dir (fun y hy=>upd_ne hy) w3,fun u v huv=>?_,fun v hv=>?_⟩
  ·by_cases e:a.path=c.path
   ·rw [← e,upd_at];exact hsx e
   ·rw [upd_ne e];exact h1.is
  ·rw [upd_ne hxt];exact h1.free
  ·by_cases e:u=c.path
   ·subst e
    rw [L_inj (huv.uniq hmv),upd_at]
   ·have:v≠b.path:=fun e'=>e (L_inj (by rw [e'] at huv;exact huv.symm.uniq hmv.symm))
    rw [upd_ne e,h2.rest v this,h1.mv u v huv]
  ·rw [h2.rest v (fun e=>hys (by rw [← e];exact hv)),h1.gone v hv]
theorem dia_nm (x:Xc a b c d) (k5a:a.kind≠5) (k5b:b.kind=5) (hM:Ug M) (h1:Lo a M T) (h2:Mo b.path b.to_ T V):∃ T',Du c M T'∧Du d T' V:=by
 have kc:=x.t1.kind
 have kd:=x.t2.kind
 have ka:=(check_parts x.ha).1
 obtain ⟨i1,i2,i3⟩:=inv_path ka k5a
 obtain ⟨n1,n2⟩:=check_move x.hb k5b
 have hs:=q_ne x.hb
 have ht:=q_to x.hb k5b
 obtain ⟨p1,w1,v1⟩:=th_out x.t1 i3
 obtain ⟨p3,w3⟩:=th_to x.t1 i3 k5b
 rw [i1] at w1 v1 w3
 have v1:a.kind≤4→¬ wi (L b.path) (L a.path):=fun k=>v1 (by rw [k5b];rfl) (i2.2 k)
 have k5c:c.kind=5:=kc.trans k5b
 have hnv:Qm.adds a.kind=true→Nv (L b.path) (L b.to_) (L a.path) (L d.path):=fun k=>by
  have:=x.t2.new k
  unfold Na at this
  rwa [if_pos k5c,p1,p3] at this
 have hmv:Mv (L b.path) (L b.to_) (L a.path) (L d.path):=by
  cases k:Qm.adds a.kind
  ·have:=x.t2.old k
   unfold Af at this
   rwa [if_pos k5c,p1,p3] at this
  ·have k4:=adds_iff.1 k
   exact Mv_of (hnv k) (fun e=>v1 (by omega) (by rw [e];exact wi.refl _)) fun e=>x.f2 a.path (.inl ⟨k,rfl⟩) (.inr ⟨k5b,L_inj e⟩)
 have hat:=x.cm.atN (fun k=>by omega)
 have hof:=x.cm.ofN (fun k=>by omega)
 have hxt:b.to_≠a.path:=fun e=>Mv_src n1 n2 hmv.symm (by rw [e];exact wi.refl _)
 have his:M b.path≠none:=by
  by_cases e:b.path=a.path
  ·have hl:=h1.loc
   rw [← e] at hl
   cases hl with
   | add k _ _=>exact (v1 (by omega) (by rw [e];exact wi.refl _)).elim
   | rem _ e' _=>rw [e'];exact fun e=>nomatch e
   | ed _ _ e' _ _=>rw [e'];exact fun e=>nomatch e
  ·rw [← h1.rest _ e];exact h2.is
 have hfr:M b.to_=none:=by rw [← h1.rest _ hxt];exact h2.free
 have hdir:Dir M (Tr.parent b.to_):=par_keep h2.dir (fun y hy=>(h1.rest y hy).symm) w3
 have hm:=mo_moved n2 n1 his hfr hdir
 refine ⟨moved b.path b.to_ M,.mo k5c (by rw [p1,p3];exact hm),.lo (by rw [kd];exact k5a) ⟨?_,fun v hv=>?_,fun k=>?_,fun k z hz=>?_⟩⟩
 ·rw [hm.mv _ _ hmv,h2.mv _ _ hmv]
  exact h1.loc.core x.cm.cd hat.2 hof.2
 ·by_cases w:wi (L v) (L b.path)
  ·rw [h2.gone v w,hm.gone v w]
  ·obtain ⟨u,hu⟩:=Mv_from b.path b.to_ w
   rw [h2.mv u v hu,hm.mv u v hu]
   exact h1.rest u fun e=>hv (L_inj (by rw [e] at hu;exact hu.uniq hmv))
 ·rw [kd] at k
  exact (hm.dirs hs ht (hnv k)).1 (h1.dir k)
 ·cases e:moved b.path b.to_ M z with
  | none=>rfl
  | some n=>
    obtain ⟨u,hu,e'⟩:=hm.come (v:=z) (by rw [e];exact fun e=>nomatch e)
    have hty:¬ wi (L b.to_) (L d.path):=fun w=>by
     rcases hmv with ⟨f,hf,q1,q2⟩ | ⟨q1,q2,q3⟩
     ·rw [q2] at w
      obtain ⟨g,_,hg⟩:=w
      have:=congrArg List.length hg
      simp only [List.length_append] at this
      have f0:f=[]:=List.length_eq_zero_iff.1 (by omega)
      rw [f0,List.append_nil] at q1
      exact v1 (by omega) (by rw [q1];exact wi.refl _)
     ·rw [q3] at w
      rcases w.eq_or with w | w
      ·exact x.f1 b.to_ (.inr ⟨k5c,p3.symm⟩) (by rcases k with k | k <;> rw [kd] at k <;> rw [k] <;> rfl) (L_inj w)
      ·exact w3 w
    rw [h1.bare (by omega) u (mv_sw hu.symm hmv.symm hz hty),e] at e'
    cases e'
theorem dia_mm (x:Xc a b c d) (k5a:a.kind=5) (k5b:b.kind=5) (h1:Mo a.path a.to_ M T) (h2:Mo b.path b.to_ T V):∃ T',Du c M T'∧Du d T' V:=by
 have k5c:c.kind=5:=x.t1.kind.trans k5b
 have k5d:d.kind=5:=x.t2.kind.trans k5a
 have S1:=x.cm.square k5a k5b
 have S2:=x.cm'.square k5c k5d
 obtain ⟨a1,a2⟩:=check_move x.ha k5a
 obtain ⟨b1,b2⟩:=check_move x.hb k5b
 obtain ⟨c1,c2⟩:=check_move x.hc k5c
 obtain ⟨d1,d2⟩:=check_move x.hd k5d
 have s1:=q_ne x.ha
 have t1:=q_to x.ha k5a
 have s3:=q_ne x.hc
 have t3:=q_to x.hc k5c
 have m1:Mv (L a.path) (L a.to_) (L c.path) (L b.path):=S1.e1.symm
 have m2:Nv (L a.path) (L a.to_) (L c.to_) (L b.to_):=S1.e2.symm
 have g1:c.to_≠a.to_:=fun e=>by
  rw [e] at m2
  rcases m2 with ⟨f,_,hf,h4,_⟩ | ⟨_,_,h4⟩
  ·exact a2 ⟨f,hf,h4⟩
  ·exact S1.x3 h4.symm
 have m2':Mv (L a.path) (L a.to_) (L c.to_) (L b.to_):=Mv_of m2 S1.x2 (fun e=>g1 (L_inj e))
 have g2:a.to_≠c.path:=fun e=>by
  rw [← e] at m1
  rcases m1 with ⟨f,hf,h4,_⟩ | ⟨_,h4,_⟩
  ·exact a2 ⟨f,hf,h4⟩
  ·exact h4 (wi.refl _)
 have m4:Mv (L c.path) (L c.to_) (L a.to_) (L d.to_):=Mv_of S1.e4 (fun e=>g2 (L_inj e)) (fun e=>g1 (L_inj e).symm)
 have is':M c.path≠none:=by rw [← h1.mv _ _ m1];exact h2.is
 have fr':M c.to_=none:=by rw [← h1.mv _ _ m2'];exact h2.free
 have hm:=mo_moved c2 c1 is' fr' ((h1.dirs s1 t1 m2).2 h2.dir)
 have back:∀ v,V v≠none→∃ r':ByteArray,Mv (L c.path) (L c.to_) (L r') (L r')∨True:=fun _ _=>⟨⟨#[]⟩,.inr trivial⟩
 have come:∀ v,V v≠none→∃ w u:ByteArray,Mv (L c.path) (L c.to_) (L w) (L u)∧Mv (L d.path) (L d.to_) (L u) (L v)∧V v=M w:=fun v hv=>by
  obtain ⟨r,hr,e1⟩:=h2.come hv
  obtain ⟨w,hw,e2⟩:=h1.come (v:=r) (by rw [← e1];exact hv)
  obtain ⟨l,q1,q2⟩:=Pa.square S1 hw hr
  obtain ⟨u,rfl⟩:=L_of l
  exact ⟨w,u,q1,q2,e1.trans e2⟩
 refine ⟨moved c.path c.to_ M,.mo k5c hm,.mo k5d ⟨?_,?_,(hm.dirs s3 t3 S1.e4).1 h1.dir,fun u v huv=>?_,fun v hv=>?_⟩⟩
 ·rw [hm.mv _ _ S1.e3];exact h1.is
 ·rw [hm.mv _ _ m4];exact h1.free
 ·by_cases w:wi (L u) (L c.path)
  ·rw [hm.gone u w]
   cases e:V v with
   | none=>rfl
   | some n=>
     obtain ⟨w',u',q1,q2,_⟩:=come v (by rw [e];exact fun e=>nomatch e)
     have:u'=u:=L_inj (q2.symm.uniq huv.symm)
     rw [this] at q1
     exact (Mv_src c2 c1 q1 w).elim
  ·obtain ⟨w',hw⟩:=Mv_from c.path c.to_ w
   rw [hm.mv _ _ hw]
   obtain ⟨l,q1,q2⟩:=Pa.square S2 hw huv
   obtain ⟨r,rfl⟩:=L_of l
   rw [h2.mv _ _ q2,h1.mv _ _ q1]
 ·cases e:V v with
  | none=>rfl
  | some n=>
    obtain ⟨w',u',q1,q2,_⟩:=come v (by rw [e];exact fun e=>nomatch e)
    exact (Mv_src d2 d1 q2 hv).elim
theorem diamond (h:a.commute b=(c,d,true)) (hM:Ug M) (h1:Du a M T) (h2:Du b T V):∃ T',Du c M T'∧Du d T' V:=by
 have x:=xc_of h
 cases h1 with
 | lo k1 h1=>
   cases h2 with
   | lo k2 h2=>exact dia_nn x k1 k2 h1 h2
   | mo k2 h2=>exact dia_nm x k1 k2 hM h1 h2
 | mo k1 h1=>
   cases h2 with
   | lo k2 h2=>exact dia_mn x k1 k2 hM h1 h2
   | mo k2 h2=>exact dia_mm x k1 k2 h1 h2
end
theorem EdU.back {q:Qp} {n n':Nd} (hq:q.check=0) (h:EdU q n n'):EdU q.inv n' n:=by
 have hk:=h.kind
 have hi:=Qp.inv_edit (q:=q) (by have :=(check_parts hq).1;omega)
 cases h with
 | six k t en A B h hA e=>
   obtain ⟨w1,w2,w3⟩:=new_lines hq k
   subst e
   refine .six (by rw [hi];exact k) t (ended_of _) A B (by rw [hi];exact lines_of h w2) (by rw [hi];exact hA) ?_
   rw [hi]
   show n={ n with data:=Qm.joinOf (A ++ q.old ++ B) }
   have e:Qm.joinOf (A ++ q.old ++ B)=n.data:=L_inj (by rw [Txt.L_join,← h];exact Txt.join_lines _ _ (Nat.le_refl _) en)
   rw [e]
 | seven k t A B h hA d hd e=>
   subst e
   refine .seven (by rw [hi];exact k) t A B (by rw [hi];exact hd) (by rw [hi];exact hA) n.data (by rw [hi];exact h) rfl
 | eight k t m e=>
   subst e
   refine .eight (by rw [hi];exact k) t (by rw [hi]) ?_
   rw [hi]
   show n={ n with mode:=q.om }
   rw [← m]
theorem not_sw_self (l:List UInt8):¬ sw l l:=fun h=>h.ne rfl
theorem Du.back {q:Qp} {M M':Mp} (hq:q.check=0) (hM:Ug M) (h:Du q M M'):Du q.inv M' M:=by
 have hk:=(check_parts hq).1
 cases h with
 | mo k h=>
   obtain ⟨j1,j2,j3⟩:=inv_mv k
   obtain ⟨n1,n2⟩:=check_move hq k
   have hs:=q_ne hq
   have ht:=q_to hq k
   refine .mo j1 ?_
   rw [j2,j3]
   have m0:Mv (L q.path) (L q.to_) (L q.path) (L q.to_):=.inl ⟨[],.nil,by simp,by simp⟩
   refine ⟨by rw [h.mv _ _ m0];exact h.is,h.gone _ (wi.refl _),?_,fun u v huv=>(h.mv _ _ huv.symm).symm,fun v hv=>hM.bare ht h.free hv⟩
   obtain ⟨n,hn⟩:=some_of h.is
   rcases hM _ _ hn with hd | ⟨m,hm,h4⟩
   ·exact .inl hd
   ·by_cases e:Tr.parent q.path=⟨#[]⟩
    ·exact .inl e
    ·have hw:=parent_ne e
     refine .inr ⟨m,?_,h4⟩
     rw [h.mv (Tr.parent q.path) (Tr.parent q.path) (.inr ⟨fun w=>?_,fun w=>?_,rfl⟩),hm]
     ·rcases w.eq_or with w | w
      ·rw [w] at hw;exact not_sw_self _ hw
      ·obtain ⟨e1,e0,he,h1⟩:=hw
       obtain ⟨e2,_,_,h2⟩:=w
       have l1:=congrArg List.length h1
       have l2:=congrArg List.length h2
       simp only [List.length_append] at l1 l2
       exact e0 (List.length_eq_zero_iff.1 (by omega))
     ·rw [hM.bare ht h.free w] at hm;cases hm
 | lo k h=>
   obtain ⟨loc,rest,dir,bare⟩:=h
   obtain ⟨i1,i2,i3⟩:=inv_path hk k
   refine .lo i3 ?_
   cases loc with
   | add k1 h1 e1=>
     obtain ⟨g1,g2,_⟩:=Tr.gone_inv hq k1
     refine ⟨.rem g1 (by rw [i1,e1];show _=some ((q.inv.pv none 0 none 0).gone.nd);rw [g2]) (by rw [i1];exact h1),fun x hx=>(rest x (by rw [← i1];exact hx)).symm,fun ka=>?_,fun _ x hx=>?_⟩
     ·have:=adds_iff.1 ka;omega
     ·rw [i1] at hx
      rw [rest x (fun e=>not_sw_self _ (by rw [e] at hx;exact hx))]
      exact hM.bare (q_ne hq) h1 hx.wi
   | rem k1 h1 e1=>
     obtain ⟨g1,g2,_⟩:=Tr.file_inv hq k1
     refine ⟨.add g1 (by rw [i1];exact e1) (by rw [i1,h1];show _=some ((q.inv.pv none 0 none 0).file.nd);rw [g2]),fun x hx=>(rest x (by rw [← i1];exact hx)).symm,fun ka=>?_,fun kr=>by omega⟩
     rw [i1]
     exact par_keep (hM _ _ h1) rest (not_sw_self _)
   | ed n n' h1 e1 d=>
     have k6:=d.kind
     obtain ⟨g1,g2,_⟩:=inv_edit k6
     refine ⟨.ed n' n (by rw [i1];exact e1) (by rw [i1];exact h1) (d.back hq),fun x hx=>(rest x (by rw [← i1];exact hx)).symm,fun ka=>?_,fun kr=>by omega⟩
     have:=adds_iff.1 ka;omega
end Um
end Go.Proofs.YtfmgnaigcibcaaaGreatDoor
