import Derived.Test.YtlbhaimfjfdppaaGreatDoorAp
import Derived.Test.YtlbhaimfjfdppaaGreatDoorYm
import Derived.Test.YtlbhaimfjfdppaaGreatDoorYo
import Derived.Test.YtlbhaimfjfdppaaGreatDoorYi
import Derived.Test.YtlbhaimfjfdppaaGreatDoorHeld
set_option linter.unusedSimpArgs false
set_option linter.unusedVariables false
namespace Go.Proofs.YtlbhaimfjfdppaaGreatDoor
namespace Pa
theorem sw.ne {s p:List UInt8} (h:sw s p):s≠p:=by
 obtain ⟨e,h0,_,h2⟩:=h
 intro k
 rw [k] at h2
 exact h0 (by simpa using h2)
theorem sw.mk {p e:List UInt8} (h:Tl e) (h0:e≠[]):sw (p ++ e) p:=⟨e,h0,h,rfl⟩
end Pa
open Go.RowKit Pa
def New (q:Qp) (s:ByteArray):Prop:=(Qm.adds q.kind=true∧s=q.path)∨(q.kind=5∧s=q.to_)
theorem adds_iff {k:Int}:Qm.adds k=true ↔ k=1∨k=3:=by simp [Qm.adds]
theorem inv_makes {q:Qp} (h:q.kind=1∨q.kind=3):(q.inv.kind=2∨q.inv.kind=4)∧q.inv.kind=q.kind+1∧q.inv.path=q.path∧q.inv.to_=Qp.zero.to_:=by
 rcases h with h | h <;> simp [Qp.inv,h]
theorem inv_undoes {q:Qp} (h:q.kind=2∨q.kind=4):(q.inv.kind=1∨q.inv.kind=3)∧q.inv.kind=q.kind - 1∧q.inv.path=q.path∧q.inv.to_=Qp.zero.to_:=by
 rcases h with h | h <;> simp [Qp.inv,h]
theorem inv_edit {q:Qp} (h:6≤q.kind):q.inv.kind=q.kind∧q.inv.path=q.path∧q.inv.to_=q.to_:=by
 unfold Qp.inv
 rw [if_neg (by omega),if_neg (by omega),if_neg (by omega),if_neg (by omega),if_neg (by omega)]
 exact ⟨rfl,rfl,rfl⟩
theorem inv_mv {q:Qp} (h:q.kind=5):q.inv.kind=5∧q.inv.path=q.to_∧q.inv.to_=q.path:=by
 unfold Qp.inv
 rw [if_neg (by omega),if_neg (by omega),if_neg (by omega),if_neg (by omega),if_pos h]
 exact ⟨rfl,rfl,rfl⟩
theorem inv_kinds {q:Qp} (k:1≤q.kind∧q.kind≤8):(1≤q.inv.kind∧q.inv.kind≤8)∧(q.inv.kind=5→q.kind=5):=by
 by_cases k5:q.kind=5
 ·have:=(inv_mv k5).1
  omega
 ·by_cases k6:6≤q.kind
  ·have:=(inv_edit k6).1
   omega
  ·by_cases k1:q.kind=1∨q.kind=3
   ·have:=(inv_makes k1).2.1
    omega
   ·have:=(inv_undoes (q:=q) (by omega)).2.1
    omega
def Out (q:Qp):Prop:=q.kind=5→¬ wi (L q.path) (L q.to_)∧¬ wi (L q.to_) (L q.path)
theorem Out.inv {q:Qp} (k:1≤q.kind∧q.kind≤8) (h:Out q):Out q.inv:=fun e=>by
 have k5:=(inv_kinds k).2 e
 obtain ⟨_,i2,i3⟩:=inv_mv k5
 rw [i2,i3]
 exact ⟨(h k5).2,(h k5).1⟩
theorem newPath_iff {q:Qp} {s:ByteArray}:New q s ↔ Qm.newPath q.kind q.path q.to_=(s,true):=by
 unfold New Qm.newPath
 by_cases ea:Qm.adds q.kind=true
 ·rw [if_pos ea]
  have:=adds_iff.1 ea
  constructor
  ·rintro (⟨_,e⟩ | ⟨e,_⟩)
   ·rw [e]
   ·omega
  ·intro h
   exact .inl ⟨ea,(Prod.mk.inj h).1.symm⟩
 ·rw [if_neg ea]
  constructor
  ·rintro (⟨e,_⟩ | ⟨e,e2⟩)
   ·exact (ea e).elim
   ·rw [e2,e];rfl
  ·intro h
   obtain ⟨h1,h2⟩:=Prod.mk.inj h
   exact .inr ⟨by simpa using h2,h1.symm⟩
end Go.Proofs.YtlbhaimfjfdppaaGreatDoor
namespace Go.Proofs.YtlbhaimfjfdppaaGreatDoor
open Go.RowKit Pa
theorem news_iff {a b:Qp}:Qm.news a.kind a.path a.to_ b.kind b.path b.to_=true ↔ ∀ s,New a s→New b s→False:=by
 unfold Qm.news
 have h:∀ s t:ByteArray,(!Qm.eqB s t)=true ↔ s≠t:=fun s t=>by
  rw [Bool.not_eq_true',← Bool.not_eq_true,Qm.eqB_iff]
 rw [Bool.or_eq_true,Bool.or_eq_true,h,Bool.not_eq_true',Bool.not_eq_true']
 constructor
 ·intro k s h1 h2
  rw [newPath_iff] at h1 h2
  rw [h1,h2] at k
  rcases k with k | k | k
  ·cases k
  ·cases k
  ·exact k rfl
 ·intro k
  cases e1:(Qm.newPath a.kind a.path a.to_).2
  ·exact .inl rfl
  cases e2:(Qm.newPath b.kind b.path b.to_).2
  ·exact .inr (.inl rfl)
  refine .inr (.inr fun e=>k _ (newPath_iff.2 (Prod.ext rfl e1)) (newPath_iff.2 (Prod.ext e.symm e2)))
theorem free_iff {a b c d:Qp}:Qp.free a b c d=true ↔ (∀ s,New c s→Qm.frees a.kind=true→s≠a.path)∧(∀ s,New a s→New b s→False)∧(∀ s,New d s→New c s→False):=by
 unfold Qp.free Qm.xfree
 dsimp only [Qp.bare,Qp.pv]
 rw [Bool.and_eq_true,Bool.and_eq_true,news_iff,news_iff]
 refine and_congr ?_ Iff.rfl
 rw [Bool.not_eq_true',← Bool.not_eq_true,Bool.and_eq_true,Bool.and_eq_true,Qm.eqB_iff]
 constructor
 ·rintro k s h1 h2 h3
  rw [newPath_iff] at h1
  rw [h1] at k
  exact k ⟨⟨rfl,h2⟩,h3⟩
 ·rintro k ⟨⟨h1,h2⟩,h3⟩
  exact k _ (newPath_iff.2 (Prod.ext rfl h1)) h2 h3
theorem Cross.turn {p q q' p':Int} {l1 l2 m1 m2:Nat} (h:Cross p l1 l2 q m1 m2 q' p'):Cross q m2 m1 p l2 l1 p' q':=by
 unfold Cross at *
 omega
theorem Cross.uniq {p q q1 p1 q2 p2:Int} {l1 l2 m1 m2:Nat} (h:Cross p l1 l2 q m1 m2 q1 p1) (k:Cross p l1 l2 q m1 m2 q2 p2):q1=q2∧p1=p2:=by
 unfold Cross at h k
 omega
end Go.Proofs.YtlbhaimfjfdppaaGreatDoor
namespace Go.Proofs.YtlbhaimfjfdppaaGreatDoor
open Go.RowKit Pa
def Rm.apart (k:Int) (p t:ByteArray):Prop:=k=5→¬ wi (L p) (L t)∧¬ wi (L t) (L p)
theorem below_within {s p:ByteArray} (h:Qm.within s p=false):Qm.below s p=false:=by
 unfold Qm.within at h
 exact (Bool.or_eq_false_iff.1 h).2
theorem Rm.through_after {k:Int} {p t s:ByteArray} (hk:1≤k∧k≤8) (ha:Rm.apart k p t):
 (Rm.through k p t s).2=(Qm.after k p t s).2∧((Qm.after k p t s).2=true→Rm.through k p t s=Qm.after k p t s):=by
 unfold Rm.through Qm.after
 by_cases h5:k=5
 ·subst h5
  obtain ⟨a1,a2⟩:=ha rfl
  cases h1:Qm.within s t <;> cases h2:Qm.within s p
  all_goals simp
  rcases (Pa.within_iff.1 h1).chain (Pa.within_iff.1 h2) with h | h
  ·exact a2 h
  ·exact a1 h
 ·have e5:(k == 5)=false:=by rw [beq_eq_false_iff_ne];exact h5
  by_cases h4:k≤4
  ·have e:(k == 1 || k == 2 || k == 3 || k == 4)=true:=by
    simp only [Bool.or_eq_true,beq_iff_eq]
    omega
   cases h1:Qm.within s p
   ·have h2:=below_within h1
    simp [h5,h4,e,h1,h2]
   ·simp [h5,h4,e,h1]
  ·have e:(k == 1 || k == 2 || k == 3 || k == 4)=false:=by
    simp only [Bool.or_eq_false_iff,beq_eq_false_iff_ne]
    omega
   cases h1:Qm.below s p
   all_goals simp [h5,h4,e,h1]
theorem eqB_empty {s:ByteArray}:Qm.eqB s ⟨#[]⟩=true ↔ s.size=0:=by
 rw [Qm.eqB_iff]
 constructor
 ·rintro rfl
  rfl
 ·intro h
  exact ByteArray.ext (Array.eq_empty_of_size_eq_zero h)
theorem Rm.slot_newAfter {k:Int} {p t s:ByteArray} (hk:1≤k∧k≤8) (ha:Rm.apart k p t) (hs:Lib.lastIndexByte s 47≠0):
 (Rm.slot k p t s).2=(Qm.newAfter k p t s).2∧((Qm.newAfter k p t s).2=true→Rm.slot k p t s=Qm.newAfter k p t s):=by
 unfold Rm.slot Qm.newAfter
 split
 ·exact ⟨rfl,fun _=>rfl⟩
 by_cases h0:Lib.lastIndexByte s 47 < 0
 ·have hp:Qm.parent s=⟨#[]⟩:=by unfold Qm.parent;rw [if_pos h0]
  rw [if_pos (by rw [hp];exact Qm.eqB_iff.2 rfl),if_pos h0]
  exact ⟨rfl,fun _=>rfl⟩
 ·obtain ⟨i,hi⟩:=Int.eq_ofNat_of_zero_le (show 0≤Lib.lastIndexByte s 47 by omega)
  have hlt:=Qm.lastIndex_lt s
  have hi0:0 < i:=by omega
  have hp:Qm.parent s=s.extract 0 i:=by
   unfold Qm.parent
   rw [if_neg h0,hi]
   rfl
  have hsz:(s.extract 0 i).size=i:=by
   simp only [ByteArray.size_extract]
   omega
  rw [if_neg (by rw [hp,eqB_empty,hsz];omega),if_neg h0,hp,hsz,hi,Int.toNat_natCast]
  have h:=Rm.through_after (s:=s.extract 0 i) hk ha
  refine ⟨h.1,fun h2=>?_⟩
  rw [h.2 h2]
theorem name_empty:Qm.isName ⟨#[]⟩=false:=by
 unfold Qm.isName
 have h:((ByteArray.mk #[]).toList == ([]:List UInt8))=true:=by rw [ByteArray.toList_eq];rfl
 rw [h]
 simp
theorem path_last {s:ByteArray} (h:Qm.isPath s=true):Lib.lastIndexByte s 47≠0:=by
 intro h0
 rcases last_slash s with ⟨h1,_⟩ | ⟨i,name,hi,hlt,hs,hn,hd⟩
 ·omega
 obtain rfl:i=0:=by omega
 rw [List.take_zero,List.nil_append] at hs
 have h1:Lib.indexByte s.data.toList 47=((0:Nat):Int):=indexByte_is (by show (L s)[0]?=_;rw [hs];rfl) (fun j hj=>absurd hj (Nat.not_lt_zero _))
 unfold Qm.isPath at h
 rw [Bool.and_eq_true] at h
 have h2:(pieces s).all Qm.isName=true:=h.2
 rw [pieces_hit h1,List.all_cons,Bool.and_eq_true] at h2
 have h3:=h2.1
 have he:s.extract 0 0=⟨#[]⟩:=by
  apply ByteArray.ext
  simp
 rw [he,name_empty] at h3
 cases h3
theorem path_full {s:ByteArray} (h:Qm.isPath s=true):s≠⟨#[]⟩:=by
 rintro rfl
 unfold Qm.isPath at h
 rw [Bool.and_eq_true] at h
 have h2:(pieces ⟨#[]⟩).all Qm.isName=true:=h.2
 rw [pieces_miss (show Lib.indexByte (ByteArray.mk #[]).data.toList 47=-1 from indexByte_not (fun j=>by simp)),List.all_cons,name_empty] at h2
 cases h2
def Rq.moved (p q:Qp):Qp × Bool:=({ p with path:=(Rm.moved p.bare q.bare).1.path,to_:=(Rm.moved p.bare q.bare).1.to_ },(Rm.moved p.bare q.bare).2)
theorem rmoved_pv (p q:Qp) (A1:Option Addr) (c1:Nat) (A2:Option Addr) (c2:Nat) (B1:Option Addr) (d1:Nat) (B2:Option Addr) (d2:Nat):
 Rm.moved (p.pv A1 c1 A2 c2) (q.pv B1 d1 B2 d2)=((Rq.moved p q).1.pv A1 c1 A2 c2,(Rq.moved p q).2):=rfl
theorem apart_check {q:Qp} (h:q.check=0):Rm.apart q.kind q.path q.to_:=fun hk=>check_move h hk
theorem Rq.moved_through {p q:Qp} (hp:p.check=0) (hq:q.check=0):
 (Rq.moved p q).2=(Qp.through p q).2∧((Qp.through p q).2=true→Rq.moved p q=Qp.through p q):=by
 obtain ⟨kq,_⟩:=check_parts hq
 have ha:=apart_check hq
 obtain ⟨p1,p2⟩:=path_ok (check_parts hp).2.2.1
 have t:=Rm.through_after (s:=p.path) kq ha
 have s1:=Rm.slot_newAfter kq ha (path_last p1)
 by_cases k5:p.kind=5
 ·have s2:=Rm.slot_newAfter kq ha (path_last (p2 k5))
  have a5:Qm.adds p.kind=false:=by rw [k5];rfl
  have e5:(p.kind == 5)=true:=by rw [beq_iff_eq];exact k5
  unfold Rq.moved Qp.through Rm.moved Pv.through
  dsimp only [Qp.bare,Qp.pv]
  simp only [a5,e5,if_true,if_false,Bool.false_eq_true]
  refine ⟨by rw [t.1,s2.1],fun h=>?_⟩
  rw [Bool.and_eq_true] at h
  rw [t.2 h.1,s2.2 h.2]
 ·have e5:(p.kind == 5)=false:=by rw [beq_eq_false_iff_ne];exact k5
  unfold Rq.moved Qp.through Rm.moved Pv.through
  dsimp only [Qp.bare,Qp.pv]
  cases a5:Qm.adds p.kind
  all_goals simp only [e5,if_true,if_false,Bool.false_eq_true,Bool.and_true]
  ·exact ⟨t.1,fun h=>by rw [t.2 h]⟩
  ·exact ⟨s1.1,fun h=>by rw [s1.2 h]⟩
def Rq.fresh (q:Qp):ByteArray:=Rm.fresh q.kind q.path q.to_
theorem fresh_new {q:Qp} (h:Rq.fresh q≠⟨#[]⟩):New q (Rq.fresh q):=by
 unfold Rq.fresh Rm.fresh at *
 by_cases k5:q.kind=5
 ·exact .inr ⟨k5,by rw [if_pos (by rw [beq_iff_eq];exact k5)]⟩
 ·rw [if_neg (by rw [beq_iff_eq];exact k5)] at h ⊢
  cases ha:Qm.adds q.kind
  ·rw [ha,if_neg Bool.false_ne_true] at h
   exact (h rfl).elim
  ·exact .inl ⟨ha,by rw [if_pos rfl]⟩
theorem new_fresh {q:Qp} {s:ByteArray} (h:New q s):Rq.fresh q=s:=by
 unfold Rq.fresh Rm.fresh
 rcases h with ⟨h1,h2⟩ | ⟨h1,h2⟩
 ·have:=adds_iff.1 h1
  rw [if_neg (by rw [beq_iff_eq];omega),if_pos h1,h2]
 ·rw [if_pos (by rw [beq_iff_eq];exact h1),h2]
theorem new_full {q:Qp} {s:ByteArray} (hq:q.check=0) (h:New q s):s≠⟨#[]⟩:=by
 obtain ⟨p1,p2⟩:=path_ok (check_parts hq).2.2.1
 rcases h with ⟨h1,h2⟩ | ⟨h1,h2⟩
 ·rw [h2];exact path_full p1
 ·rw [h2];exact path_full (p2 h1)
end Go.Proofs.YtlbhaimfjfdppaaGreatDoor
namespace Go.Proofs.YtlbhaimfjfdppaaGreatDoor
open Go.RowKit Pa
theorem act_paths {b:Qp} {s t:ByteArray} (k6:6≤b.kind) (h:(b.pv none 0 none 0).actCheck b.old b.new=0):
 (({ b with path:=s,to_:=t }:Qp).pv none 0 none 0).actCheck b.old b.new=0:=by
 unfold Pv.actCheck at h ⊢
 rw [if_neg (by show ¬ (b.kind=1∨b.kind=3);omega),if_neg (by show ¬ (b.kind=2∨b.kind=4);omega),if_neg (by show ¬ b.kind=5;omega)] at h ⊢
 exact h
theorem check_before {a b D:Qp} {s t:ByteArray} (hb:b.check=0)
 (hz:(Qp.contents a b { b with path:=s,to_:=t } D).1.check=0):({ b with path:=s,to_:=t }:Qp).check=0:=by
 obtain ⟨kb,tb,pb,ab⟩:=check_parts hb
 unfold Qp.contents at hz
 split at hz
 ·exact hz
 split at hz
 ·exact hz
 split at hz
 ·rename_i h66
  split at hz
  ·obtain ⟨k,t',p,_⟩:=check_parts hz
   refine check_of_parts kb ?_ p (act_paths (by omega) ab)
   unfold Pv.tidy Pv.strip at t' ⊢
   rw [if_neg (by show ¬ b.kind=1;omega),if_neg (by show ¬ b.kind=2;omega),if_neg (by show ¬ b.kind=5;omega),if_pos (by exact h66.2)] at t' ⊢
   exact t'
  ·exact hz
 split at hz
 ·rename_i h77
  obtain ⟨k,t',p,_⟩:=check_parts hz
  refine check_of_parts kb ?_ p (act_paths (by omega) ab)
  unfold Pv.tidy Pv.strip at t' ⊢
  rw [if_neg (by show ¬ b.kind=1;omega),if_neg (by show ¬ b.kind=2;omega),if_neg (by show ¬ b.kind=5;omega),if_neg (by show ¬ b.kind=6;omega),if_pos (by exact h77.2)] at t' ⊢
  exact t'
 split at hz
 ·exact hz
 ·exact hz
def Rq.ok (a b:Qp):Bool:=
 ((Rq.moved b a.inv).2 && decide ((Rq.moved b a.inv).1.check=0)) &&
 (!(!Qm.eqB (Rq.fresh b) ⟨#[]⟩ && ((Qm.frees a.kind && Qm.eqB (Rq.fresh (Rq.moved b a.inv).1) a.path) || Qm.eqB (Rq.fresh b) (Rq.fresh a))) &&
 ((Rq.moved a (Rq.moved b a.inv).1).2 && (!(!Qm.eqB (Rq.fresh (Rq.moved a (Rq.moved b a.inv).1).1) ⟨#[]⟩ && Qm.eqB (Rq.fresh (Rq.moved a (Rq.moved b a.inv).1).1) (Rq.fresh (Rq.moved b a.inv).1)) &&
 ((Qp.empty a b (Rq.moved b a.inv).1 && Qp.moves a b) &&
 ((Qp.contents a b (Rq.moved b a.inv).1 (Rq.moved a (Rq.moved b a.inv).1).1).2.2 && (decide ((Qp.contents a b (Rq.moved b a.inv).1 (Rq.moved a (Rq.moved b a.inv).1).1).1.check=0) && decide ((Qp.contents a b (Rq.moved b a.inv).1 (Rq.moved a (Rq.moved b a.inv).1).1).2.1.check=0)))))))
theorem not_eqB {s t:ByteArray}:(!Qm.eqB s t)=true ↔ s≠t:=by
 rw [Bool.not_eq_true',← Bool.not_eq_true,Qm.eqB_iff]
theorem ok_run {a b:Qp} (ha:a.check=0) (hb:b.check=0) (h:Rq.ok a b=true):
 a.run b=((Qp.contents a b (Rq.moved b a.inv).1 (Rq.moved a (Rq.moved b a.inv).1).1).1,(Qp.contents a b (Rq.moved b a.inv).1 (Rq.moved a (Rq.moved b a.inv).1).1).2.1,true):=by
 unfold Rq.ok at h
 simp only [Bool.and_eq_true,decide_eq_true_eq] at h
 obtain ⟨⟨m1,zc⟩,hf1,m2,hf2,⟨he,hm⟩,hc,z1,z2⟩:=h
 have t1:=Rq.moved_through (p:=b) (q:=a.inv) hb (inv_check ha)
 rw [t1.1] at m1
 have e1:=t1.2 m1
 rw [e1] at zc hf1 m2 hf2 he hc z1 z2 ⊢
 have t2:=Rq.moved_through (p:=a) (q:=(Qp.through b a.inv).1) ha zc
 rw [t2.1] at m2
 have e2:=t2.2 m2
 rw [e2] at hf2 hc z1 z2 ⊢
 have kC:(Qp.through b a.inv).1.kind=b.kind:=rfl
 have hfree:Qp.free a b (Qp.through b a.inv).1 (Qp.through a (Qp.through b a.inv).1).1=true:=by
  rw [free_iff]
  rw [Bool.not_eq_true',← Bool.not_eq_true,Bool.and_eq_true,not_eqB,Bool.or_eq_true,Bool.and_eq_true,Qm.eqB_iff,Qm.eqB_iff] at hf1
  rw [Bool.not_eq_true',← Bool.not_eq_true,Bool.and_eq_true,not_eqB,Qm.eqB_iff] at hf2
  have hbn:∀ s,New (Qp.through b a.inv).1 s→Rq.fresh b≠⟨#[]⟩:=by
   intro s hs
   rcases hs with ⟨h1,_⟩ | ⟨h1,_⟩
   ·have hn:New b b.path:=.inl ⟨h1,rfl⟩
    rw [new_fresh hn]
    exact new_full hb hn
   ·have hn:New b b.to_:=.inr ⟨h1,rfl⟩
    rw [new_fresh hn]
    exact new_full hb hn
  refine ⟨fun s hs hfr e=>hf1 ⟨hbn s hs,.inl ⟨hfr,(new_fresh hs).trans e⟩⟩,fun s h1 h2=>hf1 ⟨?_,.inr ((new_fresh h2).trans (new_fresh h1).symm)⟩,fun s h1 h2=>hf2 ⟨?_,(new_fresh h1).trans (new_fresh h2).symm⟩⟩
  ·rw [new_fresh h2]
   exact new_full hb h2
  ·rw [new_fresh h1]
   exact new_full zc h2
 unfold Qp.run Qp.runOf
 rw [if_pos]
 rw [m1,m2,hfree,he,hm,hc]
 simp [z1,z2]
theorem run_ok' {a b:Qp} (ha:a.check=0) (hb:b.check=0) (h:(a.run b).2.2=true):Rq.ok a b=true:=by
 unfold Qp.run Qp.runOf at h
 split at h
 rotate_left
 ·exact absurd h (by decide)
 rename_i hh
 clear h
 simp only [Bool.and_eq_true,decide_eq_true_eq] at hh
 obtain ⟨⟨m1,m2⟩,hf,he,hm,hc,z1,z2⟩:=hh
 have zc:(Qp.through b a.inv).1.check=0:=check_before hb z1
 have t1:=Rq.moved_through (p:=b) (q:=a.inv) hb (inv_check ha)
 have e1:=t1.2 m1
 have t2:=Rq.moved_through (p:=a) (q:=(Qp.through b a.inv).1) ha zc
 have e2:=t2.2 m2
 obtain ⟨f1,f2,f3⟩:=free_iff.1 hf
 unfold Rq.ok
 rw [e1,e2,m1,m2,he,hm,hc]
 have g1:(!(!Qm.eqB (Rq.fresh b) ⟨#[]⟩ && ((Qm.frees a.kind && Qm.eqB (Rq.fresh (Qp.through b a.inv).1) a.path) || Qm.eqB (Rq.fresh b) (Rq.fresh a))))=true:=by
  rw [Bool.not_eq_true',← Bool.not_eq_true,Bool.and_eq_true,not_eqB,Bool.or_eq_true,Bool.and_eq_true,Qm.eqB_iff,Qm.eqB_iff]
  rintro ⟨h1,⟨h2,h3⟩ | h2⟩
  ·have hn:=fresh_new h1
   have hn2:∃ s,New (Qp.through b a.inv).1 s:=by
    rcases hn with ⟨h4,_⟩ | ⟨h4,_⟩
    ·exact ⟨_,.inl ⟨h4,rfl⟩⟩
    ·exact ⟨_,.inr ⟨h4,rfl⟩⟩
   obtain ⟨s,hs⟩:=hn2
   rw [new_fresh hs] at h3
   exact f1 s hs h2 h3
  ·have hn:=fresh_new h1
   have hn2:=fresh_new (q:=a) (by rw [← h2];exact h1)
   rw [← h2] at hn2
   exact f2 _ hn2 hn
 have g2:(!(!Qm.eqB (Rq.fresh (Qp.through a (Qp.through b a.inv).1).1) ⟨#[]⟩ && Qm.eqB (Rq.fresh (Qp.through a (Qp.through b a.inv).1).1) (Rq.fresh (Qp.through b a.inv).1)))=true:=by
  rw [Bool.not_eq_true',← Bool.not_eq_true,Bool.and_eq_true,not_eqB,Qm.eqB_iff]
  rintro ⟨h1,h2⟩
  have hn:=fresh_new h1
  have hn2:=fresh_new (q:=(Qp.through b a.inv).1) (by rw [← h2];exact h1)
  rw [← h2] at hn2
  exact f3 _ hn hn2
 rw [g1,g2]
 simp [zc,z1,z2]
end Go.Proofs.YtlbhaimfjfdppaaGreatDoor
namespace Go.Proofs.YtlbhaimfjfdppaaGreatDoor
open Go.RowKit Pa
def GivesIf (F:Nat→Prop) (r:Qp × Qp × Bool) (w:World) (e:Ending) (w':World):Prop:=
 ∃ p p':Pv,e=.returned (.tuple #[p.v,p'.v,.bool r.2.2])∧Ext w w'∧(r.2.2=true→Is w' F p r.1∧Is w' F p' r.2.1)
theorem lines_small {q:Qp} (h:q.check=0):(∀ x∈q.old,x.size≤4611686018427387904)∧(∀ x∈q.new,x.size≤4611686018427387904):=by
 obtain ⟨hk,_,_,ha⟩:=check_parts h
 by_cases k6:q.kind=6
 ·unfold Pv.actCheck at ha
  rw [if_neg (by show ¬ (q.kind=1∨q.kind=3);omega),if_neg (by show ¬ (q.kind=2∨q.kind=4);omega),if_neg (by show ¬ q.kind=5;omega)] at ha
  unfold Pv.edCheck6 at ha
  rw [if_pos (by exact k6)] at ha
  unfold Pv.linesCheck at ha
  split at ha
  ·rename_i h1
   exact (h1 ha).elim
  split at ha
  ·cases ha
  split at ha
  ·cases ha
  rename_i h3
  have h4:(q.old ++ q.new).all Qm.validLine=true:=by simpa using h3
  rw [List.all_eq_true] at h4
  have h5:∀ x∈q.old ++ q.new,x.size≤4611686018427387904:=fun x hx=>by
   have h6:=h4 x hx
   unfold Qm.validLine at h6
   simp only [Bool.and_eq_true,decide_eq_true_eq] at h6
   have:=h6.1.1
   omega
  exact ⟨fun x hx=>h5 x (List.mem_append_left _ hx),fun x hx=>h5 x (List.mem_append_right _ hx)⟩
 ·have l:=check_lean h
  exact ⟨fun x hx=>(by rw [l.old k6] at hx;cases hx),fun x hx=>(by rw [l.new k6] at hx;cases hx)⟩
theorem rcheck_q (p:Pv) (q:Qp) (w:World) {F:Nat→Prop} (h:Is w F p q) (b1:q.old.length≤1152921504606846976) (b2:q.new.length≤1152921504606846976) (b3:q.path.size≤1152921504606846976) (b4:q.to_.size≤1152921504606846976)
 (s1:∀ x∈q.old,x.size≤4611686018427387904) (s2:∀ x∈q.new,x.size≤4611686018427387904):
 Calls Tryz.prog 69 #[p.v] w (Ret (.int .i64 q.check) w):=by
 obtain ⟨A1,c1,A2,c2,rfl,⟨h1,h2⟩,_⟩:=h
 rw [← check_pv q A1 c1 A2 c2]
 exact rcheck_any (q.pv A1 c1 A2 c2) q.old q.new w h1 h2 b1 b2 (by show q.path.size≤_;omega) (by show q.to_.size≤_;omega) s1 s2
theorem rmoved_small (p q:Qp) (n:Nat) (h1:p.path.size≤200) (h2:p.to_.size≤200) (h3:q.to_.size≤n):(Rq.moved p q).1.path.size≤n+400∧(Rq.moved p q).1.to_.size≤n+400:=by
 unfold Rq.moved Rm.moved
 dsimp only [Qp.bare,Qp.pv]
 have s1:=Rm.slot_size q.kind q.path q.to_ p.path
 have s2:=Rm.slot_size q.kind q.path q.to_ p.to_
 have s3:=Rm.through_size q.kind q.path q.to_ p.path
 constructor
 all_goals split
 all_goals (try dsimp only)
 all_goals omega
theorem content_x {a b c d:Pv} (h6:6≤a.kind∧a.kind≤8) (h1:Qm.adds a.kind=false) (h2:Qm.adds b.kind=false) (h3:Qm.eqB a.path c.path=true):Rm.content a b c d=a.xcontents b c d:=by
 unfold Rm.content Pv.xcontents
 have c1:¬ (Qm.adds a.kind=true∨Qm.adds b.kind=true∨Qm.eqB a.path c.path=false∨a.kind < 6):=by rw [h1,h2,h3];simp;omega
 have c2:¬ (Qm.adds a.kind=true∨Qm.adds b.kind=true∨Qm.eqB a.path c.path=false):=by rw [h1,h2,h3];simp
 rw [if_neg c1,if_neg c2]
 clear c1 c2 h1 h2 h3
 by_cases b2:b.kind=2
 ·simp [b2]
 rcases (show a.kind=6∨a.kind=7∨a.kind=8 by omega) with e | e | e
 all_goals
  by_cases b6:b.kind=6
  ·simp [e,b6]
  by_cases b7:b.kind=7
  ·simp [e,b7]
  by_cases b8:b.kind=8
  ·simp [e,b8]
  simp [e,b2,b6,b7,b8]
theorem rxcontent_any (a b c d:Pv) (w:World) (hk:1≤a.kind∧a.kind≤8) (hx:Qm.adds a.kind=false→Qm.eqB a.path c.path=true→b.kind=2→6≤a.kind)
 (o1:0≤a.off) (o2:a.off≤65536) (o3:0≤b.off) (o4:b.off≤65536) (s1:a.so.size≤65536) (s2:a.sn.size≤65536) (s3:b.so.size≤65536) (s4:b.sn.size≤65536) (n1:a.hunk.fair) (n2:b.hunk.fair):
 Calls Tryz.prog 92 #[a.v,b.v,c.v,d.v] w (Ret (.tuple #[(a.xcontents b c d).1.v,(a.xcontents b c d).2.1.v,.bool (a.xcontents b c d).2.2]) w):=by
 by_cases hf:Qm.adds a.kind=true∨Qm.adds b.kind=true∨Qm.eqB a.path c.path=false
 ·have hm:a.xcontents b c d=(c,d,true):=by unfold Pv.xcontents;rw [if_pos hf]
  rw [hm]
  exact rcontent_free a b c d w (hf.imp_right fun h=>h.imp_right Or.inl)
 ·have h1:Qm.adds a.kind=false:=by
   cases h:Qm.adds a.kind
   ·rfl
   ·exact (hf (.inl h)).elim
  have h2:Qm.adds b.kind=false:=by
   cases h:Qm.adds b.kind
   ·rfl
   ·exact (hf (.inr (.inl h))).elim
  have h3:Qm.eqB a.path c.path=true:=by
   cases h:Qm.eqB a.path c.path
   ·exact (hf (.inr (.inr h))).elim
   ·rfl
  by_cases h6:6≤a.kind
  ·rw [← content_x ⟨h6,hk.2⟩ h1 h2 h3]
   exact rcontent_met a b c d w h1 h2 h3 h6 hk.2 o1 o2 o3 o4 s1 s2 s3 s4 n1 n2
  ·have b2:b.kind≠2:=fun e=>h6 (hx h1 h3 e)
   have hm:a.xcontents b c d=(c,d,true):=by
    unfold Pv.xcontents
    rw [if_neg hf,if_neg (by omega),if_neg (by omega),if_neg (by omega),if_neg (by omega)]
   rw [hm]
   exact rcontent_free a b c d w (.inr (.inr (.inr (by omega))))
theorem removal_met {a C:Qp} (h1:Qm.adds a.kind=false) (h2:C.kind=2) (h3:Qm.eqB a.path C.path=true):(Rq.moved a C).2=false:=by
 unfold Rq.moved Rm.moved
 dsimp only [Qp.bare,Qp.pv]
 rw [h1,h2]
 have e:(Rm.through 2 C.path C.to_ a.path).2=false:=by
  unfold Rm.through
  rw [if_neg (by simp),if_pos]
  unfold Qm.within
  rw [h3]
  simp
 simp [e]
theorem rok_run {a b:Qp} (ha:a.check=0) (hb:b.check=0):(a.run b).2.2=Rq.ok a b:=by
 cases h:Rq.ok a b
 ·cases h2:(a.run b).2.2
  ·rfl
  ·rw [run_ok' ha hb h2] at h
   cases h
 ·rw [ok_run ha hb h]
end Go.Proofs.YtlbhaimfjfdppaaGreatDoor
namespace Go.Proofs.YtlbhaimfjfdppaaGreatDoor
open Go.RowKit Pa
def ExBlk (w:World) (bX bY:Nat) (pa pb pc pd:Pv) (wx:World):Prop:=
 Ext w wx∧Blk wx w.heap.size 42 (parr pa)∧Blk wx (w.heap.size+1) 42 (parr pb)∧Blk wx (w.heap.size+1+1) 42 zcells∧Blk wx (w.heap.size+1+1+1) 42 zcells∧Blk wx bX 42 (parr pc)∧Blk wx bY 42 (parr pd)∧w.heap.size+1+1+1 < bX∧bX < bY
theorem or_parts {k2 g2:Bool} (h:false=(!k2 || g2)):k2=true∧g2=false:=by
 cases k2 <;> cases g2 <;> simp_all
theorem and_stop {p q k2 g2 z:Bool} (h:true=(!k2 || g2)):(p && (q && (k2 && (!g2 && z))))=false:=by
 cases k2 <;> cases g2 <;> simp_all
theorem and_parts {k4 k5:Bool} (h:true=(k4 && k5)):k4=true∧k5=true:=by
 cases k4 <;> cases k5 <;> simp_all
theorem and_stop2 {p q r s k4 k5 z:Bool} (h:false=(k4 && k5)):(p && (q && (r && (s && ((k4 && k5) && z)))))=false:=by
 rw [← h]
 simp
theorem ExBlk.ext {w:World} {bX bY:Nat} {pa pb pc pd:Pv} {v v':World} (h:ExBlk w bX bY pa pb pc pd v) (hx:Ext v v'):ExBlk w bX bY pa pb pc pd v':=by
 obtain ⟨h1,h2,h3,h4,h5,h6,h7,h8⟩:=h
 exact ⟨h1.trans hx,h2.ext hx,h3.ext hx,h4.ext hx,h5.ext hx,h6.ext hx,h7.ext hx,h8⟩
section
variable {P:Program} {ops:Array Oper} {Q:Exit→Act→World→Prop} {md:Region.Mode} {S:World→Prop}
end
def Rq.ok4 (a b:Qp):Bool:=
 ((Rq.moved b a.inv).2 && decide ((Rq.moved b a.inv).1.check=0)) &&
 !(!Qm.eqB (Rq.fresh b) ⟨#[]⟩ && ((Qm.frees a.kind && Qm.eqB (Rq.fresh (Rq.moved b a.inv).1) a.path) || Qm.eqB (Rq.fresh b) (Rq.fresh a)))
def Rq.ok5 (a b:Qp):Bool:=
 (Rq.moved a (Rq.moved b a.inv).1).2 && !(!Qm.eqB (Rq.fresh (Rq.moved a (Rq.moved b a.inv).1).1) ⟨#[]⟩ && Qm.eqB (Rq.fresh (Rq.moved a (Rq.moved b a.inv).1).1) (Rq.fresh (Rq.moved b a.inv).1))
def Rq.ok6 (a b:Qp):Bool:=Qp.empty a b (Rq.moved b a.inv).1 && Qp.moves a b
def Rq.ok7 (a b:Qp):Bool:=(Qp.contents a b (Rq.moved b a.inv).1 (Rq.moved a (Rq.moved b a.inv).1).1).2.2
def Rq.ok8 (a b:Qp):Bool:=decide ((Qp.contents a b (Rq.moved b a.inv).1 (Rq.moved a (Rq.moved b a.inv).1).1).1.check=0)
end Go.Proofs.YtlbhaimfjfdppaaGreatDoor
