import Derived.Test.YtfmgnaigcibcaaaGreatDoorTT
import Derived.Test.YtfmgnaigcibcaaaGreatDoorTQb
import Derived.Test.YtfmgnaigcibcaaaGreatDoorTModel
import Derived.Test.YtfmgnaigcibcaaaGreatDoorTQ1
set_option linter.unusedSimpArgs false
set_option linter.unusedVariables false
namespace Go.Proofs.YtfmgnaigcibcaaaGreatDoor
open Go.RowKit
abbrev Qp.bare (q:Qp):Pv:=q.pv none 0 none 0
def Qp.through (p q:Qp):Qp × Bool:=({ p with path:=(Pv.through p.bare q.bare).1.path,to_:=(Pv.through p.bare q.bare).1.to_ },(Pv.through p.bare q.bare).2)
def Qp.free (a b c d:Qp):Bool:=Qm.xfree a.bare b.bare c.bare d.bare
def Qp.empty (a b c:Qp):Bool:=Qm.xempty b.kind a.kind a.path c.path
def Qp.moves (a b:Qp):Bool:=Qm.xmoves a.kind a.to_ b.kind b.path
def Qp.contents (a b c d:Qp):Qp × Qp × Bool:=
 if Qm.adds a.kind=true∨Qm.adds b.kind=true∨Qm.eqB a.path c.path=false then (c,d,true)
 else if b.kind=2∨(a.kind=8∧b.kind=8) then (c,d,false)
 else if a.kind=6∧b.kind=6 then
  (if (a.bare.hunk.commute b.bare.hunk).2.2 then ({ c with at_:=(a.bare.hunk.commute b.bare.hunk).1.at_ },{ d with at_:=(a.bare.hunk.commute b.bare.hunk).2.1.at_ },true) else (c,d,false))
 else if a.kind=7∧b.kind=7 then ({ c with off:=(a.bare.xbytes b.bare c.bare d.bare).1.off },{ d with off:=(a.bare.xbytes b.bare c.bare d.bare).2.1.off },(a.bare.xbytes b.bare c.bare d.bare).2.2)
 else if (a.kind=6∨a.kind=7)∧(b.kind=6∨b.kind=7) then (c,d,false)
 else (c,d,true)
def Qp.runOf (a b:Qp) (c d:Qp × Bool):Qp × Qp × Bool:=
 if (c.2 && d.2) && (Qp.free a b c.1 d.1 && (Qp.empty a b c.1 && (Qp.moves a b && ((Qp.contents a b c.1 d.1).2.2 && (decide ((Qp.contents a b c.1 d.1).1.check=0) && decide ((Qp.contents a b c.1 d.1).2.1.check=0)))))) then ((Qp.contents a b c.1 d.1).1,(Qp.contents a b c.1 d.1).2.1,true) else (Qp.zero,Qp.zero,false)
def Qp.run (a b:Qp):Qp × Qp × Bool:=Qp.runOf a b (Qp.through b a.inv) (Qp.through a (Qp.through b a.inv).1)
def Qp.commute (a b:Qp):Qp × Qp × Bool:=
 if a.check≠0∨b.check≠0 then (Qp.zero,Qp.zero,false)
 else if (a.run b).2.2=false then (Qp.zero,Qp.zero,false)
 else if ((a.run b).1.run (a.run b).2.1).2.2 && (((a.run b).1.run (a.run b).2.1).1.same a && ((a.run b).1.run (a.run b).2.1).2.1.same b) then ((a.run b).1,(a.run b).2.1,true)
 else (Qp.zero,Qp.zero,false)
theorem hcommute_cases (a b:Hv):((a.commute b).2.2=false)∨(a.commute b=(b.shift (-a.growth),a,true))∨(a.commute b=(b,a.shift b.growth,true)):=by
 unfold Hv.commute
 repeat' split
 all_goals first | exact .inl rfl | exact .inr (.inl rfl) | exact .inr (.inr rfl)
theorem hcommute_bare (a b a' b':Hv) (h1:a.at_=a'.at_) (h2:a.n1=a'.n1) (h3:a.n2=a'.n2) (h4:b.at_=b'.at_) (h5:b.n1=b'.n1) (h6:b.n2=b'.n2):
 (a.commute b).2.2=(a'.commute b').2.2∧(a.commute b).1.at_=(a'.commute b').1.at_∧(a.commute b).2.1.at_=(a'.commute b').2.1.at_:=by
 have e1:a.check=a'.check:=by unfold Hv.check;rw [h1,h2,h3]
 have e2:b.check=b'.check:=by unfold Hv.check;rw [h4,h5,h6]
 have e3:a.growth=a'.growth:=by unfold Hv.growth;rw [h2,h3]
 have e4:b.growth=b'.growth:=by unfold Hv.growth;rw [h5,h6]
 unfold Hv.commute Hv.shift
 simp only [e1,e2,e3,e4,h1,h2,h3,h4,h5,h6]
 repeat' split
 all_goals simp [h1,h4]
theorem contents_pv (a b c d:Qp) (A1:Option Addr) (c1:Nat) (A2:Option Addr) (c2:Nat) (B1:Option Addr) (d1:Nat) (B2:Option Addr) (d2:Nat)
 (hc:c.old=b.old∧c.new=b.new∧c.at_=b.at_) (hd:d.old=a.old∧d.new=a.new∧d.at_=a.at_):
 (Pv.xcontents (a.pv A1 c1 A2 c2) (b.pv B1 d1 B2 d2) (c.pv B1 d1 B2 d2) (d.pv A1 c1 A2 c2)).2.2=(Qp.contents a b c d).2.2 ∧
 ((Qp.contents a b c d).2.2=true→(Pv.xcontents (a.pv A1 c1 A2 c2) (b.pv B1 d1 B2 d2) (c.pv B1 d1 B2 d2) (d.pv A1 c1 A2 c2)).1=(Qp.contents a b c d).1.pv B1 d1 B2 d2 ∧
   (Pv.xcontents (a.pv A1 c1 A2 c2) (b.pv B1 d1 B2 d2) (c.pv B1 d1 B2 d2) (d.pv A1 c1 A2 c2)).2.1=(Qp.contents a b c d).2.1.pv A1 c1 A2 c2):=by
 unfold Pv.xcontents Qp.contents
 split
 ·exact ⟨rfl,fun _=>⟨rfl,rfl⟩⟩
 split
 ·exact ⟨rfl,fun _=>⟨rfl,rfl⟩⟩
 split
 ·have hb:=hcommute_bare (a.pv A1 c1 A2 c2).hunk (b.pv B1 d1 B2 d2).hunk a.bare.hunk b.bare.hunk rfl rfl rfl rfl rfl rfl
  rw [← hb.1,← hb.2.1,← hb.2.2]
  obtain ⟨x1,x2,x3⟩:=hc
  obtain ⟨y1,y2,y3⟩:=hd
  rcases hcommute_cases (a.pv A1 c1 A2 c2).hunk (b.pv B1 d1 B2 d2).hunk with h | h | h
  ·rw [h]
   exact ⟨rfl,fun h=>by cases h⟩
  ·rw [h]
   refine ⟨rfl,fun _=>⟨?_,?_⟩⟩
   ·simp [Pv.withHunk,Hv.shift,Pv.hunk,x1,x2]
   ·simp [Pv.withHunk,Hv.shift,Pv.hunk,y1,y2]
  ·rw [h]
   refine ⟨rfl,fun _=>⟨?_,?_⟩⟩
   ·simp [Pv.withHunk,Hv.shift,Pv.hunk,x1,x2]
   ·simp [Pv.withHunk,Hv.shift,Pv.hunk,y1,y2]
 split
 ·have hx:∀ (P Q R S P' Q' R' S':Pv),P.off=P'.off→P.so=P'.so→P.sn=P'.sn→Q.off=Q'.off→Q.so=Q'.so→Q.sn=Q'.sn→R.off=R'.off→S.off=S'.off →
   (P.xbytes Q R S).2.2=(P'.xbytes Q' R' S').2.2∧(P.xbytes Q R S).1={ R with off:=(P'.xbytes Q' R' S').1.off }∧(P.xbytes Q R S).2.1={ S with off:=(P'.xbytes Q' R' S').2.1.off }:=by
   intro P Q R S P' Q' R' S' k1 k2 k3 k4 k5 k6 k7 k8
   unfold Pv.xbytes
   rw [k1,k2,k3,k4,k5,k6]
   repeat' split
   all_goals simp [k7,k8] <;> simp [← k7,← k8]
  have h:=hx (a.pv A1 c1 A2 c2) (b.pv B1 d1 B2 d2) (c.pv B1 d1 B2 d2) (d.pv A1 c1 A2 c2) a.bare b.bare c.bare d.bare rfl rfl rfl rfl rfl rfl rfl rfl
  exact ⟨h.1,fun _=>⟨h.2.1,h.2.2⟩⟩
 split
 ·exact ⟨rfl,fun _=>⟨rfl,rfl⟩⟩
 ·exact ⟨rfl,fun _=>⟨rfl,rfl⟩⟩
end Go.Proofs.YtfmgnaigcibcaaaGreatDoor
namespace Go.Proofs.YtfmgnaigcibcaaaGreatDoor
open Go.RowKit
theorem size_of_empty {s:ByteArray} (h:s.toList.isEmpty=true):s.size=0:=by
 rw [ByteArray.toList_eq] at h
 have:=List.isEmpty_iff.1 h
 have h2:s.data.toList.length=0:=by rw [this];rfl
 exact h2
theorem content_size {k:Int} {s:ByteArray} (h:Qm.content k s=0):s.size≤65536:=by
 unfold Qm.content at h
 split at h
 ·cases h
 ·omega
theorem whole_size {p:Pv} {m:Int} {s:ByteArray} (h:p.whole m s=0):s.size≤65536:=by
 unfold Pv.whole at h
 split at h
 ·cases h
 split at h
 ·cases h
 exact content_size h
structure Qp.Small (q:Qp):Prop where
 path:q.path.size≤200
 to_:q.to_.size≤200
 off0:0≤q.off
 off1:q.off≤65536
 so:q.so.size≤65536
 sn:q.sn.size≤65536
theorem Qp.bounds {q:Qp} (h:q.check=0):q.Small:=by
 unfold Qp.check Pv.check at h
 cases hk:(q.pv none 0 none 0).known
 ·rw [if_pos hk] at h;cases h
 rw [if_neg (by rw [hk];exact Bool.noConfusion)] at h
 cases ht:(q.pv none 0 none 0).tidy
 ·rw [if_pos ht] at h;cases h
 rw [if_neg (by rw [ht];exact Bool.noConfusion)] at h
 cases hp:(q.pv none 0 none 0).pathsOk
 ·rw [if_pos hp] at h;cases h
 rw [if_neg (by rw [hp];exact Bool.noConfusion)] at h
 have hpath:Qm.isPath q.path=true:=by
  unfold Pv.pathsOk at hp
  rw [Bool.and_eq_true] at hp
  exact hp.1
 have p1:q.path.size≤200:=by
  unfold Qm.isPath at hpath
  rw [Bool.and_eq_true,decide_eq_true_eq] at hpath
  exact hpath.1
 have hk2:1≤q.kind∧q.kind≤8:=by simpa [Pv.known] using hk
 unfold Pv.tidy Pv.strip at ht
 unfold Pv.actCheck at h
 by_cases k1:q.kind=1
 ·rw [if_pos (by exact .inl k1)] at h
  unfold Pv.addCheck at h
  rw [if_neg (by show ¬ q.kind=3;omega)] at h
  rw [if_pos (by exact k1)] at ht
  simp only [Pv.bare,Bool.and_eq_true,beq_iff_eq] at ht
  obtain ⟨⟨⟨⟨⟨⟨⟨⟨t1,t2⟩,t3⟩,t4⟩,t5⟩,t6⟩,t7⟩,t8⟩,t9⟩:=ht
  exact ⟨p1,by have :=size_of_empty t1;omega,by omega,by omega,by have :=size_of_empty t6;omega,whole_size h⟩
 by_cases k2:q.kind=2
 ·rw [if_neg (by show ¬ (q.kind=1∨q.kind=3);omega),if_pos (by exact .inl k2)] at h
  unfold Pv.remCheck at h
  rw [if_neg (by show ¬ q.kind=4;omega)] at h
  rw [if_neg (by exact k1),if_pos (by exact k2)] at ht
  simp only [Pv.bare,Bool.and_eq_true,beq_iff_eq] at ht
  obtain ⟨⟨⟨⟨⟨⟨⟨⟨t1,t2⟩,t3⟩,t4⟩,t5⟩,t6⟩,t7⟩,t8⟩,t9⟩:=ht
  exact ⟨p1,by have :=size_of_empty t1;omega,by omega,by omega,whole_size h,by have :=size_of_empty t7;omega⟩
 by_cases k5:q.kind=5
 ·rw [if_neg (by exact k1),if_neg (by exact k2),if_pos (by exact k5)] at ht
  simp only [Pv.bare,Bool.and_eq_true,beq_iff_eq] at ht
  obtain ⟨⟨⟨⟨⟨⟨⟨⟨t1,t2⟩,t3⟩,t4⟩,t5⟩,t6⟩,t7⟩,t8⟩,t9⟩:=ht
  have hto:Qm.isPath q.to_=true:=by
   unfold Pv.pathsOk at hp
   have e5:((q.pv none 0 none 0).kind == 5)=true:=by simpa using k5
   rw [e5] at hp
   simpa [hpath] using hp
  have p2:q.to_.size≤200:=by
   unfold Qm.isPath at hto
   rw [Bool.and_eq_true,decide_eq_true_eq] at hto
   exact hto.1
  exact ⟨p1,p2,by omega,by omega,by have :=size_of_empty t6;omega,by have :=size_of_empty t7;omega⟩
 by_cases k6:q.kind=6
 ·rw [if_neg (by exact k1),if_neg (by exact k2),if_neg (by exact k5),if_pos (by exact k6)] at ht
  simp only [Pv.bare,Bool.and_eq_true,beq_iff_eq] at ht
  obtain ⟨⟨⟨⟨⟨⟨⟨⟨t1,t2⟩,t3⟩,t4⟩,t5⟩,t6⟩,t7⟩,t8⟩,t9⟩:=ht
  exact ⟨p1,by have :=size_of_empty t1;omega,by omega,by omega,by have :=size_of_empty t6;omega,by have :=size_of_empty t7;omega⟩
 by_cases k7:q.kind=7
 ·rw [if_neg (by show ¬ (q.kind=1∨q.kind=3);omega),if_neg (by show ¬ (q.kind=2∨q.kind=4);omega),if_neg (by show ¬ q.kind=5;omega)] at h
  unfold Pv.edCheck6 at h
  rw [if_neg (by exact k6)] at h
  unfold Pv.edCheck at h
  rw [if_pos (by exact k7)] at h
  rw [if_neg (by exact k1),if_neg (by exact k2),if_neg (by exact k5),if_neg (by exact k6),if_pos (by exact k7)] at ht
  simp only [Pv.bare,Bool.and_eq_true,beq_iff_eq] at ht
  obtain ⟨⟨⟨⟨⟨⟨⟨⟨t1,t2⟩,t3⟩,t4⟩,t5⟩,t6⟩,t7⟩,t8⟩,t9⟩:=ht
  dsimp only at h
  split at h
  ·cases h
  split at h
  ·cases h
  exact ⟨p1,by have :=size_of_empty t1;omega,by omega,by omega,by omega,by omega⟩
 by_cases k8:q.kind=8
 ·rw [if_neg (by exact k1),if_neg (by exact k2),if_neg (by exact k5),if_neg (by exact k6),if_neg (by exact k7),if_pos (by exact k8)] at ht
  simp only [Pv.bare,Bool.and_eq_true,beq_iff_eq] at ht
  obtain ⟨⟨⟨⟨⟨⟨⟨⟨t1,t2⟩,t3⟩,t4⟩,t5⟩,t6⟩,t7⟩,t8⟩,t9⟩:=ht
  exact ⟨p1,by have :=size_of_empty t1;omega,by omega,by omega,by have :=size_of_empty t6;omega,by have :=size_of_empty t7;omega⟩
 ·rw [if_neg (by exact k1),if_neg (by exact k2),if_neg (by exact k5),if_neg (by exact k6),if_neg (by exact k7),if_neg (by exact k8)] at ht
  simp only [Pv.bare,Bool.and_eq_true,beq_iff_eq] at ht
  obtain ⟨⟨⟨⟨⟨⟨⟨⟨t1,t2⟩,t3⟩,t4⟩,t5⟩,t6⟩,t7⟩,t8⟩,t9⟩:=ht
  exact ⟨p1,by have :=size_of_empty t1;omega,by omega,by omega,by have :=size_of_empty t6;omega,by have :=size_of_empty t7;omega⟩
theorem Qp.inv_bounds {q:Qp} (h:q.check=0):q.inv.path.size≤200∧q.inv.to_.size≤200:=by
 have s:=Qp.bounds h
 have h1:=s.path
 have h2:=s.to_
 unfold Qp.inv
 repeat' split
 all_goals exact ⟨by first | exact h1 | exact h2,by first | exact h1 | exact h2 | exact Nat.zero_le _⟩
end Go.Proofs.YtfmgnaigcibcaaaGreatDoor
namespace Go.Proofs.YtfmgnaigcibcaaaGreatDoor
open Go.RowKit Pa
def Ex (q:Qp) (u v:ByteArray):Prop:=if q.kind=5 then Mv (L q.path) (L q.to_) (L u) (L v) else v=u
def Nw (q:Qp) (u v:ByteArray):Prop:=if q.kind=5 then Nv (L q.path) (L q.to_) (L u) (L v) else v=u
theorem Ex.uniq {q:Qp} {u v v':ByteArray} (h:Ex q u v) (k:Ex q u v'):v=v':=by
 unfold Ex at h k
 split at h
 ·rw [if_pos (by assumption)] at k;exact L_inj (h.uniq k)
 ·rw [if_neg (by assumption)] at k;rw [h,k]
theorem Nw.uniq {q:Qp} {u v v':ByteArray} (h:Nw q u v) (k:Nw q u v'):v=v':=by
 unfold Nw at h k
 split at h
 ·rw [if_pos (by assumption)] at k;exact L_inj (h.uniq k)
 ·rw [if_neg (by assumption)] at k;rw [h,k]
theorem Ex.inj {q:Qp} {u u' v:ByteArray} (h:Ex q u v) (k:Ex q u' v):u=u':=by
 unfold Ex at h k
 split at h
 ·rw [if_pos (by assumption)] at k;exact L_inj (h.symm.uniq k.symm)
 ·rw [if_neg (by assumption)] at k;rw [← h,← k]
theorem Nw.inj {q:Qp} {u u' v:ByteArray} (h:Nw q u v) (k:Nw q u' v):u=u':=by
 unfold Nw at h k
 split at h
 ·rw [if_pos (by assumption)] at k;exact L_inj (h.symm.uniq k.symm)
 ·rw [if_neg (by assumption)] at k;rw [← h,← k]
def Sh (q q':Qp):Prop:=q.kind=q'.kind∧q.path=q'.path∧q.to_=q'.to_
theorem Sh.refl (q:Qp):Sh q q:=⟨rfl,rfl,rfl⟩
theorem Sh.symm {q q':Qp} (h:Sh q q'):Sh q' q:=⟨h.1.symm,h.2.1.symm,h.2.2.symm⟩
theorem Sh.trans {a b c:Qp} (h:Sh a b) (k:Sh b c):Sh a c:=⟨h.1.trans k.1,h.2.1.trans k.2.1,h.2.2.trans k.2.2⟩
theorem Ex.sh {q q':Qp} {u v:ByteArray} (h:Ex q u v) (k:Sh q q'):Ex q' u v:=by
 unfold Ex at h ⊢
 rwa [← k.1,← k.2.1,← k.2.2]
theorem Nw.sh {q q':Qp} {u v:ByteArray} (h:Nw q u v) (k:Sh q q'):Nw q' u v:=by
 unfold Nw at h ⊢
 rwa [← k.1,← k.2.1,← k.2.2]
structure PR (q r r':Qp):Prop where
 kind:r'.kind=r.kind
 new:Qm.adds r.kind=true→Nw q r.path r'.path
 old:Qm.adds r.kind=false→Ex q r.path r'.path
 to5:r.kind=5→Nw q r.to_ r'.to_
 to0:r.kind≠5→r'.to_=r.to_
theorem PR.sh {q q' r r':Qp} (h:PR q r r') (k:Sh q q'):PR q' r r':=
 ⟨h.kind,fun e=>(h.new e).sh k,fun e=>(h.old e).sh k,fun e=>(h.to5 e).sh k,h.to0⟩
theorem PR.shl {q r r2 r':Qp} (h:PR q r r') (k:Sh r r2):PR q r2 r':=
 ⟨h.kind.trans k.1,fun e=>by rw [← k.2.1];exact h.new (by rw [k.1];exact e),fun e=>by rw [← k.2.1];exact h.old (by rw [k.1];exact e),fun e=>by rw [← k.2.2];exact h.to5 (k.1.trans e),fun e=>by rw [← k.2.2];exact h.to0 (fun h=>e (k.1.symm.trans h))⟩
theorem PR.shr {q r r' r2:Qp} (h:PR q r r') (k:Sh r' r2):PR q r r2:=
 ⟨k.1.symm.trans h.kind,fun e=>by rw [← k.2.1];exact h.new e,fun e=>by rw [← k.2.1];exact h.old e,fun e=>by rw [← k.2.2];exact h.to5 e,fun e=>by rw [← k.2.2];exact h.to0 e⟩
theorem PR.uniq {q r r' r2:Qp} (h:PR q r r') (k:PR q r r2):Sh r' r2:=by
 refine ⟨h.kind.trans k.kind.symm,?_,?_⟩
 ·cases e:Qm.adds r.kind
  ·exact (h.old e).uniq (k.old e)
  ·exact (h.new e).uniq (k.new e)
 ·by_cases e:r.kind=5
  ·exact (h.to5 e).uniq (k.to5 e)
  ·rw [h.to0 e,k.to0 e]
theorem PR.inj {q r r2 r':Qp} (h:PR q r r') (k:PR q r2 r'):Sh r r2:=by
 have hk:r.kind=r2.kind:=h.kind.symm.trans k.kind
 refine ⟨hk,?_,?_⟩
 ·cases e:Qm.adds r.kind
  ·exact (h.old e).inj (k.old (by rw [← hk];exact e))
  ·exact (h.new e).inj (k.new (by rw [← hk];exact e))
 ·by_cases e:r.kind=5
  ·exact (h.to5 e).inj (k.to5 (hk.symm.trans e))
  ·rw [← h.to0 e,← k.to0 (fun h=>e (hk.trans h))]
theorem PR.still {q r r':Qp} (h:PR q r r') (hq:q.kind≠5):Sh r' r:=by
 refine ⟨h.kind,?_,?_⟩
 ·cases e:Qm.adds r.kind
  ·have:=h.old e;unfold Ex at this;rwa [if_neg hq] at this
  ·have:=h.new e;unfold Nw at this;rwa [if_neg hq] at this
 ·by_cases e:r.kind=5
  ·have:=h.to5 e;unfold Nw at this;rwa [if_neg hq] at this
  ·exact h.to0 e
theorem after_ex {q:Qp} {s:ByteArray} (h:(Qm.after q.kind q.path q.to_ s).2=true):Ex q s (Qm.after q.kind q.path q.to_ s).1:=by
 unfold Ex
 split
 ·rename_i hk;rw [hk] at h ⊢;exact after_move h
 ·rename_i hk;exact after_same hk
theorem newAfter_nw {q:Qp} {s:ByteArray} (h:(Qm.newAfter q.kind q.path q.to_ s).2=true):Nw q s (Qm.newAfter q.kind q.path q.to_ s).1:=by
 unfold Nw
 split
 ·rename_i hk;rw [hk] at h ⊢;exact newAfter_move h
 ·rename_i hk;exact newAfter_same hk h
theorem through_pr {r q:Qp} (h:(Qp.through r q).2=true):PR q r (Qp.through r q).1:=by
 unfold Qp.through Pv.through at h ⊢
 dsimp only at h ⊢
 rw [Bool.and_eq_true] at h
 obtain ⟨h1,h2⟩:=h
 refine ⟨rfl,fun e=>?_,fun e=>?_,fun e=>?_,fun e=>?_⟩
 ·simp only [e,if_true] at h1 ⊢;exact newAfter_nw h1
 ·simp only [e,Bool.false_eq_true,if_false] at h1 ⊢;exact after_ex h1
 ·have e':(r.kind == 5)=true:=by simpa using e
  simp only [e',if_true] at h2 ⊢;exact newAfter_nw h2
 ·have e':(r.kind == 5)=false:=by simpa using e
  simp only [e',Bool.false_eq_true,if_false]
theorem inv_kind5 {q:Qp}:q.inv.kind=5 ↔ q.kind=5:=by
 unfold Qp.inv
 repeat' split
 all_goals simp_all [Qp.zero]
theorem inv_paths {q:Qp} (h:q.kind=5):q.inv.path=q.to_∧q.inv.to_=q.path:=by
 unfold Qp.inv
 rw [if_neg (by omega),if_neg (by omega),if_neg (by omega),if_neg (by omega),if_pos h]
 exact ⟨rfl,rfl⟩
theorem ex_inv {q:Qp} {u v:ByteArray} (h:Ex q.inv u v):Ex q v u:=by
 unfold Ex at h ⊢
 by_cases hk:q.kind=5
 ·rw [if_pos (inv_kind5.2 hk),(inv_paths hk).1,(inv_paths hk).2] at h
  rw [if_pos hk]
  exact h.symm
 ·rw [if_neg (fun e=>hk (inv_kind5.1 e))] at h
  rw [if_neg hk,h]
theorem nw_inv {q:Qp} {u v:ByteArray} (h:Nw q.inv u v):Nw q v u:=by
 unfold Nw at h ⊢
 by_cases hk:q.kind=5
 ·rw [if_pos (inv_kind5.2 hk),(inv_paths hk).1,(inv_paths hk).2] at h
  rw [if_pos hk]
  exact h.symm
 ·rw [if_neg (fun e=>hk (inv_kind5.1 e))] at h
  rw [if_neg hk,h]
theorem pr_inv {q r r':Qp} (h:PR q.inv r r'):PR q r' r:=
 ⟨h.kind.symm,fun e=>nw_inv (h.new (by rw [← h.kind];exact e)),fun e=>ex_inv (h.old (by rw [← h.kind];exact e)),fun e=>nw_inv (h.to5 (h.kind.symm.trans e)),fun e=>(h.to0 (fun k=>e (h.kind.trans k))).symm⟩
end Go.Proofs.YtfmgnaigcibcaaaGreatDoor
namespace Go.Proofs.YtfmgnaigcibcaaaGreatDoor
open Go.RowKit Pa
def Cross (p l1 l2 q m1 m2 q' p':Int):Prop:=(p+l2 < q∧q'=q - (l2 - l1)∧p'=p)∨(q+m1 < p∧¬ p+l2 < q∧q'=q∧p'=p+(m2 - m1))
def Core (q q':Qp):Prop:=q'.kind=q.kind∧q'.ty=q.ty∧q'.old=q.old∧q'.new=q.new∧q'.so=q.so∧q'.sn=q.sn∧q'.om=q.om∧q'.nm=q.nm
theorem Core.refl (q:Qp):Core q q:=⟨rfl,rfl,rfl,rfl,rfl,rfl,rfl,rfl⟩
theorem Core.trans {a b c:Qp} (h:Core a b) (k:Core b c):Core a c:=
 ⟨k.1.trans h.1,k.2.1.trans h.2.1,k.2.2.1.trans h.2.2.1,k.2.2.2.1.trans h.2.2.2.1,k.2.2.2.2.1.trans h.2.2.2.2.1,k.2.2.2.2.2.1.trans h.2.2.2.2.2.1,k.2.2.2.2.2.2.1.trans h.2.2.2.2.2.2.1,k.2.2.2.2.2.2.2.trans h.2.2.2.2.2.2.2⟩
theorem Core.eq {q q' r:Qp} (h:Core r q) (k:Core r q') (s:Sh q q') (ha:q.at_=q'.at_) (ho:q.off=q'.off):q=q':=by
 obtain ⟨k1,k2,k3,k4,k5,k6,k7,k8⟩:=h
 obtain ⟨l1,l2,l3,l4,l5,l6,l7,l8⟩:=k
 obtain ⟨s1,s2,s3⟩:=s
 cases q
 cases q'
 simp_all
structure Cm (a b c d:Qp):Prop where
 cc:Core b c
 cd:Core a d
 pc:PR a c b
 pd:PR c a d
 x1:a.kind=5→b.kind=5→a.to_≠b.path
 x2:a.kind=5→b.kind=5→c.to_≠a.path
 x3:a.kind=5→b.kind=5→a.to_≠b.to_
 va:a.kind=5→¬ wi (L a.to_) (L a.path)
 vb:b.kind=5→¬ wi (L b.path) (L b.to_)∧¬ wi (L b.to_) (L b.path)
 vc:c.kind=5→¬ wi (L c.to_) (L c.path)
 at6:a.kind=6→b.kind=6→a.path=c.path→Cross a.at_ a.old.length a.new.length b.at_ b.old.length b.new.length c.at_ d.at_
 atN:¬ (a.kind=6∧b.kind=6∧a.path=c.path)→c.at_=b.at_∧d.at_=a.at_
 of7:a.kind=7→b.kind=7→a.path=c.path→Cross a.off a.so.size a.sn.size b.off b.so.size b.sn.size c.off d.off
 ofN:¬ (a.kind=7∧b.kind=7∧a.path=c.path)→c.off=b.off∧d.off=a.off
theorem check_move {q:Qp} (h:q.check=0) (hk:q.kind=5):¬ wi (L q.path) (L q.to_)∧¬ wi (L q.to_) (L q.path):=by
 unfold Qp.check Pv.check at h
 split at h
 ·cases h
 split at h
 ·cases h
 split at h
 ·cases h
 unfold Pv.actCheck at h
 rw [if_neg (by show ¬ (q.kind=1∨q.kind=3);omega),if_neg (by show ¬ (q.kind=2∨q.kind=4);omega),if_pos (by exact hk)] at h
 unfold Pv.movCheck at h
 split at h
 ·cases h
 rename_i hn
 simp only [not_or] at hn
 obtain ⟨h1,h2,h3⟩:=hn
 constructor
 ·intro w
  rcases w.eq_or with w | w
  ·exact h1 (Qm.eqB_iff.2 (L_inj w).symm)
  ·exact h3 (below_iff.2 w)
 ·intro w
  rcases w.eq_or with w | w
  ·exact h1 (Qm.eqB_iff.2 (L_inj w))
  ·exact h2 (below_iff.2 w)
theorem contents_core (a b c d:Qp):Core c (Qp.contents a b c d).1∧Core d (Qp.contents a b c d).2.1∧Sh c (Qp.contents a b c d).1∧Sh d (Qp.contents a b c d).2.1:=by
 unfold Qp.contents
 repeat' split
 all_goals exact ⟨⟨rfl,rfl,rfl,rfl,rfl,rfl,rfl,rfl⟩,⟨rfl,rfl,rfl,rfl,rfl,rfl,rfl,rfl⟩,⟨rfl,rfl,rfl⟩,⟨rfl,rfl,rfl⟩⟩
theorem contents_at {a b c d:Qp} (hc:c.at_=b.at_) (hd:d.at_=a.at_) (h:(Qp.contents a b c d).2.2=true):
 (a.kind=6→b.kind=6→a.path=c.path→Cross a.at_ a.old.length a.new.length b.at_ b.old.length b.new.length (Qp.contents a b c d).1.at_ (Qp.contents a b c d).2.1.at_) ∧
 (¬ (a.kind=6∧b.kind=6∧a.path=c.path)→(Qp.contents a b c d).1.at_=b.at_∧(Qp.contents a b c d).2.1.at_=a.at_):=by
 unfold Qp.contents at h ⊢
 split
 ·rename_i h0
  refine ⟨fun ha hb hp=>?_,fun _=>⟨hc,hd⟩⟩
  rw [ha,hb,hp] at h0
  simp [Qm.adds,Qm.eqB_iff.2] at h0
 ·rename_i h0
  rw [if_neg h0] at h
  split
  ·rename_i h1
   rw [if_pos h1] at h
   cases h
  ·rename_i h1
   rw [if_neg h1] at h
   split
   ·rename_i h2
    rw [if_pos h2] at h
    split
    ·rename_i h3
     refine ⟨fun _ _ _=>?_,fun hn=>?_⟩
     ·unfold Hv.commute at h3 ⊢
      split at h3
      ·cases h3
      rename_i g0
      rw [if_neg g0]
      split at h3
      ·rename_i g1
       rw [if_pos g1]
       split at h3
       ·rename_i g2
        rw [if_pos g2]
        exact .inl ⟨g1,by simp only [Hv.shift,Hv.growth,Pv.hunk];omega,rfl⟩
       ·cases h3
      ·rename_i g1
       rw [if_neg g1]
       split at h3
       ·rename_i g2
        rw [if_pos g2]
        split at h3
        ·rename_i g3
         rw [if_pos g3]
         exact .inr ⟨g2,g1,rfl,by simp only [Hv.shift,Hv.growth,Pv.hunk]⟩
        ·cases h3
       ·cases h3
     ·refine (hn ⟨h2.1,h2.2,?_⟩).elim
      simp only [not_or] at h0
      exact Qm.eqB_iff.1 (by simpa using h0.2.2)
    ·rename_i h3
     rw [if_neg h3] at h
     cases h
   ·rename_i h2
    repeat' split
    all_goals exact ⟨fun ha hb _=>(h2 ⟨ha,hb⟩).elim,fun _=>⟨hc,hd⟩⟩
theorem contents_off {a b c d:Qp} (hc:c.off=b.off) (hd:d.off=a.off) (h:(Qp.contents a b c d).2.2=true):
 (a.kind=7→b.kind=7→a.path=c.path→Cross a.off a.so.size a.sn.size b.off b.so.size b.sn.size (Qp.contents a b c d).1.off (Qp.contents a b c d).2.1.off) ∧
 (¬ (a.kind=7∧b.kind=7∧a.path=c.path)→(Qp.contents a b c d).1.off=b.off∧(Qp.contents a b c d).2.1.off=a.off):=by
 unfold Qp.contents at h ⊢
 split
 ·rename_i h0
  refine ⟨fun ha hb hp=>?_,fun _=>⟨hc,hd⟩⟩
  rw [ha,hb,hp] at h0
  simp [Qm.adds,Qm.eqB_iff.2] at h0
 ·rename_i h0
  rw [if_neg h0] at h
  split
  ·rename_i h1
   rw [if_pos h1] at h
   cases h
  ·rename_i h1
   rw [if_neg h1] at h
   split
   ·rename_i h2
    split
    all_goals exact ⟨fun ha _ _=>by omega,fun _=>⟨hc,hd⟩⟩
   ·rename_i h2
    rw [if_neg h2] at h
    split
    ·rename_i h3
     rw [if_pos h3] at h
     refine ⟨fun _ _ _=>?_,fun hn=>?_⟩
     ·dsimp only at h ⊢
      unfold Pv.xbytes at h ⊢
      split at h
      ·rename_i g1
       rw [if_pos g1]
       exact .inl ⟨g1,rfl,hd⟩
      ·rename_i g1
       rw [if_neg g1]
       split at h
       ·rename_i g2
        rw [if_pos g2]
        refine .inr ⟨g2,g1,hc,?_⟩
        dsimp only
        omega
       ·cases h
     ·refine (hn ⟨h3.1,h3.2,?_⟩).elim
      simp only [not_or] at h0
      exact Qm.eqB_iff.1 (by simpa using h0.2.2)
    ·rename_i h3
     repeat' split
     all_goals exact ⟨fun ha hb _=>(h3 ⟨ha,hb⟩).elim,fun _=>⟨hc,hd⟩⟩
theorem run_cm {a b c d:Qp} (h:a.run b=(c,d,true)) (ha:a.check=0) (hb:b.check=0):Cm a b c d:=by
 unfold Qp.run Qp.runOf at h
 split at h
 rotate_left
 ·simp only [Prod.mk.injEq] at h
  exact absurd h.2.2 (by decide)
 rename_i hh
 simp only [Bool.and_eq_true,decide_eq_true_eq] at hh
 obtain ⟨⟨k1,k2⟩,hf,he,hm,hc,z1,z2⟩:=hh
 simp only [Prod.mk.injEq,and_true] at h
 obtain ⟨rfl,rfl⟩:=h
 have p1:=through_pr k1
 have p2:=through_pr k2
 have hcore:=contents_core a b (Qp.through b a.inv).1 (Qp.through a (Qp.through b a.inv).1).1
 have hat:=contents_at (a:=a) (b:=b) (c:=(Qp.through b a.inv).1) (d:=(Qp.through a (Qp.through b a.inv).1).1) rfl rfl hc
 have hof:=contents_off (a:=a) (b:=b) (c:=(Qp.through b a.inv).1) (d:=(Qp.through a (Qp.through b a.inv).1).1) rfl rfl hc
 have c1:Core b (Qp.through b a.inv).1:=⟨rfl,rfl,rfl,rfl,rfl,rfl,rfl,rfl⟩
 have c2:Core a (Qp.through a (Qp.through b a.inv).1).1:=⟨rfl,rfl,rfl,rfl,rfl,rfl,rfl,rfl⟩
 generalize hC:(Qp.through b a.inv).1=C at *
 generalize hD:(Qp.through a C).1=D at *
 generalize hE:Qp.contents a b C D=E at *
 obtain ⟨g1,g2,g3,g4⟩:=hcore
 refine ⟨c1.trans g1,c2.trans g2,(pr_inv p1).shl g3,(p2.sh g3).shr g4,?_,?_,?_,fun k=>(check_move ha k).2,fun k=>check_move hb k,fun k=>(check_move z1 k).2,?_,?_,?_,?_⟩
 ·intro ka kb e
  unfold Qp.moves Qm.xmoves at hm
  rw [ka,kb,Qm.eqB_iff.2 e] at hm
  simp at hm
 ·intro ka kb e
  unfold Qp.free Qm.xfree at hf
  simp only [Bool.and_eq_true] at hf
  have h1:=hf.1
  have kC:C.kind=5:=by rw [← hC];exact kb
  have e':C.to_=a.path:=by rw [← g3.2.2] at e;exact e
  simp only [Qm.newPath,Qm.frees,Qm.adds,kC,ka,e'] at h1
  simp [Qm.eqB_iff.2] at h1
 ·intro ka kb e
  unfold Qp.free Qm.xfree at hf
  simp only [Bool.and_eq_true] at hf
  have h1:=hf.2.1
  unfold Qm.news at h1
  simp only [Qm.newPath,Qm.adds,ka,kb,e] at h1
  simp [Qm.eqB_iff.2] at h1
 ·rw [← g3.2.1];exact hat.1
 ·rw [← g3.2.1];exact hat.2
 ·rw [← g3.2.1];exact hof.1
 ·rw [← g3.2.1];exact hof.2
end Go.Proofs.YtfmgnaigcibcaaaGreatDoor
namespace Go.Proofs.YtfmgnaigcibcaaaGreatDoor
open Go.RowKit Pa
theorem L_of (l:List UInt8):∃ s:ByteArray,L s=l:=⟨⟨l.toArray⟩,by simp⟩
theorem Cm.square {a b c d:Qp} (h:Cm a b c d) (ka:a.kind=5) (kb:b.kind=5):Square (L a.path) (L a.to_) (L b.path) (L b.to_) (L c.path) (L c.to_) (L d.path) (L d.to_):=by
 have kc:c.kind=5:=h.cc.1.trans kb
 have n5:∀ k:Int,k=5→Qm.adds k=false:=fun k hk=>by rw [hk];rfl
 refine ⟨h.va ka,(h.vb kb).1,(h.vb kb).2,h.vc kc,fun e=>h.x1 ka kb (L_inj e),fun e=>h.x2 ka kb (L_inj e),fun e=>h.x3 ka kb (L_inj e),?_,?_,?_,?_⟩
 ·have:=h.pc.old (n5 _ kc)
  unfold Ex at this
  rw [if_pos ka] at this
  exact this.symm
 ·have:=h.pc.to5 kc
  unfold Nw at this
  rw [if_pos ka] at this
  exact this.symm
 ·have:=h.pd.old (n5 _ ka)
  unfold Ex at this
  rwa [if_pos kc] at this
 ·have:=h.pd.to5 ka
  unfold Nw at this
  rwa [if_pos kc] at this
theorem Cm.ex {a b c d:Qp} (h:Cm a b c d) {u m z:ByteArray} (h1:Ex a u m) (h2:Ex b m z):∃ u',Ex c u u'∧Ex d u' z:=by
 have kc:=h.cc.1
 have kd:=h.cd.1
 by_cases ka:a.kind=5 <;> by_cases kb:b.kind=5
 ·unfold Ex at h1 h2
  rw [if_pos ka] at h1
  rw [if_pos kb] at h2
  obtain ⟨l,q1,q2⟩:=Pa.square (h.square ka kb) h1 h2
  obtain ⟨u',rfl⟩:=L_of l
  refine ⟨u',?_,?_⟩
  ·unfold Ex;rw [if_pos (kc.trans kb)];exact q1
  ·unfold Ex;rw [if_pos (kd.trans ka)];exact q2
 ·have hz:z=m:=by unfold Ex at h2;rwa [if_neg kb] at h2
  subst hz
  have hs:=h.pd.still (by rw [kc];exact kb)
  exact ⟨u,by unfold Ex;rw [if_neg (by rw [kc];exact kb)],h1.sh hs.symm⟩
 ·have hz:m=u:=by unfold Ex at h1;rwa [if_neg ka] at h1
  subst hz
  have hs:=h.pc.still ka
  exact ⟨z,h2.sh hs,by unfold Ex;rw [if_neg (by rw [kd];exact ka)]⟩
 ·have hz:z=m:=by unfold Ex at h2;rwa [if_neg kb] at h2
  have hz2:m=u:=by unfold Ex at h1;rwa [if_neg ka] at h1
  subst hz hz2
  exact ⟨z,by unfold Ex;rw [if_neg (by rw [kc];exact kb)],by unfold Ex;rw [if_neg (by rw [kd];exact ka)]⟩
theorem places {P Q R:Prop} {A B C a1 b1 c1 a2 b2 c2 x1 y1 x2 z1 y2 z2:Int} {l1 l2 m1 m2 n1 n2:Nat} (t1:P→Q→R) (t2:P→R→Q) (t3:Q→R→P)
 (e1:P→Cross A l1 l2 B m1 m2 b1 a1) (f1:¬ P→b1=B∧a1=A) (e2:Q→Cross a1 l1 l2 C n1 n2 c1 a2) (f2:¬ Q→c1=C∧a2=a1) (e3:R→Cross b1 m1 m2 c1 n1 n2 c2 b2) (f3:¬ R→c2=c1∧b2=b1)
 (e4:R→Cross B m1 m2 C n1 n2 x1 y1) (f4:¬ R→x1=C∧y1=B) (e5:Q→Cross A l1 l2 x1 n1 n2 x2 z1) (f5:¬ Q→x2=x1∧z1=A) (e6:P→Cross z1 l1 l2 y1 m1 m2 y2 z2) (f6:¬ P→y2=y1∧z2=z1):
 c2=x2∧b2=y2∧a2=z2:=by
 by_cases p:P <;> by_cases q:Q <;> by_cases r:R
 ·have e1:=e1 p
  have e2:=e2 q
  have e3:=e3 r
  have e4:=e4 r
  have e5:=e5 q
  have e6:=e6 p
  unfold Cross at e1 e2 e3 e4 e5 e6
  rcases e1 with e1 | e1 <;> rcases e4 with e4 | e4 <;> rcases e2 with e2 | e2 <;> rcases e3 with e3 | e3 <;> rcases e5 with e5 | e5 <;> rcases e6 with e6 | e6 <;> omega
 ·exact (r (t1 p q)).elim
 ·exact (q (t2 p r)).elim
 ·have e1:=e1 p
  have e6:=e6 p
  have f2:=f2 q
  have f3:=f3 r
  have f4:=f4 r
  have f5:=f5 q
  unfold Cross at e1 e6
  omega
 ·exact (p (t3 q r)).elim
 ·have e2:=e2 q
  have e5:=e5 q
  have f1:=f1 p
  have f3:=f3 r
  have f4:=f4 r
  have f6:=f6 p
  unfold Cross at e2 e5
  omega
 ·have e3:=e3 r
  have e4:=e4 r
  have f1:=f1 p
  have f2:=f2 q
  have f5:=f5 q
  have f6:=f6 p
  unfold Cross at e3 e4
  omega
 ·have f1:=f1 p
  have f2:=f2 q
  have f3:=f3 r
  have f4:=f4 r
  have f5:=f5 q
  have f6:=f6 p
  omega
end Go.Proofs.YtfmgnaigcibcaaaGreatDoor
namespace Go.Proofs.YtfmgnaigcibcaaaGreatDoor
open Go.RowKit Pa
def Tc (q:Qp) (s:ByteArray):Prop:=s=q.path∨(q.kind=5∧s=q.to_)
theorem empty_list {s:ByteArray} (h:s.toList.isEmpty=true):s=⟨#[]⟩:=by
 have hs:=size_of_empty h
 refine L_inj ?_
 exact List.length_eq_zero_iff.1 hs
structure Qp.Lean' (q:Qp):Prop where
 to_:q.kind≠5→q.to_=⟨#[]⟩
 ty:q.kind≠1→q.kind≠2→q.ty=0
 at_:q.kind≠6→q.at_=0
 old:q.kind≠6→q.old=[]
 new:q.kind≠6→q.new=[]
 off:q.kind≠7→q.off=0
 so:q.kind≠2→q.kind≠7→q.so=⟨#[]⟩
 sn:q.kind≠1→q.kind≠7→q.sn=⟨#[]⟩
 om:q.kind≠2→q.kind≠8→q.om=0
 nm:q.kind≠1→q.kind≠8→q.nm=0
theorem check_parts {q:Qp} (h:q.check=0):(1≤q.kind∧q.kind≤8)∧(q.pv none 0 none 0).tidy=true∧(q.pv none 0 none 0).pathsOk=true∧(q.pv none 0 none 0).actCheck q.old q.new=0:=by
 unfold Qp.check Pv.check at h
 cases hk:(q.pv none 0 none 0).known
 ·rw [if_pos hk] at h;cases h
 rw [if_neg (by rw [hk];exact Bool.noConfusion)] at h
 cases ht:(q.pv none 0 none 0).tidy
 ·rw [if_pos ht] at h;cases h
 rw [if_neg (by rw [ht];exact Bool.noConfusion)] at h
 cases hp:(q.pv none 0 none 0).pathsOk
 ·rw [if_pos hp] at h;cases h
 rw [if_neg (by rw [hp];exact Bool.noConfusion)] at h
 exact ⟨by simpa [Pv.known] using hk,rfl,rfl,h⟩
theorem check_of_parts {q:Qp} (hk:1≤q.kind∧q.kind≤8) (ht:(q.pv none 0 none 0).tidy=true) (hp:(q.pv none 0 none 0).pathsOk=true) (h:(q.pv none 0 none 0).actCheck q.old q.new=0):q.check=0:=by
 unfold Qp.check Pv.check
 have hk':(q.pv none 0 none 0).known=true:=by simpa [Pv.known] using hk
 rw [if_neg (by rw [hk'];exact Bool.noConfusion),if_neg (by rw [ht];exact Bool.noConfusion),if_neg (by rw [hp];exact Bool.noConfusion)]
 exact h
theorem check_lean {q:Qp} (h:q.check=0):q.Lean':=by
 have ht:=(check_parts h).2.1
 unfold Pv.tidy Pv.strip at ht
 have fin:∀ {n m:Nat},(n:Int)+m=0→n=0∧m=0:=fun h=>by omega
 by_cases k1:q.kind=1
 ·rw [if_pos (by exact k1)] at ht
  simp only [Pv.bare,Bool.and_eq_true,beq_iff_eq] at ht
  obtain ⟨⟨⟨⟨⟨⟨⟨⟨t1,t2⟩,t3⟩,t4⟩,t5⟩,t6⟩,t7⟩,t8⟩,t9⟩:=ht
  have f:=fin t4
  exact ⟨fun _=>empty_list t1,fun h=>(h k1).elim,fun _=>t3,fun _=>List.length_eq_zero_iff.1 f.1,fun _=>List.length_eq_zero_iff.1 f.2,fun _=>t5,fun _ _=>empty_list t6,fun h=>(h k1).elim,fun _ _=>t8,fun h=>(h k1).elim⟩
 rw [if_neg (by exact k1)] at ht
 by_cases k2:q.kind=2
 ·rw [if_pos (by exact k2)] at ht
  simp only [Pv.bare,Bool.and_eq_true,beq_iff_eq] at ht
  obtain ⟨⟨⟨⟨⟨⟨⟨⟨t1,t2⟩,t3⟩,t4⟩,t5⟩,t6⟩,t7⟩,t8⟩,t9⟩:=ht
  have f:=fin t4
  exact ⟨fun _=>empty_list t1,fun _ h=>(h k2).elim,fun _=>t3,fun _=>List.length_eq_zero_iff.1 f.1,fun _=>List.length_eq_zero_iff.1 f.2,fun _=>t5,fun h=>(h k2).elim,fun _ _=>empty_list t7,fun h=>(h k2).elim,fun _ _=>t9⟩
 rw [if_neg (by exact k2)] at ht
 by_cases k5:q.kind=5
 ·rw [if_pos (by exact k5)] at ht
  simp only [Pv.bare,Bool.and_eq_true,beq_iff_eq] at ht
  obtain ⟨⟨⟨⟨⟨⟨⟨⟨t1,t2⟩,t3⟩,t4⟩,t5⟩,t6⟩,t7⟩,t8⟩,t9⟩:=ht
  have f:=fin t4
  exact ⟨fun h=>(h k5).elim,fun _ _=>t2,fun _=>t3,fun _=>List.length_eq_zero_iff.1 f.1,fun _=>List.length_eq_zero_iff.1 f.2,fun _=>t5,fun _ _=>empty_list t6,fun _ _=>empty_list t7,fun _ _=>t8,fun _ _=>t9⟩
 rw [if_neg (by exact k5)] at ht
 by_cases k6:q.kind=6
 ·rw [if_pos (by exact k6)] at ht
  simp only [Pv.bare,Bool.and_eq_true,beq_iff_eq] at ht
  obtain ⟨⟨⟨⟨⟨⟨⟨⟨t1,t2⟩,t3⟩,t4⟩,t5⟩,t6⟩,t7⟩,t8⟩,t9⟩:=ht
  exact ⟨fun _=>empty_list t1,fun _ _=>t2,fun h=>(h k6).elim,fun h=>(h k6).elim,fun h=>(h k6).elim,fun _=>t5,fun _ _=>empty_list t6,fun _ _=>empty_list t7,fun _ _=>t8,fun _ _=>t9⟩
 rw [if_neg (by exact k6)] at ht
 by_cases k7:q.kind=7
 ·rw [if_pos (by exact k7)] at ht
  simp only [Pv.bare,Bool.and_eq_true,beq_iff_eq] at ht
  obtain ⟨⟨⟨⟨⟨⟨⟨⟨t1,t2⟩,t3⟩,t4⟩,t5⟩,t6⟩,t7⟩,t8⟩,t9⟩:=ht
  have f:=fin t4
  exact ⟨fun _=>empty_list t1,fun _ _=>t2,fun _=>t3,fun _=>List.length_eq_zero_iff.1 f.1,fun _=>List.length_eq_zero_iff.1 f.2,fun h=>(h k7).elim,fun _ h=>(h k7).elim,fun _ h=>(h k7).elim,fun _ _=>t8,fun _ _=>t9⟩
 rw [if_neg (by exact k7)] at ht
 by_cases k8:q.kind=8
 ·rw [if_pos (by exact k8)] at ht
  simp only [Pv.bare,Bool.and_eq_true,beq_iff_eq] at ht
  obtain ⟨⟨⟨⟨⟨⟨⟨⟨t1,t2⟩,t3⟩,t4⟩,t5⟩,t6⟩,t7⟩,t8⟩,t9⟩:=ht
  have f:=fin t4
  exact ⟨fun _=>empty_list t1,fun _ _=>t2,fun _=>t3,fun _=>List.length_eq_zero_iff.1 f.1,fun _=>List.length_eq_zero_iff.1 f.2,fun _=>t5,fun _ _=>empty_list t6,fun _ _=>empty_list t7,fun _ h=>(h k8).elim,fun _ h=>(h k8).elim⟩
 rw [if_neg (by exact k8)] at ht
 simp only [Pv.bare,Bool.and_eq_true,beq_iff_eq] at ht
 obtain ⟨⟨⟨⟨⟨⟨⟨⟨t1,t2⟩,t3⟩,t4⟩,t5⟩,t6⟩,t7⟩,t8⟩,t9⟩:=ht
 have f:=fin t4
 exact ⟨fun _=>empty_list t1,fun _ _=>t2,fun _=>t3,fun _=>List.length_eq_zero_iff.1 f.1,fun _=>List.length_eq_zero_iff.1 f.2,fun _=>t5,fun _ _=>empty_list t6,fun _ _=>empty_list t7,fun _ _=>t8,fun _ _=>t9⟩
theorem inv_inv {q:Qp} (h:q.check=0):q.inv.inv=q:=by
 have l:=check_lean h
 obtain ⟨g1,g2,g3,g4,g5,g6,g7,g8,g9,g10⟩:=l
 have hk:=(check_parts h).1
 cases q
 rename_i kind path to_ ty at_ old new off so sn om nm
 dsimp only at *
 unfold Qp.inv
 by_cases k1:kind=1
 ·subst k1;simp_all [Qp.zero]
 by_cases k2:kind=2
 ·subst k2;simp_all [Qp.zero]
 by_cases k3:kind=3
 ·subst k3;simp_all [Qp.zero]
 by_cases k4:kind=4
 ·subst k4;simp_all [Qp.zero]
 by_cases k5:kind=5
 ·subst k5;simp_all [Qp.zero]
 simp [k1,k2,k3,k4,k5]
theorem empty_isEmpty:(⟨#[]⟩:ByteArray).toList.isEmpty=true:=by rw [ByteArray.toList_eq];rfl
theorem path_ok {q:Qp} (h:(q.pv none 0 none 0).pathsOk=true):Qm.isPath q.path=true∧(q.kind=5→Qm.isPath q.to_=true):=by
 unfold Pv.pathsOk at h
 rw [Bool.and_eq_true] at h
 refine ⟨h.1,fun hk=>?_⟩
 have h2:=h.2
 have e5:(q.kind == 5)=true:=by simpa using hk
 rw [e5] at h2
 simpa using h2
theorem paths_ok {q:Qp} (h1:Qm.isPath q.path=true) (h2:q.kind=5→Qm.isPath q.to_=true):(q.pv none 0 none 0).pathsOk=true:=by
 unfold Pv.pathsOk
 rw [Bool.and_eq_true]
 refine ⟨h1,?_⟩
 by_cases hk:q.kind=5
 ·simp [h2 hk]
 ·simp [hk]
theorem inv_check {q:Qp} (h:q.check=0):q.inv.check=0:=by
 have l:=check_lean h
 obtain ⟨hk,ht,hp,ha⟩:=check_parts h
 obtain ⟨p1,p2⟩:=path_ok hp
 have e0:=empty_isEmpty
 unfold Pv.actCheck at ha
 by_cases k1:q.kind=1
 ·have ei:q.inv={ Qp.zero with kind:=2,path:=q.path,ty:=q.ty,om:=q.nm,so:=q.sn }:=by unfold Qp.inv;rw [if_pos k1]
  rw [if_pos (by exact .inl k1)] at ha
  unfold Pv.addCheck at ha
  rw [if_neg (by show ¬ q.kind=3;omega)] at ha
  rw [ei]
  refine check_of_parts ⟨by simp,by simp⟩ (by simp [Pv.tidy,Pv.strip,Pv.bare,Qp.zero,e0]) (paths_ok p1 (fun h=>by simp at h)) ?_
  unfold Pv.actCheck Pv.remCheck
  rw [if_neg (by simp),if_pos (by simp),if_neg (by simp)]
  exact ha
 by_cases k3:q.kind=3
 ·have ei:q.inv={ Qp.zero with kind:=4,path:=q.path }:=by unfold Qp.inv;rw [if_neg k1,if_pos k3]
  rw [ei]
  refine check_of_parts ⟨by simp,by simp⟩ (by simp [Pv.tidy,Pv.strip,Pv.bare,Qp.zero,e0]) (paths_ok p1 (fun h=>by simp at h)) ?_
  unfold Pv.actCheck Pv.remCheck
  rw [if_neg (by simp),if_pos (by simp),if_pos (by simp)]
 rw [if_neg (by show ¬ (q.kind=1∨q.kind=3);omega)] at ha
 by_cases k2:q.kind=2
 ·have ei:q.inv={ Qp.zero with kind:=1,path:=q.path,ty:=q.ty,nm:=q.om,sn:=q.so }:=by unfold Qp.inv;rw [if_neg k1,if_neg k3,if_pos k2]
  rw [if_pos (by exact .inl k2)] at ha
  unfold Pv.remCheck at ha
  rw [if_neg (by show ¬ q.kind=4;omega)] at ha
  rw [ei]
  refine check_of_parts ⟨by simp,by simp⟩ (by simp [Pv.tidy,Pv.strip,Pv.bare,Qp.zero,e0]) (paths_ok p1 (fun h=>by simp at h)) ?_
  unfold Pv.actCheck Pv.addCheck
  rw [if_pos (by simp),if_neg (by simp)]
  exact ha
 by_cases k4:q.kind=4
 ·have ei:q.inv={ Qp.zero with kind:=3,path:=q.path }:=by unfold Qp.inv;rw [if_neg k1,if_neg k3,if_neg k2,if_pos k4]
  rw [ei]
  refine check_of_parts ⟨by simp,by simp⟩ (by simp [Pv.tidy,Pv.strip,Pv.bare,Qp.zero,e0]) (paths_ok p1 (fun h=>by simp at h)) ?_
  unfold Pv.actCheck Pv.addCheck
  rw [if_pos (by simp),if_pos (by simp)]
 rw [if_neg (by show ¬ (q.kind=2∨q.kind=4);omega)] at ha
 by_cases k5:q.kind=5
 ·have ei:q.inv={ Qp.zero with kind:=5,path:=q.to_,to_:=q.path }:=by unfold Qp.inv;rw [if_neg k1,if_neg k3,if_neg k2,if_neg k4,if_pos k5]
  rw [if_pos (by exact k5)] at ha
  rw [ei]
  refine check_of_parts ⟨by simp,by simp⟩ (by simp [Pv.tidy,Pv.strip,Pv.bare,Qp.zero,e0]) (paths_ok (p2 k5) (fun _=>p1)) ?_
  unfold Pv.actCheck
  rw [if_neg (by simp),if_neg (by simp),if_pos (by simp)]
  unfold Pv.movCheck at ha ⊢
  split at ha
  ·cases ha
  rename_i hn
  rw [if_neg]
  rintro (w | w | w)
  ·exact hn (.inl (Qm.eqB_iff.2 (Qm.eqB_iff.1 w).symm))
  ·exact hn (.inr (.inr w))
  ·exact hn (.inr (.inl w))
 rw [if_neg (by exact k5)] at ha
 have ei:q.inv={ q with old:=q.new,new:=q.old,so:=q.sn,sn:=q.so,om:=q.nm,nm:=q.om }:=by unfold Qp.inv;rw [if_neg k1,if_neg k3,if_neg k2,if_neg k4,if_neg k5]
 obtain ⟨g1,g2,g3,g4,g5,g6,g7,g8,g9,g10⟩:=l
 rw [ei]
 refine check_of_parts hk ?_ (paths_ok p1 p2) ?_
 ·have c1:=g1 k5
  have c2:=g2 k1 k2
  by_cases k6:q.kind=6
  ·simp [Pv.tidy,Pv.strip,Pv.bare,k6,c1,c2,g6 (by omega),g7 k2 (by omega),g8 k1 (by omega),g9 k2 (by omega),g10 k1 (by omega),e0]
  by_cases k7:q.kind=7
  ·simp [Pv.tidy,Pv.strip,Pv.bare,k7,c1,c2,g3 k6,g4 k6,g5 k6,g9 k2 (by omega),g10 k1 (by omega),e0]
  have k8:q.kind=8:=by omega
  simp [Pv.tidy,Pv.strip,Pv.bare,k8,c1,c2,g3 k6,g4 k6,g5 k6,g6 k7,g7 k2 k7,g8 k1 k7,e0]
 ·unfold Pv.actCheck
  rw [if_neg (by show ¬ (q.kind=1∨q.kind=3);omega),if_neg (by show ¬ (q.kind=2∨q.kind=4);omega),if_neg (by exact k5)]
  unfold Pv.edCheck6 at ha ⊢
  by_cases k6:q.kind=6
  ·rw [if_pos (by exact k6)] at ha ⊢
   unfold Pv.linesCheck at ha ⊢
   split at ha
   ·rename_i h6;exact (h6 ha).elim
   rename_i h6
   split at ha
   ·cases ha
   rename_i h7
   split at ha
   ·cases ha
   rename_i h8
   split at ha
   ·cases ha
   rename_i h9
   have hh:Hv.check (Pv.hunk (Qp.pv { q with old:=q.new,new:=q.old,so:=q.sn,sn:=q.so,om:=q.nm,nm:=q.om } none 0 none 0))=0:=by
    simp only [ne_eq,Decidable.not_not] at h6
    unfold Hv.check Pv.hunk at h6 ⊢
    dsimp only at h6 ⊢
    split at h6
    ·cases h6
    rename_i c1
    rw [if_neg c1]
    split at h6
    ·cases h6
    rename_i c2
    rw [if_neg (by omega)]
   rw [if_neg (by rw [hh];simp),if_neg (by dsimp only at h7 ⊢;omega),if_neg ?_,if_neg (fun e=>h9 e.symm)]
   rw [List.all_append,Bool.and_comm,← List.all_append]
   exact h8
  ·rw [if_neg (by exact k6)] at ha ⊢
   unfold Pv.edCheck at ha ⊢
   dsimp only at ha ⊢
   by_cases k7:q.kind=7
   ·rw [if_pos k7] at ha ⊢
    split at ha
    ·cases ha
    rename_i c1
    rw [if_neg c1]
    split at ha
    ·cases ha
    rename_i c2
    rw [if_neg (by omega)]
    split at ha
    ·cases ha
    rename_i c3
    rw [if_neg (fun w=>c3 (Qm.eqB_iff.2 (Qm.eqB_iff.1 w).symm))]
   ·rw [if_neg k7] at ha ⊢
    split at ha
    ·cases ha
    rename_i c1
    rw [if_neg (by omega)]
    split at ha
    ·cases ha
    rename_i c2
    rw [if_neg (fun w=>c2 w.symm)]
end Go.Proofs.YtfmgnaigcibcaaaGreatDoor
