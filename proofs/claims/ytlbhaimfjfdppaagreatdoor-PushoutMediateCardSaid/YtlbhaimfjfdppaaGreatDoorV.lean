import Derived.Test.YtlbhaimfjfdppaaGreatDoorT
import Derived.Test.YtlbhaimfjfdppaaGreatDoorQ
set_option linter.unusedSimpArgs false
set_option linter.unusedVariables false
namespace Go.Proofs.YtlbhaimfjfdppaaGreatDoor
open Go.RowKit
abbrev Qp.bare (q:Qp):Pv:=q.pv none 0 none 0
def Qp.through (p q:Qp):Qp × Bool:=({ p with path:=(Pv.through p.bare q.bare).1.path,to_:=(Pv.through p.bare q.bare).1.to_ },(Pv.through p.bare q.bare).2)
def Qp.free (a b c d:Qp):Bool:=Qm.xfree a.bare b.bare c.bare d.bare
def Qp.empty (a b c:Qp):Bool:=Qm.xempty b.kind a.kind a.path c.path
def Qp.moves (a b:Qp):Bool:=Qm.xmoves a.kind a.to_ b.kind b.path
def Qp.contents (a b c d:Qp):Qp × Qp × Bool:=
 if Qm.adds a.kind=true∨Qm.adds b.kind=true∨Qm.eqB a.path c.path=false then (c,d,true)
 else if b.kind=2∨(a.kind=8∧b.kind=8) then (c,d,false)
 else if a.kind=6∧b.kind=6 then
  (if (a.bare.hunk.commute b.bare.hunk).2.2 then ({ c with at_:=(a.bare.hunk.commute b.bare.hunk).1.at_ },{ d with at_:=(a.bare.hunk.commute b.bare.hunk).2.1.at_ },true) else (c,d,false))
 else if a.kind=7∧b.kind=7 then ({ c with off:=(a.bare.xbytes b.bare c.bare d.bare).1.off },{ d with off:=(a.bare.xbytes b.bare c.bare d.bare).2.1.off },(a.bare.xbytes b.bare c.bare d.bare).2.2)
 else if (a.kind=6∨a.kind=7)∧(b.kind=6∨b.kind=7) then (c,d,false)
 else (c,d,true)
def Qp.runOf (a b:Qp) (c d:Qp × Bool):Qp × Qp × Bool:=
 if (c.2 && d.2) && (Qp.free a b c.1 d.1 && (Qp.empty a b c.1 && (Qp.moves a b && ((Qp.contents a b c.1 d.1).2.2 && (decide ((Qp.contents a b c.1 d.1).1.check=0) && decide ((Qp.contents a b c.1 d.1).2.1.check=0)))))) then ((Qp.contents a b c.1 d.1).1,(Qp.contents a b c.1 d.1).2.1,true) else (Qp.zero,Qp.zero,false)
def Qp.run (a b:Qp):Qp × Qp × Bool:=Qp.runOf a b (Qp.through b a.inv) (Qp.through a (Qp.through b a.inv).1)
def Qp.commute (a b:Qp):Qp × Qp × Bool:=
 if a.check≠0∨b.check≠0 then (Qp.zero,Qp.zero,false)
 else if (a.run b).2.2=false then (Qp.zero,Qp.zero,false)
 else if ((a.run b).1.run (a.run b).2.1).2.2 && (((a.run b).1.run (a.run b).2.1).1.same a && ((a.run b).1.run (a.run b).2.1).2.1.same b) then ((a.run b).1,(a.run b).2.1,true)
 else (Qp.zero,Qp.zero,false)
theorem hcommute_cases (a b:Hv):((a.commute b).2.2=false)∨(a.commute b=(b.shift (-a.growth),a,true))∨(a.commute b=(b,a.shift b.growth,true)):=by
 unfold Hv.commute
 repeat' split
 all_goals first | exact .inl rfl | exact .inr (.inl rfl) | exact .inr (.inr rfl)
theorem hcommute_bare (a b a' b':Hv) (h1:a.at_=a'.at_) (h2:a.n1=a'.n1) (h3:a.n2=a'.n2) (h4:b.at_=b'.at_) (h5:b.n1=b'.n1) (h6:b.n2=b'.n2):
 (a.commute b).2.2=(a'.commute b').2.2∧(a.commute b).1.at_=(a'.commute b').1.at_∧(a.commute b).2.1.at_=(a'.commute b').2.1.at_:=by
 have e1:a.check=a'.check:=by unfold Hv.check;rw [h1,h2,h3]
 have e2:b.check=b'.check:=by unfold Hv.check;rw [h4,h5,h6]
 have e3:a.growth=a'.growth:=by unfold Hv.growth;rw [h2,h3]
 have e4:b.growth=b'.growth:=by unfold Hv.growth;rw [h5,h6]
 unfold Hv.commute Hv.shift
 simp only [e1,e2,e3,e4,h1,h2,h3,h4,h5,h6]
 repeat' split
 all_goals simp [h1,h4]
theorem contents_pv (a b c d:Qp) (A1:Option Addr) (c1:Nat) (A2:Option Addr) (c2:Nat) (B1:Option Addr) (d1:Nat) (B2:Option Addr) (d2:Nat)
 (hc:c.old=b.old∧c.new=b.new∧c.at_=b.at_) (hd:d.old=a.old∧d.new=a.new∧d.at_=a.at_):
 (Pv.xcontents (a.pv A1 c1 A2 c2) (b.pv B1 d1 B2 d2) (c.pv B1 d1 B2 d2) (d.pv A1 c1 A2 c2)).2.2=(Qp.contents a b c d).2.2 ∧
 ((Qp.contents a b c d).2.2=true→(Pv.xcontents (a.pv A1 c1 A2 c2) (b.pv B1 d1 B2 d2) (c.pv B1 d1 B2 d2) (d.pv A1 c1 A2 c2)).1=(Qp.contents a b c d).1.pv B1 d1 B2 d2 ∧
   (Pv.xcontents (a.pv A1 c1 A2 c2) (b.pv B1 d1 B2 d2) (c.pv B1 d1 B2 d2) (d.pv A1 c1 A2 c2)).2.1=(Qp.contents a b c d).2.1.pv A1 c1 A2 c2):=by
 unfold Pv.xcontents Qp.contents
 split
 ·exact ⟨rfl,fun _=>⟨rfl,rfl⟩⟩
 split
 ·exact ⟨rfl,fun _=>⟨rfl,rfl⟩⟩
 split
 ·have hb:=hcommute_bare (a.pv A1 c1 A2 c2).hunk (b.pv B1 d1 B2 d2).hunk a.bare.hunk b.bare.hunk rfl rfl rfl rfl rfl rfl
  rw [← hb.1,← hb.2.1,← hb.2.2]
  obtain ⟨x1,x2,x3⟩:=hc
  obtain ⟨y1,y2,y3⟩:=hd
  rcases hcommute_cases (a.pv A1 c1 A2 c2).hunk (b.pv B1 d1 B2 d2).hunk with h | h | h
  ·rw [h]
   exact ⟨rfl,fun h=>by cases h⟩
  ·rw [h]
   refine ⟨rfl,fun _=>⟨?_,?_⟩⟩
   ·simp [Pv.withHunk,Hv.shift,Pv.hunk,x1,x2]
   ·simp [Pv.withHunk,Hv.shift,Pv.hunk,y1,y2]
  ·rw [h]
   refine ⟨rfl,fun _=>⟨?_,?_⟩⟩
   ·simp [Pv.withHunk,Hv.shift,Pv.hunk,x1,x2]
   ·simp [Pv.withHunk,Hv.shift,Pv.hunk,y1,y2]
 split
 ·have hx:∀ (P Q R S P' Q' R' S':Pv),P.off=P'.off→P.so=P'.so→P.sn=P'.sn→Q.off=Q'.off→Q.so=Q'.so→Q.sn=Q'.sn→R.off=R'.off→S.off=S'.off →
   (P.xbytes Q R S).2.2=(P'.xbytes Q' R' S').2.2∧(P.xbytes Q R S).1={ R with off:=(P'.xbytes Q' R' S').1.off }∧(P.xbytes Q R S).2.1={ S with off:=(P'.xbytes Q' R' S').2.1.off }:=by
   intro P Q R S P' Q' R' S' k1 k2 k3 k4 k5 k6 k7 k8
   unfold Pv.xbytes
   rw [k1,k2,k3,k4,k5,k6]
   repeat' split
   all_goals simp [k7,k8] <;> simp [← k7,← k8]
  have h:=hx (a.pv A1 c1 A2 c2) (b.pv B1 d1 B2 d2) (c.pv B1 d1 B2 d2) (d.pv A1 c1 A2 c2) a.bare b.bare c.bare d.bare rfl rfl rfl rfl rfl rfl rfl rfl
  exact ⟨h.1,fun _=>⟨h.2.1,h.2.2⟩⟩
 split
 ·exact ⟨rfl,fun _=>⟨rfl,rfl⟩⟩
 ·exact ⟨rfl,fun _=>⟨rfl,rfl⟩⟩
end Go.Proofs.YtlbhaimfjfdppaaGreatDoor
namespace Go.Proofs.YtlbhaimfjfdppaaGreatDoor
open Go.RowKit
theorem size_of_empty {s:ByteArray} (h:s.toList.isEmpty=true):s.size=0:=by
 rw [ByteArray.toList_eq] at h
 have:=List.isEmpty_iff.1 h
 have h2:s.data.toList.length=0:=by rw [this];rfl
 exact h2
theorem content_size {k:Int} {s:ByteArray} (h:Qm.content k s=0):s.size≤65536:=by
 unfold Qm.content at h
 split at h
 ·cases h
 ·omega
theorem whole_size {p:Pv} {m:Int} {s:ByteArray} (h:p.whole m s=0):s.size≤65536:=by
 unfold Pv.whole at h
 split at h
 ·cases h
 split at h
 ·cases h
 exact content_size h
structure Qp.Small (q:Qp):Prop where
 path:q.path.size≤200
 to_:q.to_.size≤200
 off0:0≤q.off
 off1:q.off≤65536
 so:q.so.size≤65536
 sn:q.sn.size≤65536
theorem Qp.bounds {q:Qp} (h:q.check=0):q.Small:=by
 unfold Qp.check Pv.check at h
 cases hk:(q.pv none 0 none 0).known
 ·rw [if_pos hk] at h;cases h
 rw [if_neg (by rw [hk];exact Bool.noConfusion)] at h
 cases ht:(q.pv none 0 none 0).tidy
 ·rw [if_pos ht] at h;cases h
 rw [if_neg (by rw [ht];exact Bool.noConfusion)] at h
 cases hp:(q.pv none 0 none 0).pathsOk
 ·rw [if_pos hp] at h;cases h
 rw [if_neg (by rw [hp];exact Bool.noConfusion)] at h
 have hpath:Qm.isPath q.path=true:=by
  unfold Pv.pathsOk at hp
  rw [Bool.and_eq_true] at hp
  exact hp.1
 have p1:q.path.size≤200:=by
  unfold Qm.isPath at hpath
  rw [Bool.and_eq_true,decide_eq_true_eq] at hpath
  exact hpath.1
 have hk2:1≤q.kind∧q.kind≤8:=by simpa [Pv.known] using hk
 unfold Pv.tidy Pv.strip at ht
 unfold Pv.actCheck at h
 by_cases k1:q.kind=1
 ·rw [if_pos (by exact .inl k1)] at h
  unfold Pv.addCheck at h
  rw [if_neg (by show ¬ q.kind=3;omega)] at h
  rw [if_pos (by exact k1)] at ht
  simp only [Pv.bare,Bool.and_eq_true,beq_iff_eq] at ht
  obtain ⟨⟨⟨⟨⟨⟨⟨⟨t1,t2⟩,t3⟩,t4⟩,t5⟩,t6⟩,t7⟩,t8⟩,t9⟩:=ht
  exact ⟨p1,by have :=size_of_empty t1;omega,by omega,by omega,by have :=size_of_empty t6;omega,whole_size h⟩
 by_cases k2:q.kind=2
 ·rw [if_neg (by show ¬ (q.kind=1∨q.kind=3);omega),if_pos (by exact .inl k2)] at h
  unfold Pv.remCheck at h
  rw [if_neg (by show ¬ q.kind=4;omega)] at h
  rw [if_neg (by exact k1),if_pos (by exact k2)] at ht
  simp only [Pv.bare,Bool.and_eq_true,beq_iff_eq] at ht
  obtain ⟨⟨⟨⟨⟨⟨⟨⟨t1,t2⟩,t3⟩,t4⟩,t5⟩,t6⟩,t7⟩,t8⟩,t9⟩:=ht
  exact ⟨p1,by have :=size_of_empty t1;omega,by omega,by omega,whole_size h,by have :=size_of_empty t7;omega⟩
 by_cases k5:q.kind=5
 ·rw [if_neg (by exact k1),if_neg (by exact k2),if_pos (by exact k5)] at ht
  simp only [Pv.bare,Bool.and_eq_true,beq_iff_eq] at ht
  obtain ⟨⟨⟨⟨⟨⟨⟨⟨t1,t2⟩,t3⟩,t4⟩,t5⟩,t6⟩,t7⟩,t8⟩,t9⟩:=ht
  have hto:Qm.isPath q.to_=true:=by
   unfold Pv.pathsOk at hp
   have e5:((q.pv none 0 none 0).kind == 5)=true:=by simpa using k5
   rw [e5] at hp
   simpa [hpath] using hp
  have p2:q.to_.size≤200:=by
   unfold Qm.isPath at hto
   rw [Bool.and_eq_true,decide_eq_true_eq] at hto
   exact hto.1
  exact ⟨p1,p2,by omega,by omega,by have :=size_of_empty t6;omega,by have :=size_of_empty t7;omega⟩
 by_cases k6:q.kind=6
 ·rw [if_neg (by exact k1),if_neg (by exact k2),if_neg (by exact k5),if_pos (by exact k6)] at ht
  simp only [Pv.bare,Bool.and_eq_true,beq_iff_eq] at ht
  obtain ⟨⟨⟨⟨⟨⟨⟨⟨t1,t2⟩,t3⟩,t4⟩,t5⟩,t6⟩,t7⟩,t8⟩,t9⟩:=ht
  exact ⟨p1,by have :=size_of_empty t1;omega,by omega,by omega,by have :=size_of_empty t6;omega,by have :=size_of_empty t7;omega⟩
 by_cases k7:q.kind=7
 ·rw [if_neg (by show ¬ (q.kind=1∨q.kind=3);omega),if_neg (by show ¬ (q.kind=2∨q.kind=4);omega),if_neg (by show ¬ q.kind=5;omega)] at h
  unfold Pv.edCheck6 at h
  rw [if_neg (by exact k6)] at h
  unfold Pv.edCheck at h
  rw [if_pos (by exact k7)] at h
  rw [if_neg (by exact k1),if_neg (by exact k2),if_neg (by exact k5),if_neg (by exact k6),if_pos (by exact k7)] at ht
  simp only [Pv.bare,Bool.and_eq_true,beq_iff_eq] at ht
  obtain ⟨⟨⟨⟨⟨⟨⟨⟨t1,t2⟩,t3⟩,t4⟩,t5⟩,t6⟩,t7⟩,t8⟩,t9⟩:=ht
  dsimp only at h
  split at h
  ·cases h
  split at h
  ·cases h
  exact ⟨p1,by have :=size_of_empty t1;omega,by omega,by omega,by omega,by omega⟩
 by_cases k8:q.kind=8
 ·rw [if_neg (by exact k1),if_neg (by exact k2),if_neg (by exact k5),if_neg (by exact k6),if_neg (by exact k7),if_pos (by exact k8)] at ht
  simp only [Pv.bare,Bool.and_eq_true,beq_iff_eq] at ht
  obtain ⟨⟨⟨⟨⟨⟨⟨⟨t1,t2⟩,t3⟩,t4⟩,t5⟩,t6⟩,t7⟩,t8⟩,t9⟩:=ht
  exact ⟨p1,by have :=size_of_empty t1;omega,by omega,by omega,by have :=size_of_empty t6;omega,by have :=size_of_empty t7;omega⟩
 ·rw [if_neg (by exact k1),if_neg (by exact k2),if_neg (by exact k5),if_neg (by exact k6),if_neg (by exact k7),if_neg (by exact k8)] at ht
  simp only [Pv.bare,Bool.and_eq_true,beq_iff_eq] at ht
  obtain ⟨⟨⟨⟨⟨⟨⟨⟨t1,t2⟩,t3⟩,t4⟩,t5⟩,t6⟩,t7⟩,t8⟩,t9⟩:=ht
  exact ⟨p1,by have :=size_of_empty t1;omega,by omega,by omega,by have :=size_of_empty t6;omega,by have :=size_of_empty t7;omega⟩
theorem Qp.inv_bounds {q:Qp} (h:q.check=0):q.inv.path.size≤200∧q.inv.to_.size≤200:=by
 have s:=Qp.bounds h
 have h1:=s.path
 have h2:=s.to_
 unfold Qp.inv
 repeat' split
 all_goals exact ⟨by first | exact h1 | exact h2,by first | exact h1 | exact h2 | exact Nat.zero_le _⟩
end Go.Proofs.YtlbhaimfjfdppaaGreatDoor
