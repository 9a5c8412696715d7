import Derived.Test.YtfmgnaigcibcaaaGreatDoorTQ0
import Derived.Test.YtfmgnaigcibcaaaGreatDoorTJl
set_option linter.unusedSimpArgs false
set_option linter.unusedVariables false
namespace Go.Proofs.YtfmgnaigcibcaaaGreatDoor
open Go Pa
structure Nd where
 ty:Int
 mode:Int
 data:ByteArray
abbrev Pf.nd (f:Pf):Nd:=⟨f.ty,f.mode,f.data⟩
abbrev Pf.of (s:ByteArray) (n:Nd):Pf:=⟨s,n.ty,n.mode,n.data⟩
abbrev Mp:=ByteArray→Option Nd
namespace Um
def mp (l:List Pf):Mp:=fun s=>(Tr.find l s).map Pf.nd
def Dir (M:Mp) (s:ByteArray):Prop:=s=⟨#[]⟩∨∃ n,M s=some n∧n.ty=4
def Ug (M:Mp):Prop:=∀ s n,M s=some n→Dir M (Tr.parent s)
def upd (M:Mp) (p:ByteArray) (o:Option Nd):Mp:=fun s=>if Qm.eqB s p=true then o else M s
theorem upd_at {M:Mp} {p:ByteArray} {o:Option Nd}:upd M p o p=o:=by unfold upd;rw [if_pos (Qm.eqB_iff.2 rfl)]
theorem upd_ne {M:Mp} {p s:ByteArray} {o:Option Nd} (h:s≠p):upd M p o s=M s:=by unfold upd;rw [if_neg (fun k=>h (Qm.eqB_iff.1 k))]
theorem mp_mem {l:List Pf} (h:Tr.Srt l) {s:ByteArray} {n:Nd}:mp l s=some n ↔ Pf.of s n∈l:=by
 unfold mp
 rw [Option.map_eq_some_iff]
 constructor
 ·rintro ⟨f,hf,rfl⟩
  obtain ⟨h1,rfl⟩:=h.find.1 hf
  exact h1
 ·intro hm
  exact ⟨_,h.find.2 ⟨hm,rfl⟩,rfl⟩
theorem mp_at {l:List Pf} (h:Tr.Srt l) {f:Pf}:mp l f.path=some f.nd ↔ f∈l:=mp_mem h
theorem mp_none {l:List Pf} {s:ByteArray}:mp l s=none ↔ ∀ f∈l,f.path≠s:=by
 unfold mp
 rw [Option.map_eq_none_iff]
 exact Tr.find_none
theorem mp_inj {a b:List Pf} (ha:Tr.Srt a) (hb:Tr.Srt b) (h:mp a=mp b):a=b:=ha.ext hb fun f=>by
 rw [← mp_at ha,h,mp_at hb]
theorem mp_ext {r:List Pf} {M:Mp} (hr:Tr.Srt r) (h:∀ s n,Pf.of s n∈r ↔ M s=some n):mp r=M:=by
 funext s
 apply Option.ext
 intro n
 rw [mp_mem hr,h]
theorem mp_dir {l:List Pf} (h:Tr.Srt l) {s:ByteArray}:Tr.isDir l s=true ↔ Dir (mp l) s:=by
 rw [Tr.isDir_iff]
 refine or_congr Iff.rfl ⟨?_,?_⟩
 ·rintro ⟨g,hg,h1,rfl⟩
  exact ⟨g.nd,(mp_at h).2 hg,h1⟩
 ·rintro ⟨n,h1,h2⟩
  exact ⟨_,(mp_mem h).1 h1,h2,rfl⟩
theorem mp_ug {l:List Pf} (h:Tr.Good l):Ug (mp l):=fun s n hs=>by
 have h1:Tr.isDir l (Tr.parent s)=true:=h.dirs (Pf.of s n) ((mp_mem h.srt).1 hs)
 exact (mp_dir h.srt).1 h1
theorem some_of {o:Option Nd} (h:o≠none):∃ n,o=some n:=by
 cases o with
 | none=>exact (h rfl).elim
 | some n=>exact ⟨n,rfl⟩
theorem Ug.above {M:Mp} (h:Ug M):∀ (k:Nat) {x s:ByteArray},x.size≤k→M x≠none→s≠⟨#[]⟩→sw (L x) (L s)→∃ n,M s=some n∧n.ty=4:=by
 intro k
 induction k with
 | zero=>
   intro x s hk hx hs hw
   have h1:=sw_slash hw
   have h0:L x=[]:=List.length_eq_zero_iff.1 (by have :(L x).length=x.size:=rfl;omega)
   rw [h0] at h1
   cases h1
 | succ k ih=>
   intro x s hk hx hs hw
   rcases Tr.parent_cases x with ⟨hn,_⟩ | ⟨name,hn,hp⟩
   ·exact (hn (sw_slash hw)).elim
   ·obtain ⟨n,hxn⟩:=some_of hx
    have hd:=h x n hxn
    rw [hp] at hw
    obtain ⟨c,hc,hpar,_⟩:=sw_par hn hw
    by_cases h0:c=[]
    ·have e:Tr.parent x=s:=L_inj (by rw [hpar,h0,List.append_nil])
     rw [e] at hd
     exact hd.resolve_left hs
    ·have hw':sw (L (Tr.parent x)) (L s):=⟨c,h0,hc,hpar⟩
     rcases hd with hd | ⟨m,hm,_⟩
     ·have h1:=sw_slash hw'
      rw [hd] at h1
      cases h1
     ·refine ih ?_ (by rw [hm];exact fun e=>nomatch e) hs hw'
      have h1:=congrArg List.length hp
      rw [List.length_append,List.length_cons] at h1
      have h2:(L x).length=x.size:=rfl
      have h3:(L (Tr.parent x)).length=(Tr.parent x).size:=rfl
      omega
theorem Ug.bare {M:Mp} (h:Ug M) {x s:ByteArray} (hs:s≠⟨#[]⟩) (k:M s=none) (hw:wi (L x) (L s)):M x=none:=by
 cases e:M x with
 | none=>rfl
 | some n=>
   rcases hw.eq_or with hw | hw
   ·rw [L_inj hw,k] at e;cases e
   ·obtain ⟨m,hm,_⟩:=h.above x.size (Nat.le_refl _) (by rw [e];exact fun e=>nomatch e) hs hw
    rw [k] at hm;cases hm
theorem parent_ne {s:ByteArray} (h:Tr.parent s≠⟨#[]⟩):sw (L s) (L (Tr.parent s)):=by
 rcases Tr.parent_cases s with ⟨_,k⟩ | ⟨name,_,k⟩
 ·exact (h k).elim
 ·exact ⟨47 :: name,by simp,.inr ⟨name,rfl⟩,k⟩
inductive EdU (q:Qp) (n n':Nd):Prop
 | six (k:q.kind=6) (t:n.ty=1) (en:Txt.Ended (L n.data)) (A B:List ByteArray) (h:Qm.linesOf n.data=A ++ q.old ++ B) (ha:(A.length:Int)=q.at_) (e:n'={ n with data:=Qm.joinOf (A ++ q.new ++ B) })
 | seven (k:q.kind=7) (t:n.ty=2∨n.ty=3) (A B:List UInt8) (h:L n.data=A ++ L q.so ++ B) (ha:(A.length:Int)=q.off) (d:ByteArray) (hd:L d=A ++ L q.sn ++ B) (e:n'={ n with data:=d })
 | eight (k:q.kind=8) (t:n.ty≠4) (m:n.mode=q.om) (e:n'={ n with mode:=q.nm })
theorem EdU.kind {q:Qp} {n n':Nd} (h:EdU q n n'):6≤q.kind:=by cases h <;> omega
theorem EdU.ty {q:Qp} {n n':Nd} (h:EdU q n n'):n'.ty=n.ty:=by
 cases h
 all_goals (rename_i e;rw [e])
abbrev fileN (q:Qp):Nd:=(q.pv none 0 none 0).file.nd
abbrev goneN (q:Qp):Nd:=(q.pv none 0 none 0).gone.nd
inductive Loc (q:Qp) (o o':Option Nd):Prop
 | add (k:q.kind=1∨q.kind=3) (h:o=none) (e:o'=some (fileN q))
 | rem (k:q.kind=2∨q.kind=4) (h:o=some (goneN q)) (e:o'=none)
 | ed (n n':Nd) (h:o=some n) (e:o'=some n') (d:EdU q n n')
structure Lo (q:Qp) (M M':Mp):Prop where
 loc:Loc q (M q.path) (M' q.path)
 rest:∀ x,x≠q.path→M' x=M x
 dir:Qm.adds q.kind=true→Dir M (Tr.parent q.path)
 bare:(q.kind=2∨q.kind=4)→∀ x,sw (L x) (L q.path)→M x=none
structure Mo (s t:ByteArray) (M M':Mp):Prop where
 is:M s≠none
 free:M t=none
 dir:Dir M (Tr.parent t)
 mv:∀ u v,Mv (L s) (L t) (L u) (L v)→M' v=M u
 gone:∀ v,wi (L v) (L s)→M' v=none
inductive Du (q:Qp) (M M':Mp):Prop
 | lo (k:q.kind≠5) (h:Lo q M M')
 | mo (k:q.kind=5) (h:Mo q.path q.to_ M M')
theorem Loc.kind {q:Qp} {o o':Option Nd} (h:Loc q o o'):(1≤q.kind∧q.kind≤8)∧q.kind≠5:=by
 cases h
 ·omega
 ·omega
 ·rename_i d;cases d <;> omega
theorem EdU.core {q q':Qp} {n n':Nd} (h:EdU q n n') (c:Core q q') (ha:q'.at_=q.at_) (ho:q'.off=q.off):EdU q' n n':=by
 obtain ⟨c1,c2,c3,c4,c5,c6,c7,c8⟩:=c
 cases h with
 | six k t en A B h hA e=>exact .six (c1.trans k) t en A B (by rw [c3];exact h) (by rw [ha];exact hA) (by rw [c4];exact e)
 | seven k t A B h hA d hd e=>exact .seven (c1.trans k) t A B (by rw [c5];exact h) (by rw [ho];exact hA) d (by rw [c6];exact hd) e
 | eight k t m e=>exact .eight (c1.trans k) t (by rw [c7];exact m) (by rw [c8];exact e)
theorem Loc.core {q q':Qp} {o o':Option Nd} (h:Loc q o o') (c:Core q q') (ha:q'.at_=q.at_) (ho:q'.off=q.off):Loc q' o o':=by
 cases h with
 | add k h e=>
   refine .add (by rw [c.1];exact k) h ?_
   rw [e]
   obtain ⟨c1,c2,c3,c4,c5,c6,c7,c8⟩:=c
   show some (⟨if q.kind=3 then 4 else q.ty,q.nm,q.sn⟩:Nd)=some ⟨if q'.kind=3 then 4 else q'.ty,q'.nm,q'.sn⟩
   rw [c1,c2,c6,c8]
 | rem k h e=>
   refine .rem (by rw [c.1];exact k) ?_ e
   rw [h]
   obtain ⟨c1,c2,c3,c4,c5,c6,c7,c8⟩:=c
   show some (⟨if q.kind=4 then 4 else q.ty,q.om,q.so⟩:Nd)=some ⟨if q'.kind=4 then 4 else q'.ty,q'.om,q'.so⟩
   rw [c1,c2,c5,c7]
 | ed n n' h e d=>exact .ed n n' h e (d.core c ha ho)
theorem edits_edu {q:Qp} {f g:Pf} (hq:q.check=0) (k:q.kind=6∨q.kind=7∨q.kind=8) (h:q.edits f=(g,0)):EdU q f.nd g.nd:=by
 have he:=check_edit hq
 rcases k with k | k | k
 ·obtain ⟨d,e1,rfl⟩:=(Qp.edits_six k).1 h
  obtain ⟨k1,k2,A,B,k3,k4,k5,rfl⟩:=Txt.relines_iff.1 e1
  refine .six k k1 (Txt.split_zero.1 k2).2.2.1 A B k3 ?_ rfl
  have:=(he.six k).1
  have k4':A.length=q.at_.toNat:=k4
  omega
 ·obtain ⟨d,e1,rfl⟩:=(Qp.edits_seven k).1 h
  obtain ⟨k1,k2,A,B,k3,k4,k5⟩:=Txt.splice_iff.1 e1
  refine .seven k k1 A B k3 ?_ d k5 rfl
  have:=(he.seven k).1
  have k4':A.length=q.off.toNat:=k4
  omega
 ·obtain ⟨k1,k2,rfl⟩:=(Qp.edits_eight k).1 h
  exact .eight k k1 k2 rfl
theorem splice_big {p:Pv} {f:Pf} {d:ByteArray} {A B:List UInt8} (h1:f.ty=2∨f.ty=3) (h2:L f.data=A ++ L p.so ++ B) (h3:A.length=p.off.toNat) (h4:L d=A ++ L p.sn ++ B) (h5:65536 < d.size):(p.splice f).2=4:=by
 unfold Pv.splice
 rw [if_neg (by omega)]
 have hz:(L f.data).length=f.data.size:=rfl
 have hl:=congrArg List.length h2
 simp only [List.length_append] at hl
 rw [← h3,if_neg (by omega)]
 have e1:L (f.data.extract A.length f.data.size)=L p.so ++ B:=by
  rw [L_extract,← hz,List.take_length,h2,List.append_assoc,List.drop_left]
 have hpre:Lib.hasPrefix (f.data.extract A.length f.data.size).data.toList p.so.data.toList=true:=by
  unfold Lib.hasPrefix
  rw [List.isPrefixOf_iff_prefix]
  exact ⟨B,e1.symm⟩
 rw [if_neg (by rw [hpre];simp)]
 have e2:f.data.extract 0 A.length ++ p.sn ++ f.data.extract (A.length+p.so.size) f.data.size=d:=by
  refine L_inj ?_
  rw [L_append,L_append,L_extract,List.drop_zero,L_extract,← hz,List.take_length,← List.drop_drop,h2,List.append_assoc A,List.take_left,List.drop_left,h4]
  congr 1
  have:p.so.size=(L p.so).length:=rfl
  rw [this,List.drop_left]
 rw [e2,if_pos h5]
theorem edu_edits {q:Qp} {f:Pf} {n':Nd} (hq:q.check=0) (hf:Tr.element f=0) (h:EdU q f.nd n'):q.edits f=(Pf.of f.path n',0)∨(q.edits f).2=4:=by
 have he:=check_edit hq
 cases h with
 | six k t en A B h hA e=>
   have hs:Qm.splitErr f.data=0:=(content_zero.1 (Tr.element_zero.1 hf).2.2.2.2).2 t
   have hA':A.length=q.at_.toNat:=by omega
   by_cases hj:Qm.joinErr (A ++ q.new ++ B)=0
   ·left
    exact (Qp.edits_six k).2 ⟨_,Txt.relines_iff.2 ⟨t,hs,A,B,h,hA',hj,rfl⟩,by rw [e]⟩
   ·right
    unfold Qp.edits
    rw [if_pos k]
    show (Pv.relines _ _ _ f).2=4
    unfold Pv.relines
    have hh:Qm.hunkErr (q.pv none 0 none 0).at_ q.old (Qm.linesOf f.data)=0:=(Txt.hunk_iff (n:=q.new)).2 ⟨A,B,h,hA'⟩
    have ho:Qm.hunkOf (q.pv none 0 none 0).at_ q.old q.new (Qm.linesOf f.data)=A ++ q.new ++ B:=by
     have h':Qm.linesOf f.data=A ++ q.old ++ B:=h
     rw [h']
     exact Txt.hunk_of hA'
    rw [if_neg (by simpa using t),if_neg (by simpa using hs),if_neg (by simpa using hh),ho,if_pos hj]
 | seven k t A B h hA d hd e=>
   have hA':A.length=q.off.toNat:=by omega
   by_cases hz:d.size≤65536
   ·left
    exact (Qp.edits_seven k).2 ⟨d,Txt.splice_iff.2 ⟨t,hz,A,B,h,hA',hd⟩,by rw [e]⟩
   ·right
    unfold Qp.edits
    rw [if_neg (by omega),if_pos k]
    exact splice_big t h hA' hd (by omega)
 | eight k t m e=>
   left
   exact (Qp.edits_eight k).2 ⟨t,m,by rw [e]⟩
section
variable {s t:ByteArray} {M M':Mp}
theorem Mv_src {s t u v:List UInt8} (n1:¬ wi t s) (n2:¬ wi s t) (h:Mv s t u v):¬ wi v s:=by
 rcases h with ⟨e,he,rfl,rfl⟩ | ⟨h1,h2,rfl⟩
 ·intro w
  rcases w.chain (wi.mk he) with w | w
  ·exact n2 w
  ·exact n1 w
 ·exact h1
theorem Mv_from (s t:ByteArray) {v:ByteArray} (n:¬ wi (L v) (L s)):∃ u:ByteArray,Mv (L s) (L t) (L u) (L v):=by
 by_cases h:wi (L v) (L t)
 ·obtain ⟨e,he,hv⟩:=h
  obtain ⟨u,hu⟩:=L_of (L s ++ e)
  exact ⟨u,.inl ⟨e,he,hu,hv⟩⟩
 ·exact ⟨v,.inr ⟨n,h,rfl⟩⟩
theorem Mv_to (s t:ByteArray) {u:ByteArray} (n:¬ wi (L u) (L t)):∃ v:ByteArray,Mv (L s) (L t) (L u) (L v):=by
 obtain ⟨v,h⟩:=Mv_from t s n
 exact ⟨v,h.symm⟩
theorem Nv_of {s t u v:List UInt8} (h:Mv s t u v) (k:u≠s):Nv s t u v:=by
 rcases h with ⟨e,he,rfl,rfl⟩ | ⟨h1,h2,rfl⟩
 ·exact .inl ⟨e,fun e0=>k (by rw [e0,List.append_nil]),he,rfl,rfl⟩
 ·exact .inr ⟨not_sw_of h1,not_sw_of h2,rfl⟩
theorem Mv_of {s t u v:List UInt8} (h:Nv s t u v) (k1:u≠s) (k2:u≠t):Mv s t u v:=by
 rcases h with ⟨e,_,he,rfl,rfl⟩ | ⟨h1,h2,rfl⟩
 ·exact .inl ⟨e,he,rfl,rfl⟩
 ·exact .inr ⟨not_wi_of h1 k1,not_wi_of h2 k2,rfl⟩
theorem L_empty {s:ByteArray}:L s=[] ↔ s=⟨#[]⟩:=⟨fun h=>L_inj h,fun h=>by rw [h]⟩
def moved (s t:ByteArray) (M:Mp):Mp:=fun v=>if Qm.within v t=true then M (s ++ v.extract t.size v.size) else if Qm.within v s=true then none else M v
theorem moved_mv (n1:¬ wi (L t) (L s)) (n2:¬ wi (L s) (L t)) {u v:ByteArray} (h:Mv (L s) (L t) (L u) (L v)):moved s t M v=M u:=by
 unfold moved
 rcases h with ⟨e,he,h1,h2⟩ | ⟨h1,h2,h3⟩
 ·rw [if_pos (Pa.within_iff.2 ⟨e,he,h2⟩)]
  congr 1
  refine L_inj ?_
  have hz:v.size=(L v).length:=rfl
  have hs:t.size=(L t).length:=rfl
  rw [L_append,L_extract,hz,List.take_length,h2,hs,List.drop_left,h1]
 ·obtain rfl:=L_inj h3
  rw [if_neg (fun k=>h2 (Pa.within_iff.1 k)),if_neg (fun k=>h1 (Pa.within_iff.1 k))]
theorem moved_gone (n1:¬ wi (L t) (L s)) (n2:¬ wi (L s) (L t)) {v:ByteArray} (h:wi (L v) (L s)):moved s t M v=none:=by
 unfold moved
 rw [if_neg (fun k=>(wi.chain h (Pa.within_iff.1 k)).elim n2 n1),if_pos (Pa.within_iff.2 h)]
theorem mo_moved (n1:¬ wi (L t) (L s)) (n2:¬ wi (L s) (L t)) (h1:M s≠none) (h2:M t=none) (h3:Dir M (Tr.parent t)):Mo s t M (moved s t M):=
 ⟨h1,h2,h3,fun _ _ h=>moved_mv n1 n2 h,fun _ h=>moved_gone n1 n2 h⟩
theorem nv_parent (hs:s≠⟨#[]⟩) (ht:t≠⟨#[]⟩) {u v:ByteArray} (h:Nv (L s) (L t) (L u) (L v)):(Tr.parent u=⟨#[]⟩∧Tr.parent v=⟨#[]⟩)∨(Tr.parent u≠⟨#[]⟩∧Tr.parent v≠⟨#[]⟩∧Mv (L s) (L t) (L (Tr.parent u)) (L (Tr.parent v))):=by
 rcases Tr.parent_cases u with ⟨h1,h2⟩ | ⟨name,h1,h2⟩
 ·obtain rfl:=L_inj ((nv_none h1).1 h)
  exact .inl ⟨h2,h2⟩
 ·rw [h2] at h
  obtain ⟨par',h3,h4⟩:=(nv_par h1).1 h
  have h5:=Tr.parent_of h1 h4
  rw [← h5] at h3
  by_cases e:Tr.parent u=⟨#[]⟩
  ·left
   refine ⟨e,L_empty.1 ?_⟩
   rw [L_empty.2 e] at h3
   rcases h3 with ⟨x,_,k1,_⟩ | ⟨_,_,k⟩
   ·exact (hs (L_empty.1 (List.append_eq_nil_iff.1 k1.symm).1)).elim
   ·exact k
  ·refine .inr ⟨e,fun e'=>e ?_,h3⟩
   rw [L_empty.2 e'] at h3
   rcases h3 with ⟨x,_,_,k1⟩ | ⟨_,_,k⟩
   ·exact (ht (L_empty.1 (List.append_eq_nil_iff.1 k1.symm).1)).elim
   ·exact L_empty.1 k.symm
theorem Mo.dirs (h:Mo s t M M') (hs:s≠⟨#[]⟩) (ht:t≠⟨#[]⟩) {u v:ByteArray} (k:Nv (L s) (L t) (L u) (L v)):Dir M (Tr.parent u) ↔ Dir M' (Tr.parent v):=by
 rcases nv_parent hs ht k with ⟨h1,h2⟩ | ⟨h1,h2,h3⟩
 ·exact ⟨fun _=>.inl h2,fun _=>.inl h1⟩
 ·unfold Dir
  rw [h.mv _ _ h3]
  exact or_congr ⟨fun e=>(h1 e).elim,fun e=>(h2 e).elim⟩ Iff.rfl
theorem Mo.det {X:Mp} (h:Mo s t M M') (k:Mo s t M X):M'=X:=by
 funext v
 by_cases w:wi (L v) (L s)
 ·rw [h.gone v w,k.gone v w]
 ·obtain ⟨u,hu⟩:=Mv_from s t w
  rw [h.mv u v hu,k.mv u v hu]
theorem Mo.come (h:Mo s t M M') {v:ByteArray} (hv:M' v≠none):∃ u,Mv (L s) (L t) (L u) (L v)∧M' v=M u:=by
 have w:¬ wi (L v) (L s):=fun w=>hv (h.gone v w)
 obtain ⟨u,hu⟩:=Mv_from s t w
 exact ⟨u,hu,h.mv u v hu⟩
theorem Mo.go (h:Mo s t M M') (hM:Ug M) (ht:t≠⟨#[]⟩) {u:ByteArray} (hu:M u≠none):∃ v,Mv (L s) (L t) (L u) (L v)∧M' v=M u:=by
 have w:¬ wi (L u) (L t):=fun w=>hu (hM.bare ht h.free w)
 obtain ⟨v,hv⟩:=Mv_to s t w
 exact ⟨v,hv,h.mv u v hv⟩
theorem Mo.ug (h:Mo s t M M') (hM:Ug M) (hs:s≠⟨#[]⟩) (ht:t≠⟨#[]⟩) (n1:¬ wi (L t) (L s)) (n2:¬ wi (L s) (L t)):Ug M':=fun v n hv=>by
 obtain ⟨u,hu,e⟩:=h.come (v:=v) (by rw [hv];exact fun e=>nomatch e)
 rw [hv] at e
 by_cases k:u=s
 ·subst k
  have hvt:v=t:=by
   have h1:Mv (L u) (L t) (L u) (L t):=.inl ⟨[],.nil,by simp,by simp⟩
   exact L_inj (hu.uniq h1)
  subst hvt
  rcases h.dir with hd | ⟨m,hm,h4⟩
  ·exact .inl hd
  ·by_cases hr:Tr.parent v=⟨#[]⟩
   ·exact .inl hr
   ·have hp:=parent_ne hr
    refine .inr ⟨m,?_,h4⟩
    rw [h.mv (Tr.parent v) (Tr.parent v) (.inr ⟨fun w=>n1 (hp.wi.trans w),fun w=>?_,rfl⟩),hm]
    obtain ⟨e1,he1,hx,h1⟩:=hp
    obtain ⟨e2,_,h2⟩:=w
    have l1:=congrArg List.length h1
    have l2:=congrArg List.length h2
    simp only [List.length_append] at l1 l2
    exact he1 (List.length_eq_zero_iff.1 (by omega))
 ·exact (h.dirs hs ht (Nv_of hu (fun e=>k (L_inj e)))).1 (hM u n e.symm)
end
theorem EdU.det {q:Qp} {n a b:Nd} (h:EdU q n a) (k:EdU q n b):a=b:=by
 cases h with
 | six k1 t en A B h hA e=>
   cases k with
   | six k1' t' en' A' B' h' hA' e'=>
     rw [h,List.append_assoc,List.append_assoc] at h'
     obtain ⟨j1,j2⟩:=List.append_inj h' (by omega)
     rw [e,e',j1,List.append_cancel_left j2]
   | seven=>omega
   | eight=>omega
 | seven k1 t A B h hA d hd e=>
   cases k with
   | six=>omega
   | seven k1' t' A' B' h' hA' d' hd' e'=>
     rw [h,List.append_assoc,List.append_assoc] at h'
     obtain ⟨j1,j2⟩:=List.append_inj h' (by omega)
     rw [j1,List.append_cancel_left j2,← hd'] at hd
     rw [e,e',L_inj hd]
   | eight=>omega
 | eight k1 t m e=>
   cases k with
   | six=>omega
   | seven=>omega
   | eight k1' t' m' e'=>rw [e,e']
theorem Loc.det {q:Qp} {o a b:Option Nd} (h:Loc q o a) (k:Loc q o b):a=b:=by
 cases h with
 | add k1 h e=>
   cases k with
   | add _ _ e'=>rw [e,e']
   | rem=>omega
   | ed _ _ _ _ d=>have:=d.kind;omega
 | rem k1 h e=>
   cases k with
   | add=>omega
   | rem _ _ e'=>rw [e,e']
   | ed _ _ _ _ d=>have:=d.kind;omega
 | ed n n' h e d=>
   have:=d.kind
   cases k with
   | add=>omega
   | rem=>omega
   | ed m m' h' e' d'=>
     obtain rfl:=Option.some.inj (h.symm.trans h')
     rw [e,e',d.det d']
theorem Du.det {q:Qp} {M a b:Mp} (h:Du q M a) (k:Du q M b):a=b:=by
 cases h with
 | lo k1 h=>
   cases k with
   | lo _ k=>
     funext x
     by_cases e:x=q.path
     ·rw [e];exact h.loc.det k.loc
     ·rw [h.rest x e,k.rest x e]
   | mo k2=>exact (k1 k2).elim
 | mo k1 h=>
   cases k with
   | lo k2=>exact (k2 k1).elim
   | mo _ k=>exact h.det k
section
variable {q:Qp} {l r:List Pf}
theorem mp_putIn (h:Tr.Srt l) (f:Pf):mp (Tr.putIn f l)=upd (mp l) f.path (some f.nd):=by
 refine mp_ext (Tr.putIn_srt h f) fun s n=>?_
 rw [Tr.putIn_mem h]
 by_cases e:s=f.path
 ·subst e
  rw [upd_at]
  constructor
  ·rintro (e | ⟨_,e⟩)
   ·exact congrArg some (congrArg Pf.nd e).symm
   ·exact (e rfl).elim
  ·intro e
   left
   obtain rfl:=Option.some.inj e
   rfl
 ·rw [upd_ne e,mp_mem h]
  constructor
  ·rintro (e' | ⟨h',_⟩)
   ·exact (e (congrArg Pf.path e')).elim
   ·exact h'
  ·exact fun h'=>.inr ⟨h',e⟩
theorem mp_rest (h:Tr.Srt l) (p:ByteArray):mp (l.filter (fun x=>!Qm.eqB x.path p))=upd (mp l) p none:=by
 refine mp_ext (h.filter _) fun s n=>?_
 rw [Tr.mem_rest]
 by_cases e:s=p
 ·subst e
  rw [upd_at]
  exact ⟨fun k=>(k.2 rfl).elim,fun k=>nomatch k⟩
 ·rw [upd_ne e,mp_mem h]
  exact ⟨fun k=>k.1,fun k=>⟨k,e⟩⟩
theorem q_ne (hq:q.check=0):q.path≠⟨#[]⟩:=Tr.isPath_ne (path_ok (check_parts hq).2.2.1).1
theorem q_to (hq:q.check=0) (k:q.kind=5):q.to_≠⟨#[]⟩:=Tr.isPath_ne ((path_ok (check_parts hq).2.2.1).2 k)
theorem du_of (hg:Tr.Good l) (hq:q.check=0) (h:Tr.Does q l r):Du q (mp l) (mp r):=by
 have hr:=(h.good hg hq).srt
 cases h with
 | add k h1 h2 e=>
   obtain ⟨f1,f2⟩:=(Tr.room_zero hg.srt).1 h1
   refine .lo (by omega) ⟨.add k (mp_none.2 f1) ?_,fun x hx=>?_,fun _=>(mp_dir hg.srt).1 f2,fun k'=>by omega⟩
   ·rw [e,mp_putIn hg.srt];exact upd_at
   ·rw [e,mp_putIn hg.srt];exact upd_ne hx
 | rem k h1 h2 e=>
   refine .lo (by omega) ⟨.rem k ((mp_at hg.srt).2 h1) ?_,fun x hx=>?_,fun ka=>?_,fun _ x hx=>mp_none.2 fun f hf e'=>h2 f hf (by rw [e'];exact hx)⟩
   ·rw [e,mp_rest hg.srt];exact upd_at
   ·rw [e,mp_rest hg.srt];exact upd_ne hx
   ·have:=adds_iff.1 ka;omega
 | mov k h1 e=>
   refine .mo k ⟨?_,mp_none.2 h1.free,(mp_dir hg.srt).1 h1.dir,fun u v hm=>?_,fun v hv=>mp_none.2 fun f hf e'=>?_⟩
   ·obtain ⟨d,hd,e'⟩:=h1.is
    exact fun hn=>mp_none.1 hn d hd e'
   ·apply Option.ext
    intro n
    rw [mp_mem hr,mp_mem hg.srt,e,h1.mem]
    constructor
    ·rintro ⟨f,hf,hs⟩
     have h2:=h1.mv hf
     have h3:(Tr.shift q.path q.to_ f).path=v:=congrArg Pf.path hs
     rw [h3] at h2
     have h4:f.path=u:=L_inj (h2.symm.uniq hm.symm)
     have h5:(Tr.shift q.path q.to_ f).nd=n:=congrArg Pf.nd hs
     rw [Tr.shift_eq] at h5
     have h6:f=Pf.of u n:=by rw [← h4,← h5]
     rw [← h6]
     exact hf
    ·intro hf
     refine ⟨_,hf,?_⟩
     have h2:(Tr.shift q.path q.to_ (Pf.of u n)).path=v:=L_inj (Tr.shift_mv hm)
     rw [Tr.shift_eq,h2]
   ·rw [e,h1.mem] at hf
    obtain ⟨g,hg',rfl⟩:=hf
    have h2:=h1.mv hg'
    rw [e'] at h2
    exact Mv_src h1.n1 h1.n2 h2 hv
 | ed k f g h1 h2 h3 e=>
   have hp:=q.edits_path f
   rw [h3] at hp
   have hp1:g.path=q.path:=hp.1.trans h2
   refine .lo (by omega) ⟨.ed f.nd g.nd ?_ ?_ (edits_edu hq k h3),fun x hx=>?_,fun ka=>?_,fun k'=>by omega⟩
   ·rw [← h2];exact (mp_at hg.srt).2 h1
   ·rw [e,mp_putIn hg.srt,hp1];exact upd_at
   ·rw [e,mp_putIn hg.srt,hp1];exact upd_ne hx
   ·have:=adds_iff.1 ka;omega
theorem du_run {M':Mp} (hg:Tr.Good l) (hq:q.check=0) (h:Du q (mp l) M'):(∃ r,Tr.apply l q=(r,0)∧mp r=M')∨(Tr.apply l q).2=4∨(Tr.apply l q).2=5:=by
 have fin:∀ {r},Tr.Does q l r→∃ r,Tr.apply l q=(r,0)∧mp r=M':=fun hd=>⟨_,Tr.apply_iff.2 ⟨hg,hq,hd⟩,(du_of hg hq hd).det h⟩
 have hgo:=Tr.good_iff.2 hg
 have hk:=(check_parts hq).1
 cases h with
 | lo k h=>
   obtain ⟨loc,rest,dir,bare⟩:=h
   cases loc with
   | add k1 h1 e1=>
     have hroom:Tr.room l q.path=0:=(Tr.room_zero hg.srt).2 ⟨mp_none.1 h1,(mp_dir hg.srt).2 (dir (adds_iff.2 k1))⟩
     by_cases hz:l.length < 200
     ·exact .inl (fin (.add k1 hroom hz rfl))
     ·right;left
      unfold Tr.apply
      rw [if_neg (by simpa using hgo),if_neg (by simpa using hq),if_pos k1]
      unfold Tr.add
      show (if Tr.room l q.path≠0 then _ else _:List Pf × Int).2=4
      rw [if_neg (by simpa using hroom),if_pos (by omega)]
   | rem k1 h1 e1=>
     exact .inl (fin (.rem k1 ((mp_at (f:=(q.pv none 0 none 0).gone) hg.srt).1 h1) (fun x hx hb=>mp_none.1 (bare k1 x.path hb) x hx rfl) rfl))
   | ed n n' h1 e1 d=>
     have k6:q.kind=6∨q.kind=7∨q.kind=8:=by have :=d.kind;omega
     have hf:Pf.of q.path n∈l:=(mp_mem hg.srt).1 h1
     rcases edu_edits (f:=Pf.of q.path n) hq (hg.el _ hf) d with h2 | h2
     ·exact .inl (fin (.ed k6 _ _ hf rfl h2 rfl))
     ·right;left
      unfold Tr.apply
      rw [if_neg (by simpa using hgo),if_neg (by simpa using hq),if_neg (by omega),if_neg (by omega),if_neg (by omega)]
      unfold Tr.edit
      rw [hg.srt.find.2 ⟨hf,rfl⟩]
      show (if (q.edits (Pf.of q.path n)).2≠0 then _ else _:List Pf × Int).2=4
      rw [if_pos (by rw [h2];decide)]
      exact h2
 | mo k h=>
   obtain ⟨p1,p2⟩:=path_ok (check_parts hq).2.2.1
   obtain ⟨n1,n2⟩:=check_move hq k
   have hfree:=mp_none.1 h.free
   have hdir:=(mp_dir hg.srt).2 h.dir
   have his:∃ d∈l,d.path=q.path:=by
    obtain ⟨n,hn⟩:=some_of h.is
    exact ⟨_,(mp_mem hg.srt).1 hn,rfl⟩
   by_cases hz:∀ f∈l,(Tr.shift q.path q.to_ f).path.size≤200
   ·exact .inl (fin (.mov k ⟨hg,p1,p2 k,n2,n1,his,hfree,hdir,hz⟩ rfl))
   ·right;right
    unfold Tr.apply
    rw [if_neg (by simpa using hgo),if_neg (by simpa using hq),if_neg (by omega),if_neg (by omega),if_pos k]
    unfold Tr.move
    obtain ⟨d,hd,e⟩:=his
    rw [hg.srt.find.2 ⟨hd,e⟩,if_neg (by simp),(Tr.room_zero hg.srt).2 ⟨hfree,hdir⟩,if_neg (by simp),if_pos]
    rw [List.any_eq_true]
    rw [Classical.not_forall] at hz
    obtain ⟨f,hz⟩:=hz
    rw [Classical.not_imp] at hz
    exact ⟨_,List.mem_map_of_mem hz.1,by simpa using hz.2⟩
theorem Du.ug {M M':Mp} (h:Du q M M') (hq:q.check=0) (hM:Ug M):Ug M':=by
 cases h with
 | mo k h=>
   obtain ⟨n1,n2⟩:=check_move hq k
   exact h.ug hM (q_ne hq) (q_to hq k) n2 n1
 | lo k h=>
   obtain ⟨loc,rest,dir,bare⟩:=h
   have keep:∀ s,Dir M s→(s=q.path→s≠⟨#[]⟩→∃ n,M' s=some n∧n.ty=4)→Dir M' s:=fun s hd hs=>by
    rcases hd with hd | ⟨n,hn,h4⟩
    ·exact .inl hd
    ·by_cases e:s=q.path
     ·by_cases e0:s=⟨#[]⟩
      ·exact .inl e0
      ·exact .inr (hs e e0)
     ·exact .inr ⟨n,by rw [rest s e];exact hn,h4⟩
   have self:Tr.parent q.path≠q.path:=fun e=>by
    have:=Tr.parent_lt (q_ne hq)
    rw [e,Tr.lt_irrefl] at this
    cases this
   intro s n hs
   have hd:Dir M (Tr.parent s):=by
    by_cases e:s=q.path
    ·rw [e] at hs ⊢
     cases loc with
     | add k1 _ _=>exact dir (adds_iff.2 k1)
     | rem _ _ e1=>rw [e1] at hs;cases hs
     | ed m m' h1 _ _=>exact hM _ _ h1
    ·rw [rest s e] at hs
     exact hM _ _ hs
   refine keep _ hd fun e e0=>?_
   by_cases es:s=q.path
   ·rw [es] at e
    exact (self e).elim
   rw [rest s es] at hs
   have hw:=parent_ne e0
   rw [e] at hw e0 ⊢
   have hd':∃ m,M q.path=some m∧m.ty=4:=by
    have:=hM _ _ hs
    rw [e] at this
    exact this.resolve_left e0
   obtain ⟨m,hm,h4⟩:=hd'
   cases loc with
   | add _ h1 _=>rw [h1] at hm;cases hm
   | rem k1 _ _=>rw [bare k1 s hw] at hs;cases hs
   | ed n1 n2 h1 e2 d=>
     obtain rfl:=Option.some.inj (h1.symm.trans hm)
     exact ⟨n2,e2,d.ty.trans h4⟩
end
end Um
end Go.Proofs.YtfmgnaigcibcaaaGreatDoor
