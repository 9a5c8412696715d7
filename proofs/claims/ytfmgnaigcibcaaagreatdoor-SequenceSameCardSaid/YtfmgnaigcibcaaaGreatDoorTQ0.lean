import Derived.Test.YtfmgnaigcibcaaaGreatDoorTQ1
import Derived.Test.YtfmgnaigcibcaaaGreatDoorTQ8
import Derived.Test.YtfmgnaigcibcaaaGreatDoorTQ2
import Derived.Test.YtfmgnaigcibcaaaGreatDoorTQe
set_option linter.unusedSimpArgs false
set_option linter.unusedVariables false
namespace Go.Proofs.YtfmgnaigcibcaaaGreatDoor
open Go Go.RowKit
namespace Qm
def joinL:List ByteArray→List UInt8
 | []=>[]
 | x :: l=>x.data.toList ++ 10 :: joinL l
def joinOf (l:List ByteArray):ByteArray:=⟨(joinL l).toArray⟩
def joinScan:List ByteArray→Int
 | []=>0
 | x :: l=>if 1000 < x.size then 4 else if validLine x=false then 3 else joinScan l
def joinErr (l:List ByteArray):Int:=if 2000 < l.length then 4 else if joinScan l≠0 then joinScan l else if 65536 < (joinL l).length then 4 else 0
def hunkErr (at_:Int) (old a:List ByteArray):Int:=if a.length < at_.toNat+old.length then 2 else if (a.drop at_.toNat).take old.length≠old then 15 else 0
def hunkOf (at_:Int) (old new a:List ByteArray):List ByteArray:=a.take at_.toNat ++ new ++ a.drop (at_.toNat+old.length)
end Qm
def Pv.file (p:Pv):Pf:=⟨p.path,if p.kind=3 then 4 else p.ty,p.nm,p.sn⟩
def Pv.gone (p:Pv):Pf:=⟨p.path,if p.kind=4 then 4 else p.ty,p.om,p.so⟩
def Pv.chmod (p:Pv) (f:Pf):Pf × Int:=({ f with mode:=p.nm },if f.ty=4 then 8 else if f.mode≠p.om then 15 else 0)
def Pv.splice (p:Pv) (f:Pf):ByteArray × Int:=
 if f.ty≠2∧f.ty≠3 then (⟨#[]⟩,8)
 else if f.data.size < p.off.toNat then (⟨#[]⟩,2)
 else if Lib.hasPrefix (f.data.extract p.off.toNat f.data.size).data.toList p.so.data.toList=false then (⟨#[]⟩,15)
 else if 65536 < (f.data.extract 0 p.off.toNat ++ p.sn ++ f.data.extract (p.off.toNat+p.so.size) f.data.size).size then (⟨#[]⟩,4)
 else (f.data.extract 0 p.off.toNat ++ p.sn ++ f.data.extract (p.off.toNat+p.so.size) f.data.size,0)
def Pv.relines (p:Pv) (o n:List ByteArray) (f:Pf):ByteArray × Int:=
 if f.ty≠1 then (⟨#[]⟩,8)
 else if Qm.splitErr f.data≠0 then (⟨#[]⟩,Qm.splitErr f.data)
 else if Qm.hunkErr p.at_ o (Qm.linesOf f.data)≠0 then (⟨#[]⟩,Qm.hunkErr p.at_ o (Qm.linesOf f.data))
 else if Qm.joinErr (Qm.hunkOf p.at_ o n (Qm.linesOf f.data))≠0 then (⟨#[]⟩,4)
 else (Qm.joinOf (Qm.hunkOf p.at_ o n (Qm.linesOf f.data)),0)
namespace Tr
def add (l:List Pf) (f:Pf):List Pf × Int:=if room l f.path≠0 then ([],room l f.path) else if 200≤l.length then ([],4) else (putIn f l,0)
def remove (l:List Pf) (f:Pf):List Pf × Int:=
 match find l f.path with
 | none=>([],7)
 | some g=>if g.ty≠f.ty then ([],8) else if g.mode≠f.mode∨Qm.eqB g.data f.data=false then ([],15)
   else if l.any (fun x=>Qm.below x.path f.path)=true then ([],15) else (l.filter (fun x=>!Qm.eqB x.path f.path),0)
def edit (l:List Pf) (s:ByteArray) (h:Pf→Pf × Int):List Pf × Int:=
 match find l s with
 | none=>([],7)
 | some f=>if (h f).2≠0 then ([],(h f).2) else (putIn (h f).1 l,0)
end Tr
def Qp.edits (q:Qp) (f:Pf):Pf × Int:=
 if q.kind=6 then ({ f with data:=((q.pv none 0 none 0).relines q.old q.new f).1 },((q.pv none 0 none 0).relines q.old q.new f).2)
 else if q.kind=7 then ({ f with data:=((q.pv none 0 none 0).splice f).1 },((q.pv none 0 none 0).splice f).2)
 else (q.pv none 0 none 0).chmod f
def Tr.apply (l:List Pf) (q:Qp):List Pf × Int:=
 if Tr.checkTree l≠0 then ([],Tr.checkTree l)
 else if q.check≠0 then ([],q.check)
 else if q.kind=1∨q.kind=3 then Tr.add l (q.pv none 0 none 0).file
 else if q.kind=2∨q.kind=4 then Tr.remove l (q.pv none 0 none 0).gone
 else if q.kind=5 then Tr.move l q.path q.to_
 else Tr.edit l q.path q.edits
end Go.Proofs.YtfmgnaigcibcaaaGreatDoor
namespace Go.Proofs.YtfmgnaigcibcaaaGreatDoor
open Go Pa
namespace Txt
theorem idxN {l:List UInt8} {c:UInt8}:Lib.indexByte l c < 0 ↔ c ∉ l:=by
 have h0:=Lib.indexByte_ge l c
 constructor
 ·intro h hm
  have hm1:Lib.indexByte l c=-1:=by omega
  obtain ⟨k,hk,hx⟩:=List.mem_iff_getElem.1 hm
  exact Lib.indexByte_none hm1 k (by rw [List.getElem?_eq_getElem hk,hx])
 ·intro h
  by_cases hm:Lib.indexByte l c=-1
  ·omega
  ·obtain ⟨o,ho⟩:∃ o:Nat,Lib.indexByte l c=o:=⟨(Lib.indexByte l c).toNat,by omega⟩
   exact (h (List.mem_of_getElem? (Lib.indexByte_some ho).1)).elim
def Ok (x:ByteArray):Prop:=x.size≤1000∧10 ∉ L x∧0 ∉ L x
theorem valid_iff {x:ByteArray}:Qm.validLine x=true ↔ Ok x:=by
 unfold Qm.validLine Ok
 rw [Bool.and_eq_true,Bool.and_eq_true,decide_eq_true_eq,decide_eq_true_eq,decide_eq_true_eq,idxN,idxN,and_assoc]
theorem scan_zero:∀ {l:List ByteArray},Qm.joinScan l=0 ↔ ∀ x∈l,Ok x
 | []=>by simp [Qm.joinScan]
 | x :: l=>by
   unfold Qm.joinScan
   rw [List.forall_mem_cons,← scan_zero]
   by_cases h1:1000 < x.size
   ·rw [if_pos h1]
    exact ⟨fun h=>(by cases h),fun h=>absurd h.1.1 (by omega)⟩
   ·rw [if_neg h1]
    cases h2:Qm.validLine x
    ·rw [if_pos rfl]
     refine ⟨fun h=>(by cases h),fun h=>?_⟩
     rw [valid_iff.2 h.1] at h2
     cases h2
    ·rw [if_neg (by simp)]
     exact ⟨fun h=>⟨valid_iff.1 h2,h⟩,fun h=>h.2⟩
theorem join_zero {l:List ByteArray}:Qm.joinErr l=0 ↔ l.length≤2000∧(∀ x∈l,Ok x)∧(Qm.joinL l).length≤65536:=by
 unfold Qm.joinErr
 by_cases h1:2000 < l.length
 ·rw [if_pos h1]
  exact ⟨fun h=>(by cases h),fun h=>absurd h.1 (by omega)⟩
 ·rw [if_neg h1]
  by_cases h2:Qm.joinScan l=0
  ·rw [if_neg (by simpa using h2)]
   rw [scan_zero] at h2
   by_cases h3:65536 < (Qm.joinL l).length
   ·rw [if_pos h3]
    exact ⟨fun h=>(by cases h),fun h=>absurd h.2.2 (by omega)⟩
   ·rw [if_neg h3]
    exact ⟨fun _=>⟨by omega,h2,by omega⟩,fun _=>rfl⟩
  ·rw [if_pos h2]
   exact ⟨fun h=>(h2 h).elim,fun h=>(h2 (scan_zero.2 h.2.1)).elim⟩
theorem L_join (l:List ByteArray):L (Qm.joinOf l)=Qm.joinL l:=by
 show (Qm.joinL l).toArray.toList=_
 simp
theorem joinL_append (a b:List ByteArray):Qm.joinL (a ++ b)=Qm.joinL a ++ Qm.joinL b:=by
 induction a with
 | nil=>rfl
 | cons x a ih=>rw [List.cons_append,Qm.joinL,Qm.joinL,ih,List.append_assoc];rfl
theorem idx_at {x:List UInt8} {r:List UInt8} {c:UInt8} (h:c ∉ x):Lib.indexByte (x ++ c :: r) c=x.length:=by
 refine indexByte_is (by rw [List.getElem?_append_right (Nat.le_refl _),Nat.sub_self];rfl) fun j hj e=>?_
 rw [List.getElem?_append_left hj] at e
 exact h (List.mem_of_getElem? e)
theorem size_L (s:ByteArray):s.size=(L s).length:=rfl
theorem lines_cons {s x t:ByteArray} (h:L s=L x ++ 10 :: L t) (hx:10 ∉ L x):Qm.linesOf s=x :: Qm.linesOf t:=by
 have hi:Lib.indexByte s.data.toList 10=x.size:=by
  show Lib.indexByte (L s) 10=_
  rw [h,idx_at hx]
  rfl
 rw [Qm.linesOf_some hi]
 have e1:s.extract 0 x.size=x:=L_inj (by rw [L_extract,h,List.drop_zero,size_L,List.take_left])
 have e2:s.extract (x.size+1) s.size=t:=L_inj (by
  rw [L_extract,size_L s,List.take_length,h,size_L,List.drop_append]
  simp)
 rw [e1,e2]
theorem lines_join:∀ {l:List ByteArray},(∀ x∈l,10 ∉ L x)→Qm.linesOf (Qm.joinOf l)=l
 | [],_=>Qm.linesOf_none (by
    rw [idxN]
    show 10 ∉ L (Qm.joinOf [])
    rw [L_join]
    simp [Qm.joinL])
 | x :: l,h=>by
   rw [List.forall_mem_cons] at h
   rw [lines_cons (s:=Qm.joinOf (x :: l)) (x:=x) (t:=Qm.joinOf l) (by rw [L_join,L_join];rfl) h.1,lines_join h.2]
theorem no_lines {s:ByteArray} (h:10 ∉ L s):Qm.linesOf s=[]:=Qm.linesOf_none (idxN.2 h)
def Ended (l:List UInt8):Prop:=l=[]∨[10] <:+ l
theorem split_line {l:List UInt8} (h:10∈l):∃ x t,l=x ++ 10 :: t∧10 ∉ x:=by
 induction l with
 | nil=>cases h
 | cons a l ih=>
   by_cases ha:a=10
   ·exact ⟨[],l,by rw [ha];rfl,by simp⟩
   ·rcases List.mem_cons.1 h with e | h
    ·exact (ha e.symm).elim
    ·obtain ⟨x,t,rfl,hx⟩:=ih h
     exact ⟨a :: x,t,rfl,by simp [hx,Ne.symm ha]⟩
theorem L_some (l:List UInt8):∃ s:ByteArray,L s=l:=⟨⟨l.toArray⟩,by simp⟩
theorem join_lines:∀ (n:Nat) (s:ByteArray),s.size≤n→Ended (L s)→Qm.joinL (Qm.linesOf s)=L s
 | n,s,hn,he=>by
   by_cases h10:10∈L s
   ·obtain ⟨xl,tl,h1,h2⟩:=split_line h10
    obtain ⟨x,rfl⟩:=L_some xl
    obtain ⟨t,rfl⟩:=L_some tl
    have hz:t.size < s.size:=by
     have:=congrArg List.length h1
     rw [List.length_append,List.length_cons] at this
     rw [size_L,size_L]
     omega
    have he':Ended (L t):=by
     rcases he with e | e
     ·rw [e] at h10;cases h10
     ·by_cases ht:L t=[]
      ·exact .inl ht
      ·right
       rw [h1] at e
       obtain ⟨r,hr⟩:=e
       have:=List.append_eq_append_iff.1 hr
       rcases List.eq_nil_or_concat (L t) with k | ⟨q,c,k⟩
       ·exact (ht k).elim
       ·rw [List.concat_eq_append] at k
        rw [k] at hr
        have hr2:r ++ [10]=(L x ++ 10 :: q) ++ [c]:=by rw [hr];simp
        have:=(List.append_inj_right' hr2 rfl)
        rw [k,← this]
        exact ⟨q,rfl⟩
    match n with
    | 0=>omega
    | n+1=>
      rw [lines_cons h1 h2,Qm.joinL,join_lines n t (by omega) he',h1]
   ·rw [no_lines h10]
    rcases he with e | ⟨r,e⟩
    ·rw [e];rfl
    ·exact (h10 (by rw [← e];simp)).elim
theorem ended_join (l:List ByteArray):Ended (Qm.joinL l):=by
 rcases List.eq_nil_or_concat l with rfl | ⟨r,x,rfl⟩
 ·exact .inl rfl
 ·right
  rw [List.concat_eq_append,joinL_append]
  exact ⟨Qm.joinL r ++ x.data.toList,by simp [Qm.joinL]⟩
theorem mem_join {c:UInt8} (hc:c≠10):∀ {l:List ByteArray},c∈Qm.joinL l ↔ ∃ x∈l,c∈L x
 | []=>by simp [Qm.joinL]
 | x :: l=>by
   rw [Qm.joinL,List.mem_append,List.mem_cons,mem_join hc]
   simp [hc]
theorem ended_iff {s:ByteArray}:(Qm.eqB s ⟨#[]⟩=true∨Lib.hasSuffix s.data.toList [10]=true) ↔ Ended (L s):=by
 unfold Ended Lib.hasSuffix
 rw [List.isSuffixOf_iff_suffix,Qm.eqB_iff]
 refine or_congr ⟨fun h=>by rw [h],fun h=>L_inj (by rw [h])⟩ Iff.rfl
theorem long_iff {l:List ByteArray}:Qm.longLine l=true ↔ ∃ x∈l,1000 < x.size:=by
 unfold Qm.longLine
 rw [List.any_eq_true]
 simp
theorem split_zero {s:ByteArray}:Qm.splitErr s=0 ↔ s.size≤65536∧0 ∉ L s∧Ended (L s)∧(Qm.linesOf s).length≤2000∧∀ x∈Qm.linesOf s,x.size≤1000:=by
 unfold Qm.splitErr
 rw [← ended_iff,← idxN]
 by_cases h1:65536 < s.size
 ·rw [if_pos h1]
  exact ⟨fun h=>(by cases h),fun h=>absurd h.1 (by omega)⟩
 ·rw [if_neg h1]
  by_cases h2:0≤Lib.indexByte s.data.toList 0∨(Qm.eqB s ⟨#[]⟩=false∧Lib.hasSuffix s.data.toList [10]=false)
  ·rw [if_pos h2]
   refine ⟨fun h=>(by cases h),fun h=>?_⟩
   rcases h2 with k | ⟨k1,k2⟩
   ·exact absurd (show Lib.indexByte s.data.toList 0 < 0 from h.2.1) (by omega)
   ·rcases h.2.2.1 with k | k
    ·rw [k] at k1;cases k1
    ·rw [k] at k2;cases k2
  ·rw [if_neg h2]
   rw [not_or,not_and] at h2
   have h3:Qm.eqB s ⟨#[]⟩=true∨Lib.hasSuffix s.data.toList [10]=true:=by
    cases k1:Qm.eqB s ⟨#[]⟩
    ·exact .inr (by simpa using h2.2 k1)
    ·exact .inl rfl
   by_cases h4:Qm.longLine (Qm.linesOf s)=true∨2000 < (Qm.linesOf s).length
   ·rw [if_pos h4]
    refine ⟨fun h=>(by cases h),fun h=>?_⟩
    rcases h4 with k | k
    ·obtain ⟨x,hx,hz⟩:=long_iff.1 k
     exact absurd (h.2.2.2.2 x hx) (by omega)
    ·exact absurd h.2.2.2.1 (by omega)
   ·rw [if_neg h4]
    rw [not_or,long_iff] at h4
    refine ⟨fun _=>⟨by omega,(by omega:Lib.indexByte s.data.toList 0 < 0),h3,by omega,fun x hx=>?_⟩,fun _=>rfl⟩
    have:=h4.1
    by_cases hz:x.size≤1000
    ·exact hz
    ·exact (this ⟨x,hx,by omega⟩).elim
theorem lines_ten:∀ (n:Nat) (s:ByteArray),s.size≤n→∀ x∈Qm.linesOf s,10 ∉ L x∧∀ c∈L x,c∈L s
 | n,s,hn=>by
   by_cases h10:10∈L s
   ·obtain ⟨xl,tl,h1,h2⟩:=split_line h10
    obtain ⟨x,rfl⟩:=L_some xl
    obtain ⟨t,rfl⟩:=L_some tl
    have hz:t.size < s.size:=by
     have:=congrArg List.length h1
     rw [List.length_append,List.length_cons] at this
     rw [size_L,size_L]
     omega
    match n with
    | 0=>omega
    | n+1=>
      rw [lines_cons h1 h2]
      intro y hy
      rcases List.mem_cons.1 hy with rfl | hy
      ·exact ⟨h2,fun c hc=>by rw [h1];exact List.mem_append_left _ hc⟩
      ·obtain ⟨k1,k2⟩:=lines_ten n t (by omega) y hy
       exact ⟨k1,fun c hc=>by rw [h1];exact List.mem_append_right _ (List.mem_cons_of_mem _ (k2 c hc))⟩
   ·rw [no_lines h10]
    intro y hy
    cases hy
theorem of_text {s:ByteArray} (h:Qm.splitErr s=0):Qm.joinErr (Qm.linesOf s)=0∧Qm.joinOf (Qm.linesOf s)=s:=by
 obtain ⟨h1,h2,h3,h4,h5⟩:=split_zero.1 h
 have e:=join_lines _ s (Nat.le_refl _) h3
 refine ⟨join_zero.2 ⟨h4,fun x hx=>?_,by rw [e];exact h1⟩,L_inj (by rw [L_join,e])⟩
 obtain ⟨k1,k2⟩:=lines_ten _ s (Nat.le_refl _) x hx
 exact ⟨h5 x hx,k1,fun hc=>h2 (k2 0 hc)⟩
theorem to_text {l:List ByteArray} (h:Qm.joinErr l=0):Qm.splitErr (Qm.joinOf l)=0∧Qm.linesOf (Qm.joinOf l)=l:=by
 obtain ⟨h1,h2,h3⟩:=join_zero.1 h
 have e:=lines_join (l:=l) fun x hx=>(h2 x hx).2.1
 refine ⟨split_zero.2 ⟨by rw [size_L,L_join];exact h3,?_,by rw [L_join];exact ended_join l,by rw [e];exact h1,fun x hx=>by rw [e] at hx;exact (h2 x hx).1⟩,e⟩
 rw [L_join,mem_join (by decide)]
 rintro ⟨x,hx,hc⟩
 exact (h2 x hx).2.2 hc
theorem join_inj {a b:List ByteArray} (ha:Qm.joinErr a=0) (hb:Qm.joinErr b=0) (h:Qm.joinOf a=Qm.joinOf b):a=b:=by
 rw [← (to_text ha).2,← (to_text hb).2,h]
theorem splice_iff {p:Pv} {f:Pf} {d:ByteArray}:p.splice f=(d,0) ↔ (f.ty=2∨f.ty=3)∧d.size≤65536∧∃ A B,L f.data=A ++ L p.so ++ B∧A.length=p.off.toNat∧L d=A ++ L p.sn ++ B:=by
 unfold Pv.splice
 by_cases h1:f.ty≠2∧f.ty≠3
 ·rw [if_pos h1]
  refine ⟨fun h=>(by cases h),fun h=>?_⟩
  rcases h.1 with k | k
  ·exact (h1.1 k).elim
  ·exact (h1.2 k).elim
 rw [if_neg h1]
 have h1':f.ty=2∨f.ty=3:=by omega
 generalize p.off.toNat=o
 by_cases h2:f.data.size < o
 ·rw [if_pos h2]
  refine ⟨fun h=>(by cases h),?_⟩
  rintro ⟨_,_,A,B,e1,e2,_⟩
  have:=congrArg List.length e1
  rw [← size_L] at this
  simp only [List.length_append] at this
  omega
 rw [if_neg h2]
 have hpre:Lib.hasPrefix (f.data.extract o f.data.size).data.toList p.so.data.toList=true ↔ ∃ B,(L f.data).drop o=L p.so ++ B:=by
  unfold Lib.hasPrefix
  rw [List.isPrefixOf_iff_prefix]
  show L p.so <+: L (f.data.extract o f.data.size) ↔ _
  rw [L_extract,size_L f.data,List.take_length]
  exact ⟨fun ⟨B,e⟩=>⟨B,e.symm⟩,fun ⟨B,e⟩=>⟨B,e.symm⟩⟩
 cases h3:Lib.hasPrefix (f.data.extract o f.data.size).data.toList p.so.data.toList
 ·rw [if_pos rfl]
  refine ⟨fun h=>(by cases h),?_⟩
  rintro ⟨_,_,A,B,e1,e2,_⟩
  rw [hpre.2 ⟨B,by rw [e1,List.append_assoc,← e2,List.drop_left]⟩] at h3
  cases h3
 rw [if_neg (by simp)]
 obtain ⟨B,hB⟩:=hpre.1 h3
 have hf:L f.data=(L f.data).take o ++ L p.so ++ B:=by rw [List.append_assoc,← hB,List.take_append_drop]
 have hA:((L f.data).take o).length=o:=by rw [List.length_take,← size_L];omega
 have hd:L (f.data.extract 0 o ++ p.sn ++ f.data.extract (o+p.so.size) f.data.size)=(L f.data).take o ++ L p.sn ++ B:=by
  rw [L_append,L_append,L_extract,List.drop_zero,L_extract,size_L f.data,List.take_length,← List.drop_drop,hB,size_L,List.drop_left]
 by_cases h4:65536 < (f.data.extract 0 o ++ p.sn ++ f.data.extract (o+p.so.size) f.data.size).size
 ·rw [if_pos h4]
  refine ⟨fun h=>(by cases h),?_⟩
  rintro ⟨_,hz,A,C,e1,e2,e3⟩
  rw [hf,List.append_assoc,List.append_assoc] at e1
  obtain ⟨k1,k2⟩:=List.append_inj e1 (by rw [hA,e2])
  have k3:=List.append_cancel_left k2
  subst k1 k3
  rw [size_L,hd,← e3,← size_L] at h4
  omega
 ·rw [if_neg h4]
  constructor
  ·intro h
   have e:=congrArg Prod.fst h
   dsimp only at e
   subst e
   exact ⟨h1',by omega,_,B,hf,hA,hd⟩
  ·rintro ⟨_,hz,A,C,e1,e2,e3⟩
   rw [hf,List.append_assoc,List.append_assoc] at e1
   obtain ⟨k1,k2⟩:=List.append_inj e1 (by rw [hA,e2])
   have k3:=List.append_cancel_left k2
   subst k1 k3
   rw [L_inj (e3.trans hd.symm)]
theorem hunk_iff {k:Int} {o n a:List ByteArray}:Qm.hunkErr k o a=0 ↔ ∃ A B,a=A ++ o ++ B∧A.length=k.toNat:=by
 unfold Qm.hunkErr
 generalize k.toNat=m
 by_cases h1:a.length < m+o.length
 ·rw [if_pos h1]
  refine ⟨fun h=>(by cases h),?_⟩
  rintro ⟨A,B,rfl,e⟩
  simp only [List.length_append] at h1
  omega
 rw [if_neg h1]
 by_cases h2:(a.drop m).take o.length=o
 ·rw [if_neg (by simpa using h2)]
  refine ⟨fun _=>⟨a.take m,a.drop (m+o.length),?_,by rw [List.length_take];omega⟩,fun _=>rfl⟩
  have e:(a.drop m).take o.length ++ (a.drop m).drop o.length=a.drop m:=List.take_append_drop _ _
  rw [h2,List.drop_drop] at e
  rw [List.append_assoc,e,List.take_append_drop]
 ·rw [if_pos h2]
  refine ⟨fun h=>(by cases h),?_⟩
  rintro ⟨A,B,rfl,e⟩
  exact (h2 (by rw [List.append_assoc,← e,List.drop_left,List.take_left])).elim
theorem hunk_of {k:Int} {o n A B:List ByteArray} (e:A.length=k.toNat):Qm.hunkOf k o n (A ++ o ++ B)=A ++ n ++ B:=by
 unfold Qm.hunkOf
 rw [← e,List.append_assoc A o B,List.take_left,← List.append_assoc A o B,← List.length_append,List.drop_left]
theorem relines_iff {p:Pv} {o n:List ByteArray} {f:Pf} {d:ByteArray}:p.relines o n f=(d,0) ↔ f.ty=1∧Qm.splitErr f.data=0∧∃ A B,Qm.linesOf f.data=A ++ o ++ B∧A.length=p.at_.toNat∧Qm.joinErr (A ++ n ++ B)=0∧d=Qm.joinOf (A ++ n ++ B):=by
 unfold Pv.relines
 by_cases h1:f.ty=1
 ·rw [if_neg (by simpa using h1)]
  by_cases h2:Qm.splitErr f.data=0
  ·rw [if_neg (by simpa using h2)]
   by_cases h3:Qm.hunkErr p.at_ o (Qm.linesOf f.data)=0
   ·rw [if_neg (by simpa using h3)]
    obtain ⟨A,B,e1,e2⟩:=(hunk_iff (n:=n)).1 h3
    rw [e1,hunk_of e2]
    by_cases h4:Qm.joinErr (A ++ n ++ B)=0
    ·rw [if_neg (by simpa using h4)]
     constructor
     ·intro h
      obtain rfl:=congrArg Prod.fst h
      exact ⟨h1,h2,A,B,rfl,e2,h4,rfl⟩
     ·rintro ⟨_,_,A',B',e3,e4,_,rfl⟩
      rw [List.append_assoc,List.append_assoc] at e3
      obtain ⟨k1,k2⟩:=List.append_inj e3 (by rw [e2,e4])
      have k3:=List.append_cancel_left k2
      rw [k1,k3]
    ·rw [if_pos h4]
     refine ⟨fun h=>(by cases h),?_⟩
     rintro ⟨_,_,A',B',e3,e4,e5,_⟩
     rw [List.append_assoc,List.append_assoc] at e3
     obtain ⟨k1,k2⟩:=List.append_inj e3 (by rw [e2,e4])
     have k3:=List.append_cancel_left k2
     rw [k1,k3] at h4
     exact (h4 e5).elim
   ·rw [if_pos h3]
    refine ⟨fun h=>(h3 (congrArg Prod.snd h)).elim,?_⟩
    rintro ⟨_,_,A,B,e1,e2,_⟩
    exact (h3 ((hunk_iff (n:=n)).2 ⟨A,B,e1,e2⟩)).elim
  ·rw [if_pos h2]
   exact ⟨fun h=>(h2 (congrArg Prod.snd h)).elim,fun h=>(h2 h.2.1).elim⟩
 ·rw [if_pos h1]
  exact ⟨fun h=>(by cases h),fun h=>(h1 h.1).elim⟩
end Txt
end Go.Proofs.YtfmgnaigcibcaaaGreatDoor
namespace Go.Proofs.YtfmgnaigcibcaaaGreatDoor
open Go Pa
theorem content_zero {k:Int} {d:ByteArray}:Qm.content k d=0 ↔ d.size≤65536∧(k=1→Qm.splitErr d=0):=by
 unfold Qm.content
 by_cases h1:65536 < d.size
 ·rw [if_pos h1]
  exact ⟨fun h=>(by cases h),fun h=>absurd h.1 (by omega)⟩
 ·rw [if_neg h1]
  by_cases h2:k=1∧Qm.isText d=false
  ·rw [if_pos h2]
   refine ⟨fun h=>(by cases h),fun h=>?_⟩
   have:=h2.2
   unfold Qm.isText at this
   rw [h.2 h2.1] at this
   cases this
  ·rw [if_neg h2]
   refine ⟨fun _=>⟨by omega,fun k1=>?_⟩,fun _=>rfl⟩
   have:Qm.isText d=true:=by
    cases e:Qm.isText d
    ·exact (h2 ⟨k1,e⟩).elim
    ·rfl
   unfold Qm.isText at this
   simpa using this
namespace Tr
theorem element_zero {f:Pf}:element f=0 ↔ Qm.isPath f.path=true∧(1≤f.ty∧f.ty≤4)∧(0≤f.mode∧f.mode≤511)∧(f.ty=4→f.mode=0∧f.data=⟨#[]⟩)∧Qm.content f.ty f.data=0:=by
 unfold element
 cases h1:Qm.isPath f.path
 ·rw [if_pos rfl]
  exact ⟨fun h=>(by cases h),fun h=>by cases h.1⟩
 rw [if_neg (by simp)]
 by_cases h2:f.ty < 1∨4 < f.ty
 ·rw [if_pos h2]
  exact ⟨fun h=>(by cases h),fun h=>by omega⟩
 rw [if_neg h2]
 by_cases h3:f.mode < 0∨511 < f.mode
 ·rw [if_pos h3]
  exact ⟨fun h=>(by cases h),fun h=>by omega⟩
 rw [if_neg h3]
 by_cases h4:f.ty=4∧(f.mode≠0∨Qm.eqB f.data ⟨#[]⟩=false)
 ·rw [if_pos h4]
  refine ⟨fun h=>(by cases h),fun h=>?_⟩
  obtain ⟨k1,k2⟩:=h.2.2.2.1 h4.1
  rcases h4.2 with k | k
  ·exact (k k1).elim
  ·rw [Qm.eqB_iff.2 k2] at k;cases k
 rw [if_neg h4]
 refine ⟨fun h=>⟨rfl,by omega,by omega,fun k=>⟨?_,?_⟩,h⟩,fun h=>h.2.2.2.2⟩
 ·by_cases k2:f.mode=0
  ·exact k2
  ·exact (h4 ⟨k,.inl k2⟩).elim
 ·cases k2:Qm.eqB f.data ⟨#[]⟩
  ·exact (h4 ⟨k,.inr k2⟩).elim
  ·exact Qm.eqB_iff.1 k2
theorem mem_rest {l:List Pf} {s:ByteArray} {x:Pf}:x∈l.filter (fun x=>!Qm.eqB x.path s) ↔ x∈l∧x.path≠s:=by
 rw [List.mem_filter,Bool.not_eq_true',eqB_ne]
end Tr
structure Qp.Edit (q:Qp):Prop where
 six:q.kind=6→0≤q.at_∧q.at_≤1099511627776∧q.old≠q.new∧(∀ x∈q.old ++ q.new,Txt.Ok x)∧q.old.length≤2000∧q.new.length≤2000
 seven:q.kind=7→0≤q.off∧q.off≤65536∧q.so≠q.sn∧q.so.size≤65536∧q.sn.size≤65536
 eight:q.kind=8→(0≤q.om∧q.om≤511)∧(0≤q.nm∧q.nm≤511)∧q.om≠q.nm
theorem check_edit {q:Qp} (h:q.check=0):q.Edit:=by
 have ha:=(check_parts h).2.2.2
 unfold Pv.actCheck at ha
 refine ⟨fun k=>?_,fun k=>?_,fun k=>?_⟩
 all_goals rw [if_neg (by show ¬ (q.kind=1∨q.kind=3);omega),if_neg (by show ¬ (q.kind=2∨q.kind=4);omega),if_neg (by show ¬ q.kind=5;omega)] at ha
 all_goals unfold Pv.edCheck6 at ha
 ·rw [if_pos (by exact k)] at ha
  unfold Pv.linesCheck at ha
  by_cases h1:(q.pv none 0 none 0).hunk.check=0
  ·rw [if_neg (by simpa using h1)] at ha
   have h1':¬ (q.at_ < 0∨1099511627776 < q.at_):=fun k=>by
    unfold Hv.check at h1
    rw [if_pos (by exact k)] at h1
    cases h1
   by_cases h2:2000 < q.old.length∨2000 < q.new.length
   ·rw [if_pos (by exact h2)] at ha;cases ha
   rw [if_neg (by exact h2)] at ha
   cases h3:(q.old ++ q.new).all Qm.validLine
   ·rw [if_pos h3] at ha;cases ha
   rw [if_neg (by rw [h3];simp)] at ha
   by_cases h4:q.old=q.new
   ·rw [if_pos h4] at ha;cases ha
   exact ⟨by omega,by omega,h4,fun x hx=>Txt.valid_iff.1 (List.all_eq_true.1 h3 x hx),by omega,by omega⟩
  ·rw [if_pos h1] at ha
   exact (h1 ha).elim
 ·rw [if_neg (by show ¬ q.kind=6;omega)] at ha
  unfold Pv.edCheck at ha
  rw [if_pos (by exact k)] at ha
  by_cases h1:q.off < 0∨65536 < q.off
  ·rw [if_pos (by exact h1)] at ha;cases ha
  rw [if_neg (by exact h1)] at ha
  by_cases h2:65536 < q.so.size∨65536 < q.sn.size
  ·rw [if_pos (by exact h2)] at ha;cases ha
  rw [if_neg (by exact h2)] at ha
  cases h3:Qm.eqB q.so q.sn
  ·exact ⟨by omega,by omega,Tr.eqB_ne.1 h3,by omega,by omega⟩
  ·rw [if_pos (by exact h3)] at ha;cases ha
 ·rw [if_neg (by show ¬ q.kind=6;omega)] at ha
  unfold Pv.edCheck at ha
  rw [if_neg (by show ¬ q.kind=7;omega)] at ha
  by_cases h1:q.om < 0∨511 < q.om∨q.nm < 0∨511 < q.nm
  ·rw [if_pos (by exact h1)] at ha;cases ha
  rw [if_neg (by exact h1)] at ha
  by_cases h2:q.om=q.nm
  ·rw [if_pos (by exact h2)] at ha;cases ha
  exact ⟨by omega,by omega,h2⟩
theorem check_whole {q:Qp} (h:q.check=0) (k:q.kind=1∨q.kind=3):Tr.element (q.pv none 0 none 0).file=0:=by
 have ha:=(check_parts h).2.2.2
 have hp:=(path_ok (check_parts h).2.2.1).1
 have hl:=check_lean h
 unfold Pv.actCheck at ha
 rw [if_pos (by exact k)] at ha
 unfold Pv.addCheck at ha
 rw [Tr.element_zero]
 unfold Pv.file
 by_cases k3:q.kind=3
 ·rw [if_pos (by exact k3)]
  refine ⟨hp,(show (1:Int)≤4∧(4:Int)≤4 by decide),?_,fun _=>⟨hl.nm (by omega) (by omega),hl.sn (by omega) (by omega)⟩,?_⟩
  ·show 0≤q.nm∧q.nm≤511
   rw [hl.nm (by omega) (by omega)]
   decide
  ·show Qm.content 4 q.sn=0
   rw [hl.sn (by omega) (by omega)]
   kernel_rfl
 ·rw [if_neg (by exact k3)] at ha ⊢
  unfold Pv.whole at ha
  by_cases h1:q.ty < 1∨3 < q.ty
  ·rw [if_pos (by exact h1)] at ha;cases ha
  rw [if_neg (by exact h1)] at ha
  by_cases h2:q.nm < 0∨511 < q.nm
  ·rw [if_pos (by exact h2)] at ha;cases ha
  rw [if_neg (by exact h2)] at ha
  exact ⟨hp,(by show 1≤q.ty∧q.ty≤4;omega),(by show 0≤q.nm∧q.nm≤511;omega),fun k4=>absurd (show q.ty=4 from k4) (by omega),ha⟩
namespace Qp
theorem edits_six {q:Qp} (k:q.kind=6) {f g:Pf}:q.edits f=(g,0) ↔ ∃ d,(q.pv none 0 none 0).relines q.old q.new f=(d,0)∧g={ f with data:=d }:=by
 unfold edits
 rw [if_pos k,Prod.mk.injEq]
 exact ⟨fun h=>⟨_,Prod.ext rfl h.2,h.1.symm⟩,fun ⟨d,h1,h2⟩=>⟨by rw [h1,h2],by rw [h1]⟩⟩
theorem edits_seven {q:Qp} (k:q.kind=7) {f g:Pf}:q.edits f=(g,0) ↔ ∃ d,(q.pv none 0 none 0).splice f=(d,0)∧g={ f with data:=d }:=by
 unfold edits
 rw [if_neg (by omega),if_pos k,Prod.mk.injEq]
 exact ⟨fun h=>⟨_,Prod.ext rfl h.2,h.1.symm⟩,fun ⟨d,h1,h2⟩=>⟨by rw [h1,h2],by rw [h1]⟩⟩
theorem edits_eight {q:Qp} (k:q.kind=8) {f g:Pf}:q.edits f=(g,0) ↔ f.ty≠4∧f.mode=q.om∧g={ f with mode:=q.nm }:=by
 unfold edits Pv.chmod
 rw [if_neg (by omega),if_neg (by omega),Prod.mk.injEq]
 by_cases h1:f.ty=4
 ·rw [if_pos h1]
  exact ⟨fun h=>absurd h.2 (by decide),fun h=>(h.1 h1).elim⟩
 rw [if_neg h1]
 by_cases h2:f.mode=q.om
 ·rw [if_neg (by simpa using h2)]
  exact ⟨fun h=>⟨h1,h2,h.1.symm⟩,fun h=>⟨h.2.2.symm,rfl⟩⟩
 ·rw [if_pos (by exact h2)]
  exact ⟨fun h=>absurd h.2 (by decide),fun h=>(h2 h.2.1).elim⟩
theorem edits_path (q:Qp) (f:Pf):(q.edits f).1.path=f.path∧(q.edits f).1.ty=f.ty:=by
 unfold edits Pv.chmod
 repeat' split
 all_goals exact ⟨rfl,rfl⟩
theorem inv_edit {q:Qp} (k:q.kind=6∨q.kind=7∨q.kind=8):q.inv={ q with old:=q.new,new:=q.old,so:=q.sn,sn:=q.so,om:=q.nm,nm:=q.om }:=by
 unfold inv
 rw [if_neg (by omega),if_neg (by omega),if_neg (by omega),if_neg (by omega),if_neg (by omega)]
variable {q:Qp} {f g:Pf}
theorem edits_el (hq:q.check=0) (k:q.kind=6∨q.kind=7∨q.kind=8) (hf:Tr.element f=0) (h:q.edits f=(g,0)):Tr.element g=0:=by
 have he:=check_edit hq
 rw [Tr.element_zero] at hf ⊢
 obtain ⟨h1,h2,h3,h4,h5⟩:=hf
 rcases k with k | k | k
 ·obtain ⟨d,e1,rfl⟩:=(edits_six k).1 h
  obtain ⟨k1,k2,A,B,k3,k4,k5,rfl⟩:=Txt.relines_iff.1 e1
  have k6:=Txt.to_text k5
  exact ⟨h1,h2,h3,fun h=>absurd (k1.symm.trans h) (by decide),content_zero.2 ⟨(Txt.split_zero.1 k6.1).1,fun _=>k6.1⟩⟩
 ·obtain ⟨d,e1,rfl⟩:=(edits_seven k).1 h
  obtain ⟨k1,k2,_⟩:=Txt.splice_iff.1 e1
  exact ⟨h1,h2,h3,fun h=>by rcases k1 with k1 | k1 <;> exact absurd (k1.symm.trans h) (by decide),content_zero.2 ⟨k2,fun h=>by rcases k1 with k1 | k1 <;> exact absurd (k1.symm.trans h) (by decide)⟩⟩
 ·obtain ⟨k1,k2,rfl⟩:=(edits_eight k).1 h
  exact ⟨h1,h2,(he.eight k).2.1,fun h=>(k1 h).elim,h5⟩
theorem edits_inv (k:q.kind=6∨q.kind=7∨q.kind=8) (hf:Tr.element f=0) (h:q.edits f=(g,0)):q.inv.edits g=(f,0):=by
 have hi:=inv_edit k
 rw [Tr.element_zero] at hf
 obtain ⟨h1,h2,h3,h4,h5⟩:=hf
 rcases k with k | k | k
 ·obtain ⟨d,e1,rfl⟩:=(edits_six k).1 h
  obtain ⟨k1,k2,A,B,k3,k4,k5,rfl⟩:=Txt.relines_iff.1 e1
  have k6:=Txt.to_text k5
  have k7:=Txt.of_text k2
  refine (edits_six (by rw [hi];exact k)).2 ⟨f.data,?_,rfl⟩
  rw [hi]
  exact Txt.relines_iff.2 ⟨k1,k6.1,A,B,k6.2,k4,by rw [← k3];exact k7.1,by show f.data=Qm.joinOf (A ++ q.old ++ B);rw [← k3,k7.2]⟩
 ·obtain ⟨d,e1,rfl⟩:=(edits_seven k).1 h
  obtain ⟨k1,k2,A,B,k3,k4,k5⟩:=Txt.splice_iff.1 e1
  refine (edits_seven (by rw [hi];exact k)).2 ⟨f.data,?_,rfl⟩
  rw [hi]
  exact Txt.splice_iff.2 ⟨k1,(content_zero.1 h5).1,A,B,k5,k4,k3⟩
 ·obtain ⟨k1,k2,rfl⟩:=(edits_eight k).1 h
  refine (edits_eight (by rw [hi];exact k)).2 ⟨k1,by rw [hi],?_⟩
  rw [hi]
  show f={ f with mode:=q.om }
  rw [← k2]
theorem edits_ne (hq:q.check=0) (k:q.kind=6∨q.kind=7∨q.kind=8) (h:q.edits f=(g,0)):g≠f:=by
 have he:=check_edit hq
 rcases k with k | k | k
 ·obtain ⟨d,e1,rfl⟩:=(edits_six k).1 h
  obtain ⟨k1,k2,A,B,k3,k4,k5,rfl⟩:=Txt.relines_iff.1 e1
  have k6:=Txt.to_text k5
  intro e
  have e2:Qm.joinOf (A ++ q.new ++ B)=f.data:=congrArg Pf.data e
  rw [e2,k3] at k6
  have e3:=k6.2
  rw [List.append_assoc,List.append_assoc] at e3
  exact (he.six k).2.2.1 (List.append_cancel_right (List.append_cancel_left e3))
 ·obtain ⟨d,e1,rfl⟩:=(edits_seven k).1 h
  obtain ⟨k1,k2,A,B,k3,k4,k5⟩:=Txt.splice_iff.1 e1
  intro e
  have e2:d=f.data:=congrArg Pf.data e
  rw [e2,k3,List.append_assoc,List.append_assoc] at k5
  exact (he.seven k).2.2.1 (L_inj (List.append_cancel_right (List.append_cancel_left k5)))
 ·obtain ⟨k1,k2,rfl⟩:=(edits_eight k).1 h
  intro e
  have e2:q.nm=f.mode:=congrArg Pf.mode e
  exact (he.eight k).2.2 (by rw [e2,k2])
end Qp
namespace Tr
inductive Does (q:Qp) (l r:List Pf):Prop
 | add (k:q.kind=1∨q.kind=3) (h1:room l q.path=0) (h2:l.length < 200) (e:r=putIn (q.pv none 0 none 0).file l)
 | rem (k:q.kind=2∨q.kind=4) (h1:(q.pv none 0 none 0).gone∈l) (h2:∀ x∈l,¬ sw (L x.path) (L q.path)) (e:r=l.filter (fun x=>!Qm.eqB x.path q.path))
 | mov (k:q.kind=5) (h1:Moves l q.path q.to_) (e:r=sort (l.map (shift q.path q.to_)))
 | ed (k:q.kind=6∨q.kind=7∨q.kind=8) (f g:Pf) (h1:f∈l) (h2:f.path=q.path) (h3:q.edits f=(g,0)) (e:r=putIn g l)
theorem apply_err {l:List Pf} {q:Qp} (h:(apply l q).2≠0):(apply l q).1=[]:=by
 unfold apply at h ⊢
 unfold add remove move edit at h ⊢
 repeat' split at h
 all_goals first
  | (exact (h rfl).elim)
  | skip
 all_goals repeat' split
 all_goals first
  | rfl
  | contradiction
  | skip
theorem any_below {l:List Pf} {s:ByteArray}:l.any (fun x=>Qm.below x.path s)=true ↔ ∃ x∈l,sw (L x.path) (L s):=by
 rw [List.any_eq_true]
 exact exists_congr fun x=>and_congr_right fun _=>below_iff
theorem apply_iff {l r:List Pf} {q:Qp}:apply l q=(r,0) ↔ Good l∧q.check=0∧Does q l r:=by
 unfold apply
 by_cases h1:checkTree l=0
 rotate_left
 ·rw [if_pos h1]
  exact ⟨fun h=>(h1 (congrArg Prod.snd h)).elim,fun h=>(h1 (good_iff.2 h.1)).elim⟩
 rw [if_neg (by simpa using h1)]
 have hg:=good_iff.1 h1
 by_cases h2:q.check=0
 rotate_left
 ·rw [if_pos h2]
  exact ⟨fun h=>(h2 (congrArg Prod.snd h)).elim,fun h=>(h2 h.2.1).elim⟩
 rw [if_neg (by simpa using h2)]
 have hk:=(check_parts h2).1
 have key:∀ {P:Prop},(P ↔ Does q l r)→(P ↔ Good l∧q.check=0∧Does q l r):=fun h=>h.trans ⟨fun k=>⟨hg,h2,k⟩,fun k=>k.2.2⟩
 refine key ?_
 by_cases k1:q.kind=1∨q.kind=3
 ·rw [if_pos k1]
  unfold add
  show (if room l q.path≠0 then _ else _)=_ ↔ _
  by_cases h3:room l q.path=0
  ·rw [if_neg (by simpa using h3)]
   by_cases h4:200≤l.length
   ·rw [if_pos h4]
    refine ⟨fun h=>absurd (congrArg Prod.snd h) (show (4:Int)≠0 by decide),fun h=>?_⟩
    cases h <;> omega
   ·rw [if_neg h4]
    refine ⟨fun h=>.add k1 h3 (by omega) (congrArg Prod.fst h).symm,fun h=>?_⟩
    cases h
    ·rename_i e;rw [e]
    all_goals omega
  ·rw [if_pos h3]
   refine ⟨fun h=>(h3 (congrArg Prod.snd h)).elim,fun h=>?_⟩
   cases h
   ·exact (h3 (by assumption)).elim
   all_goals omega
 rw [if_neg k1]
 by_cases k2:q.kind=2∨q.kind=4
 ·rw [if_pos k2]
  unfold remove
  have hgp:(q.pv none 0 none 0).gone.path=q.path:=rfl
  rw [hgp]
  cases hf:find l q.path with
  | none=>
    refine ⟨fun h=>absurd (congrArg Prod.snd h) (show (7:Int)≠0 by decide),fun h=>?_⟩
    cases h
    ·omega
    ·rename_i m _ _;exact (find_none.1 hf _ m rfl).elim
    all_goals omega
  | some g=>
    dsimp only
    obtain ⟨m1,m2⟩:=hg.srt.find.1 hf
    have huniq:(q.pv none 0 none 0).gone∈l→g=(q.pv none 0 none 0).gone:=fun m=>hg.srt.uniq m1 m m2
    by_cases h3:g.ty=(q.pv none 0 none 0).gone.ty
    rotate_left
    ·rw [if_pos h3]
     refine ⟨fun h=>absurd (congrArg Prod.snd h) (show (8:Int)≠0 by decide),fun h=>?_⟩
     cases h
     ·omega
     ·rename_i m _ _;exact (h3 (by rw [huniq m])).elim
     all_goals omega
    rw [if_neg (by simpa using h3)]
    by_cases h4:g.mode≠(q.pv none 0 none 0).gone.mode∨Qm.eqB g.data (q.pv none 0 none 0).gone.data=false
    ·rw [if_pos h4]
     refine ⟨fun h=>absurd (congrArg Prod.snd h) (show (15:Int)≠0 by decide),fun h=>?_⟩
     cases h
     ·omega
     ·rename_i m _ _
      have:=huniq m
      rcases h4 with k | k
      ·exact (k (by rw [this])).elim
      ·exact (eqB_ne.1 k (by rw [this])).elim
     all_goals omega
    rw [if_neg h4]
    rw [not_or,Decidable.not_not,Bool.not_eq_false,Qm.eqB_iff] at h4
    have hgg:g=(q.pv none 0 none 0).gone:=by
     have e1:g.path=(q.pv none 0 none 0).gone.path:=m2
     cases g
     simp only at e1 h3 h4
     rw [e1,h3,h4.1,h4.2]
    by_cases h5:l.any (fun x=>Qm.below x.path q.path)=true
    ·rw [if_pos h5]
     refine ⟨fun h=>absurd (congrArg Prod.snd h) (show (15:Int)≠0 by decide),fun h=>?_⟩
     obtain ⟨x,hx,hb⟩:=any_below.1 h5
     cases h
     ·omega
     ·rename_i m _;exact (m x hx hb).elim
     all_goals omega
    ·rw [if_neg h5]
     refine ⟨fun h=>.rem k2 (by rw [← hgg];exact m1) (fun x hx hb=>h5 (any_below.2 ⟨x,hx,hb⟩)) (congrArg Prod.fst h).symm,fun h=>?_⟩
     cases h
     ·omega
     ·rename_i e;rw [e]
     all_goals omega
 rw [if_neg k2]
 by_cases k5:q.kind=5
 ·rw [if_pos k5]
  obtain ⟨p1,p2⟩:=path_ok (check_parts h2).2.2.1
  obtain ⟨n1,n2⟩:=check_move h2 k5
  constructor
  ·intro h
   obtain ⟨hm,e⟩:=move_moves hg p1 (p2 k5) n2 n1 (by rw [h])
   rw [h] at e
   exact .mov k5 hm e
  ·intro h
   cases h
   ·omega
   ·omega
   ·rename_i hm e;rw [e,hm.move]
   ·omega
 rw [if_neg k5]
 have k6:q.kind=6∨q.kind=7∨q.kind=8:=by omega
 unfold edit
 cases hf:find l q.path with
 | none=>
   refine ⟨fun h=>absurd (congrArg Prod.snd h) (show (7:Int)≠0 by decide),fun h=>?_⟩
   cases h
   ·omega
   ·omega
   ·omega
   ·rename_i m e _ _;exact (find_none.1 hf _ m e).elim
 | some f=>
   dsimp only
   obtain ⟨m1,m2⟩:=hg.srt.find.1 hf
   by_cases h3:(q.edits f).2=0
   ·rw [if_neg (by simpa using h3)]
    refine ⟨fun h=>.ed k6 f _ m1 m2 (Prod.ext rfl h3) (congrArg Prod.fst h).symm,fun h=>?_⟩
    cases h
    ·omega
    ·omega
    ·omega
    ·rename_i f' g' m e he er
     rw [hg.srt.uniq m1 m (m2.trans e.symm),he,er]
   ·rw [if_pos h3]
    refine ⟨fun h=>(h3 (congrArg Prod.snd h)).elim,fun h=>?_⟩
    cases h
    ·omega
    ·omega
    ·omega
    ·rename_i f' g' m e he er
     rw [hg.srt.uniq m1 m (m2.trans e.symm),he] at h3
     exact (h3 rfl).elim
theorem good_put {l:List Pf} {f:Pf} (hg:Good l) (hel:element f=0) (hdir:isDir l (parent f.path)=true) (hlen:(putIn f l).length≤200) (hk:∀ g∈l,g.path=f.path→g.ty=4→f.ty=4):Good (putIn f l):=by
 refine ⟨hlen,fun x hx=>?_,putIn_srt hg.srt f,fun x hx=>?_⟩
 ·rcases (putIn_mem hg.srt).1 hx with rfl | ⟨h,_⟩
  ·exact hel
  ·exact hg.el x h
 ·have h1:isDir l (parent x.path)=true:=by
   rcases (putIn_mem hg.srt).1 hx with rfl | ⟨h,_⟩
   ·exact hdir
   ·exact hg.dirs x h
  rw [isDir_iff] at h1 ⊢
  rcases h1 with h1 | ⟨d,hd,e1,e2⟩
  ·exact .inl h1
  ·right
   by_cases h:d.path=f.path
   ·exact ⟨f,(putIn_mem hg.srt).2 (.inl rfl),hk d hd h e1,h.symm.trans e2⟩
   ·exact ⟨d,(putIn_mem hg.srt).2 (.inr ⟨hd,h⟩),e1,e2⟩
theorem putIn_len {l:List Pf} (h:Srt l) {f g:Pf} (hf:f∈l) (e:g.path=f.path):(putIn g l).length=l.length:=by
 induction l with
 | nil=>cases hf
 | cons x l ih=>
   unfold putIn
   by_cases h1:lt x.path g.path=true
   ·rw [if_pos h1,List.length_cons,List.length_cons]
    congr 1
    rcases List.mem_cons.1 hf with rfl | hf
    ·rw [e,lt_irrefl] at h1;cases h1
    ·exact ih h.tail hf
   ·rw [if_neg h1]
    cases h2:Qm.eqB x.path g.path
    ·exfalso
     rcases List.mem_cons.1 hf with rfl | hf
     ·rw [Qm.eqB_iff.2 e.symm] at h2;cases h2
     ·have:=h.head hf
      rw [← e] at this
      exact h1 this
    ·rw [if_pos rfl];rfl
section
variable {q:Qp} {l r:List Pf}
theorem Does.good (hg:Good l) (hq:q.check=0) (h:Does q l r):Good r:=by
 cases h with
 | add k h1 h2 e=>
   obtain ⟨f1,f2⟩:=(room_zero hg.srt).1 h1
   rw [e]
   exact good_put hg (check_whole hq k) f2 (by rw [putIn_length _ f1];omega) (fun g hg' e _=>(f1 g hg' e).elim)
 | rem k h1 h2 e=>
   rw [e]
   refine ⟨Nat.le_trans (List.length_filter_le _ _) hg.len,fun x hx=>hg.el x (mem_rest.1 hx).1,hg.srt.filter _,fun x hx=>?_⟩
   have hx':=(mem_rest.1 hx).1
   have h3:=hg.dirs x hx'
   rw [isDir_iff] at h3 ⊢
   rcases h3 with h3 | ⟨d,hd,e1,e2⟩
   ·exact .inl h3
   ·refine .inr ⟨d,mem_rest.2 ⟨hd,fun e3=>?_⟩,e1,e2⟩
    rcases parent_cases x.path with ⟨_,k1⟩ | ⟨name,_,k1⟩
    ·exact isPath_ne (element_path (hg.el d hd)) (e2.trans k1)
    ·exact h2 x hx' ⟨47 :: name,by simp,.inr ⟨name,rfl⟩,by rw [← e3,e2];exact k1⟩
 | mov k h1 e=>rw [e];exact h1.good'
 | ed k f g h1 h2 h3 e=>
   have hp:=q.edits_path f
   rw [h3] at hp
   rw [e]
   refine good_put hg (Qp.edits_el hq k (hg.el f h1) h3) (by rw [hp.1];exact hg.dirs f h1) (by rw [putIn_len hg.srt h1 hp.1];exact hg.len) (fun x hx e1 e2=>?_)
   rw [hp.2,← hg.srt.uniq hx h1 (e1.trans hp.1)]
   exact e2
theorem Does.ne (hg:Good l) (hq:q.check=0) (h:Does q l r):r≠l:=by
 cases h with
 | add k h1 h2 e=>
   obtain ⟨f1,f2⟩:=(room_zero hg.srt).1 h1
   intro e2
   have:(q.pv none 0 none 0).file∈l:=by rw [← e2,e];exact (putIn_mem hg.srt).2 (.inl rfl)
   exact f1 _ this rfl
 | rem k h1 h2 e=>
   intro e2
   rw [← e2,e] at h1
   exact (mem_rest.1 h1).2 rfl
 | mov k h1 e=>
   intro e2
   obtain ⟨d,hd,e3⟩:=h1.is
   have h2:d∈sort (l.map (shift q.path q.to_)):=by rw [← e,e2];exact hd
   exact h1.back.free d h2 e3
 | ed k f g h1 h2 h3 e=>
   have hp:=q.edits_path f
   rw [h3] at hp
   intro e2
   have:g∈l:=by rw [← e2,e];exact (putIn_mem hg.srt).2 (.inl rfl)
   exact Qp.edits_ne hq k h3 (hg.srt.uniq this h1 hp.1)
theorem gone_inv {q:Qp} (hq:q.check=0) (k:q.kind=1∨q.kind=3):(q.inv.kind=2∨q.inv.kind=4)∧(q.inv.pv none 0 none 0).gone=(q.pv none 0 none 0).file∧q.inv.path=q.path:=by
 have hl:=check_lean hq
 unfold Qp.inv Pv.gone Pv.file
 rcases k with k | k
 ·rw [if_pos k,if_neg (show ¬ (2:Int)=4 by decide),if_neg (by show ¬ q.kind=3;omega)]
  exact ⟨.inl rfl,rfl,rfl⟩
 ·rw [if_neg (by omega),if_pos k,if_pos rfl,if_pos (by exact k)]
  refine ⟨.inr rfl,?_,rfl⟩
  show (⟨q.path,4,0,⟨#[]⟩⟩:Pf)=⟨q.path,4,q.nm,q.sn⟩
  rw [hl.nm (by omega) (by omega),hl.sn (by omega) (by omega)]
theorem file_inv {q:Qp} (hq:q.check=0) (k:q.kind=2∨q.kind=4):(q.inv.kind=1∨q.inv.kind=3)∧(q.inv.pv none 0 none 0).file=(q.pv none 0 none 0).gone∧q.inv.path=q.path:=by
 have hl:=check_lean hq
 unfold Qp.inv Pv.gone Pv.file
 rcases k with k | k
 ·rw [if_neg (by omega),if_neg (by omega),if_pos k,if_neg (show ¬ (1:Int)=3 by decide),if_neg (by show ¬ q.kind=4;omega)]
  exact ⟨.inl rfl,rfl,rfl⟩
 ·rw [if_neg (by omega),if_neg (by omega),if_neg (by omega),if_pos k,if_pos rfl,if_pos (by exact k)]
  refine ⟨.inr rfl,?_,rfl⟩
  show (⟨q.path,4,0,⟨#[]⟩⟩:Pf)=⟨q.path,4,q.om,q.so⟩
  rw [hl.om (by omega) (by omega),hl.so (by omega) (by omega)]
theorem not_below_self {f:Pf}:¬ sw (L f.path) (L f.path):=fun ⟨e,h0,_,h⟩=>h0 (by
 have:=congrArg List.length h
 rw [List.length_append] at this
 exact List.length_eq_zero_iff.1 (by omega))
theorem Does.back (hg:Good l) (hq:q.check=0) (h:Does q l r):Does q.inv r l:=by
 have hgr:=h.good hg hq
 cases h with
 | add k h1 h2 e=>
   obtain ⟨f1,f2⟩:=(room_zero hg.srt).1 h1
   obtain ⟨i1,i2,i3⟩:=gone_inv hq k
   have hm:∀ x,x∈r ↔ x=(q.pv none 0 none 0).file∨(x∈l∧x.path≠q.path):=fun x=>by rw [e,putIn_mem hg.srt];exact Iff.rfl
   have hne:q.path≠⟨#[]⟩:=isPath_ne (path_ok (check_parts hq).2.2.1).1
   refine .rem i1 (by rw [i2];exact (hm _).2 (.inl rfl)) (fun x hx hb=>?_) ?_
   ·rw [i3] at hb
    rcases (hm x).1 hx with rfl | ⟨hx',_⟩
    ·exact not_below_self (f:=(q.pv none 0 none 0).file) hb
    ·obtain ⟨d,hd,_,e2⟩:=hg.dir_above hx' hne hb
     exact f1 d hd e2
   ·refine hg.srt.ext (hgr.srt.filter _) fun x=>?_
    rw [i3,mem_rest,hm]
    constructor
    ·intro hx
     exact ⟨.inr ⟨hx,f1 x hx⟩,f1 x hx⟩
    ·rintro ⟨rfl | hx,hn⟩
     ·exact (hn rfl).elim
     ·exact hx.1
 | rem k h1 h2 e=>
   obtain ⟨i1,i2,i3⟩:=file_inv hq k
   have hm:∀ x,x∈r ↔ x∈l∧x.path≠q.path:=fun x=>by rw [e,mem_rest]
   have hd:=hg.dirs _ h1
   refine .add i1 ((room_zero hgr.srt).2 ⟨fun x hx=>?_,?_⟩) ?_ ?_
   ·rw [i3];exact ((hm x).1 hx).2
   ·rw [i3]
    rw [isDir_iff] at hd ⊢
    rcases hd with hd | ⟨d,hd,e1,e2⟩
    ·exact .inl hd
    ·refine .inr ⟨d,(hm d).2 ⟨hd,fun e3=>?_⟩,e1,e2⟩
     have e4:parent q.path=q.path:=e2.symm.trans e3
     have:=parent_lt (isPath_ne (path_ok (check_parts hq).2.2.1).1)
     rw [e4,lt_irrefl] at this
     cases this
   ·have h3:=hg.len
    have h4:r.length < l.length:=by
     rw [e]
     exact List.length_filter_lt_length_iff_exists.2 ⟨_,h1,by simp [Qm.eqB_iff.2 (show (q.pv none 0 none 0).gone.path=q.path from rfl)]⟩
    omega
   ·refine hg.srt.ext (putIn_srt hgr.srt _) fun x=>?_
    rw [putIn_mem hgr.srt,i2,hm]
    constructor
    ·intro hx
     by_cases hp:x.path=q.path
     ·exact .inl (hg.srt.uniq hx h1 hp)
     ·exact .inr ⟨⟨hx,hp⟩,hp⟩
    ·rintro (rfl | hx)
     ·exact h1
     ·exact hx.1.1
 | mov k h1 e=>
   have hi:q.inv.kind=5:=inv_kind5.2 k
   obtain ⟨i1,i2⟩:=inv_paths k
   refine .mov hi ?_ ?_
   ·rw [i1,i2,e];exact h1.back
   ·rw [i1,i2,e,h1.again]
 | ed k f g h1 h2 h3 e=>
   have hp:=q.edits_path f
   rw [h3] at hp
   have hi:=Qp.inv_edit k
   have hm:∀ x,x∈r ↔ x=g∨(x∈l∧x.path≠g.path):=fun x=>by rw [e,putIn_mem hg.srt]
   refine .ed (by rw [hi];exact k) g f ((hm g).2 (.inl rfl)) (by rw [hi];exact hp.1.trans h2) (Qp.edits_inv k (hg.el f h1) h3) ?_
   refine hg.srt.ext (putIn_srt hgr.srt _) fun x=>?_
   rw [putIn_mem hgr.srt,hm,hp.1]
   constructor
   ·intro hx
    by_cases hpx:x.path=f.path
    ·exact .inl (hg.srt.uniq hx h1 hpx)
    ·exact .inr ⟨.inr ⟨hx,hpx⟩,hpx⟩
   ·rintro (rfl | ⟨rfl | hx,hn⟩)
    ·exact h1
    ·exact (hn hp.1).elim
    ·exact hx.1
theorem Does.still (hg:Good l) (hq:q.check=0) (h:Does q l r) {f:Pf} (hf:f∈l) (n1:¬ wi (L f.path) (L q.path)) (n2:q.kind=5→¬ wi (L f.path) (L q.to_)):f∈r:=by
 have hne:f.path≠q.path:=fun e=>n1 (by rw [e];exact wi.refl _)
 cases h with
 | add k h1 h2 e=>
   rw [e,putIn_mem hg.srt]
   exact .inr ⟨hf,hne⟩
 | rem k h1 h2 e=>
   rw [e,mem_rest]
   exact ⟨hf,hne⟩
 | mov k h1 e=>rw [e];exact h1.still hf n1
 | ed k x g h1 h2 h3 e=>
   have hp:=q.edits_path x
   rw [h3] at hp
   rw [e,putIn_mem hg.srt]
   exact .inr ⟨hf,by rw [hp.1,h2];exact hne⟩
end
end Tr
end Go.Proofs.YtfmgnaigcibcaaaGreatDoor
