import Derived.Test.YtfmgnaigcibcaaaGreatDoorTBase
import Derived.Deep.MidRow
import Derived.Test.YtfmgnaigcibcaaaGreatDoorTModel
import Derived.Test.YtfmgnaigcibcaaaGreatDoorTQ5
import Derived.Lib.Bytealg
import Derived.Lib.SplitLaws
set_option linter.unusedSimpArgs false
set_option linter.unusedVariables false
namespace Go.Proofs.YtfmgnaigcibcaaaGreatDoor
open Go Go.RowKit
structure Pf where
 path:ByteArray
 ty:Int
 mode:Int
 data:ByteArray
abbrev Pf.arr (f:Pf):Array Value:=#[.string f.path,.int .i64 f.ty,.int .i64 f.mode,.string f.data]
abbrev Pf.v (f:Pf):Value:=.agg f.arr
def Pf.zero:Pf:=⟨⟨#[]⟩,0,0,⟨#[]⟩⟩
instance:Inhabited Pf:=⟨Pf.zero⟩
namespace Tr
def lt (s t:ByteArray):Bool:=Op.bytesLess s.toList t.toList
def parent (s:ByteArray):ByteArray:=s.extract 0 (Lib.lastIndexByte s 47).toNat
def element (f:Pf):Int:=
 if Qm.isPath f.path=false then 5
 else if f.ty < 1∨4 < f.ty then 8
 else if f.mode < 0∨511 < f.mode then 2
 else if f.ty=4∧(f.mode≠0∨Qm.eqB f.data ⟨#[]⟩=false) then 1
 else Qm.content f.ty f.data
def find (t:List Pf) (s:ByteArray):Option Pf:=t.find? fun f=>Qm.eqB f.path s
def isDir (t:List Pf) (s:ByteArray):Bool:=Qm.eqB s ⟨#[]⟩ || t.any fun f=>f.ty == 4 && Qm.eqB f.path s
def wrong (l:List Pf) (f:Pf):Bool:=match l.getLast? with
 | some g=>lt f.path g.path || Qm.eqB f.path g.path
 | none=>false
def checkFrom (pre:List Pf):List Pf→Int
 | []=>0
 | f :: r=>if element f≠0 then element f else if wrong pre f=true then 9 else if isDir pre (parent f.path)=false then 7 else checkFrom (pre ++ [f]) r
def checkTree (t:List Pf):Int:=if 200 < t.length then 4 else checkFrom [] t
def room (t:List Pf) (s:ByteArray):Int:=
 if (find t s).isSome then 6
 else if Qm.eqB (parent s) ⟨#[]⟩ then 0
 else match find t (parent s) with
  | none=>7
  | some f=>if f.ty=4 then 0 else 8
def shift (path to_:ByteArray) (f:Pf):Pf:=if Qm.eqB f.path path || Qm.below f.path path then { f with path:=to_ ++ f.path.extract path.size f.path.size } else f
def putIn (f:Pf):List Pf→List Pf
 | []=>[f]
 | g :: r=>if lt g.path f.path then g :: putIn f r else if Qm.eqB g.path f.path then f :: r else f :: g :: r
def sort (l:List Pf):List Pf:=l.foldl (fun a f=>putIn f a) []
def move (t:List Pf) (path to_:ByteArray):List Pf × Int:=
 if (find t path).isNone then ([],7)
 else if room t to_≠0 then ([],room t to_)
 else if (t.map (shift path to_)).any (fun f=>decide (200 < f.path.size)) then ([],5)
 else (sort (t.map (shift path to_)),0)
theorem find_none_iff {t:List Pf} {s:ByteArray}:find t s=none ↔ ∀ f∈t,Qm.eqB f.path s=false:=by
 unfold find
 rw [List.find?_eq_none]
 constructor
 ·intro h f hf
  have:=h f hf
  simpa using this
 ·intro h f hf
  simp [h f hf]
theorem find_at {t:List Pf} {s:ByteArray} {k:Nat} {f:Pf} (hk:t[k]?=some f) (hn:∀ j g,j < k→t[j]?=some g→Qm.eqB g.path s=false) (h:Qm.eqB f.path s=true):find t s=some f:=by
 unfold find
 induction t generalizing k with
 | nil=>simp at hk
 | cons x t ih=>
   cases k with
   | zero=>
     simp at hk
     subst hk
     simp [List.find?_cons,h]
   | succ k=>
     have hx:=hn 0 x (by omega) rfl
     simp only [List.find?_cons,hx]
     exact ih (by simpa using hk) (fun j g hj hg=>hn (j+1) g (by omega) (by simpa using hg))
theorem compare_lt:∀ a b:List UInt8,(Lib.compareBytes a b < 0) ↔ Op.bytesLess a b=true
 | [],[]=>by simp [Lib.compareBytes,Op.bytesLess]
 | [],_ :: _=>by simp [Lib.compareBytes,Op.bytesLess]
 | _ :: _,[]=>by simp [Lib.compareBytes,Op.bytesLess]
 | a :: r,b :: q=>by
   unfold Lib.compareBytes Op.bytesLess
   by_cases h:a < b
   ·simp [h]
   ·by_cases h2:b < a
    ·have h3:¬ a=b:=fun e=>by subst e;exact h h2
     simp [h,h2,h3]
    ·have h3:a=b:=by
      have:=UInt8.le_antisymm (UInt8.not_lt.1 h2) (UInt8.not_lt.1 h)
      exact this
     subst h3
     simp [h,compare_lt r q]
theorem compare_paths (s t:ByteArray):(Lib.compareBytes s.data.toList t.data.toList < 0) ↔ lt s t=true:=by
 unfold lt
 rw [ByteArray.toList_eq,ByteArray.toList_eq]
 exact compare_lt _ _
end Tr
def fl:List Pf→List Value
 | []=>[]
 | f :: r=>f.arr.toList ++ fl r
theorem fl_append (a b:List Pf):fl (a ++ b)=fl a ++ fl b:=by
 induction a with
 | nil=>rfl
 | cons f a ih=>rw [List.cons_append,fl,fl,ih,List.append_assoc]
theorem fl_length (l:List Pf):(fl l).length=l.length * 4:=by
 induction l with
 | nil=>rfl
 | cons f l ih=>
   rw [fl,List.length_append,ih,List.length_cons]
   simp
   omega
theorem fl_get {l:List Pf} {i:Nat} {f:Pf} (h:l[i]?=some f) {j:Nat} (hj:j < 4):(fl l)[i * 4+j]?=f.arr.toList[j]?:=by
 induction l generalizing i with
 | nil=>simp at h
 | cons g l ih=>
   cases i with
   | zero=>
     simp at h
     subst h
     rw [fl,List.getElem?_append_left (by simp;omega)]
     simp
   | succ i=>
     rw [fl,List.getElem?_append_right (by simp;omega)]
     have:=ih (i:=i) (by simpa using h)
     rw [← this]
     congr 1
     simp
     omega
def Trs (w:World) (A:Option Addr) (l:List Pf):Prop:=0 < l.length→∃ b o,A=some ⟨b,o,none⟩∧b < w.heap.size∧w.rangeAt b o (fl l)
theorem Trs.ext {w w':World} {A:Option Addr} {l:List Pf} (h:Trs w A l) (hx:Ext w w'):Trs w' A l:=fun h0=>by
 obtain ⟨b,o,hA,hb,hr⟩:=h h0
 exact ⟨b,o,hA,Nat.lt_of_lt_of_le hb hx.size_le,fun j v hv=>by rw [hx.cell (p:=⟨b,_,none⟩) hb];exact hr j v hv⟩
theorem Trs.nil (w:World) (A:Option Addr):Trs w A []:=fun h=>absurd h (Nat.lt_irrefl 0)
theorem Trs.get {w:World} {A:Option Addr} {l:List Pf} (h:Trs w A l) {i:Nat} {f:Pf} (hi:l[i]?=some f):
 ∃ b o,A=some ⟨b,o,none⟩∧b < w.heap.size∧w.cell? ⟨b,o+i * 4,none⟩=some (.string f.path)∧w.cell? ⟨b,o+i * 4+1,none⟩=some (.int .i64 f.ty)∧w.cell? ⟨b,o+i * 4+2,none⟩=some (.int .i64 f.mode)∧w.cell? ⟨b,o+i * 4+3,none⟩=some (.string f.data):=by
 have hl:=(List.getElem?_eq_some_iff.1 hi).1
 obtain ⟨b,o,hA,hb,hr⟩:=h (by omega)
 refine ⟨b,o,hA,hb,?_,?_,?_,?_⟩
 ·exact hr (i * 4) _ (by have :=fl_get hi (j:=0) (by omega);simpa using this)
 ·have:=hr (i * 4+1) _ (by have :=fl_get hi (j:=1) (by omega);simpa using this)
  rwa [← Nat.add_assoc] at this
 ·have:=hr (i * 4+2) _ (by have :=fl_get hi (j:=2) (by omega);simpa using this)
  rwa [← Nat.add_assoc] at this
 ·have:=hr (i * 4+3) _ (by have :=fl_get hi (j:=3) (by omega);simpa using this)
  rwa [← Nat.add_assoc] at this
end Go.Proofs.YtfmgnaigcibcaaaGreatDoor
namespace Go.Proofs.YtfmgnaigcibcaaaGreatDoor
namespace Pa
def Tl (e:List UInt8):Prop:=e=[]∨∃ t,e=47 :: t
theorem Tl.nil:Tl []:=.inl rfl
theorem Tl.app {e f:List UInt8} (h:Tl e) (k:Tl f):Tl (e ++ f):=by
 rcases h with rfl | ⟨t,rfl⟩
 ·exact k
 ·exact .inr ⟨t ++ f,rfl⟩
def wi (s p:List UInt8):Prop:=∃ e,Tl e∧s=p ++ e
def sw (s p:List UInt8):Prop:=∃ e,e≠[]∧Tl e∧s=p ++ e
theorem wi.refl (s:List UInt8):wi s s:=⟨[],.nil,by simp⟩
theorem wi.mk {p e:List UInt8} (h:Tl e):wi (p ++ e) p:=⟨e,h,rfl⟩
theorem wi.trans {r s p:List UInt8} (h:wi r s) (k:wi s p):wi r p:=by
 obtain ⟨e,he,rfl⟩:=h
 obtain ⟨f,hf,rfl⟩:=k
 exact ⟨f ++ e,hf.app he,by simp⟩
theorem wi.eq_or {s p:List UInt8} (h:wi s p):s=p∨sw s p:=by
 obtain ⟨e,he,rfl⟩:=h
 by_cases h0:e=[]
 ·left;simp [h0]
 ·exact .inr ⟨e,h0,he,rfl⟩
theorem sw.wi {s p:List UInt8} (h:sw s p):wi s p:=⟨h.choose,h.choose_spec.2.1,h.choose_spec.2.2⟩
theorem Tl.split {e f g:List UInt8} (h:Tl (e ++ f)) (h0:e≠[]):Tl e:=by
 cases e with
 | nil=>exact (h0 rfl).elim
 | cons x e=>
   rcases h with h | ⟨t,h⟩
   ·cases h
   ·simp only [List.cons_append,List.cons.injEq] at h
    exact .inr ⟨e,by rw [h.1]⟩
theorem wi.chain {r a b:List UInt8} (h:wi r a) (k:wi r b):wi a b∨wi b a:=by
 obtain ⟨e,he,rfl⟩:=h
 obtain ⟨f,hf,hk⟩:=k
 rcases List.append_eq_append_iff.1 hk with ⟨c,h1,h2⟩ | ⟨c,h1,h2⟩
 ·right
  by_cases h0:c=[]
  ·subst h0;rw [h1];simpa using wi.refl a
  ·refine ⟨c,?_,h1⟩
   rw [h2] at he
   exact Tl.split (g:=[]) he h0
 ·left
  by_cases h0:c=[]
  ·subst h0;rw [h1];simpa using wi.refl b
  ·refine ⟨c,?_,h1⟩
   rw [h2] at hf
   exact Tl.split (g:=[]) hf h0
def Mv (s t u v:List UInt8):Prop:=(∃ e,Tl e∧u=s ++ e∧v=t ++ e)∨(¬ wi u s∧¬ wi u t∧v=u)
def Nv (s t u v:List UInt8):Prop:=(∃ e,e≠[]∧Tl e∧u=s ++ e∧v=t ++ e)∨(¬ sw u s∧¬ sw u t∧v=u)
theorem Mv.symm {s t u v:List UInt8} (h:Mv s t u v):Mv t s v u:=by
 rcases h with ⟨e,he,rfl,rfl⟩ | ⟨h1,h2,rfl⟩
 ·exact .inl ⟨e,he,rfl,rfl⟩
 ·exact .inr ⟨h2,h1,rfl⟩
theorem Nv.symm {s t u v:List UInt8} (h:Nv s t u v):Nv t s v u:=by
 rcases h with ⟨e,h0,he,rfl,rfl⟩ | ⟨h1,h2,rfl⟩
 ·exact .inl ⟨e,h0,he,rfl,rfl⟩
 ·exact .inr ⟨h2,h1,rfl⟩
theorem Mv.uniq {s t u v v':List UInt8} (h:Mv s t u v) (k:Mv s t u v'):v=v':=by
 rcases h with ⟨e,he,rfl,rfl⟩ | ⟨h1,h2,rfl⟩ <;> rcases k with ⟨f,hf,h,rfl⟩ | ⟨k1,k2,rfl⟩
 ·rw [List.append_cancel_left h]
 ·exact (k1 (wi.mk he)).elim
 ·exact (h1 ⟨f,hf,h⟩).elim
 ·rfl
theorem Nv.uniq {s t u v v':List UInt8} (h:Nv s t u v) (k:Nv s t u v'):v=v':=by
 rcases h with ⟨e,h0,he,rfl,rfl⟩ | ⟨h1,h2,rfl⟩ <;> rcases k with ⟨f,f0,hf,h,rfl⟩ | ⟨k1,k2,rfl⟩
 ·rw [List.append_cancel_left h]
 ·exact (k1 ⟨e,h0,he,rfl⟩).elim
 ·exact (h1 ⟨f,f0,hf,h⟩).elim
 ·rfl
structure Square (s1 t1 s2 t2 s2' t2' s1' t1':List UInt8):Prop where
 v1:¬ wi t1 s1
 v2:¬ wi s2 t2
 v3:¬ wi t2 s2
 v4:¬ wi t2' s2'
 x1:t1≠s2
 x2:t2'≠s1
 x3:t1≠t2
 e1:Mv t1 s1 s2 s2'
 e2:Nv t1 s1 t2 t2'
 e3:Mv s2' t2' s1 s1'
 e4:Nv s2' t2' t1 t1'
section
variable {s1 t1 s2 t2 s2' t2' s1' t1' u r z:List UInt8}
theorem app_ne {s f:List UInt8} (h:f≠[]):¬ wi s (s ++ f):=by
 rintro ⟨e,_,h1⟩
 have:=congrArg List.length h1
 simp only [List.length_append] at this
 have:f.length=0:=by omega
 exact h (List.length_eq_zero_iff.1 this)
theorem square (H:Square s1 t1 s2 t2 s2' t2' s1' t1') (h1:Mv s1 t1 u r) (h2:Mv s2 t2 r z):∃ r',Mv s2' t2' u r'∧Mv s1' t1' r' z:=by
 obtain ⟨v1,v2,v3,v4,x1,x2,x3,e1,e2,e3,e4⟩:=H
 have n2:t2'=t2→¬ sw t2 s1→¬ wi t2 s1:=fun h k w=>by
  rcases w.eq_or with w | w
  ·exact x2 (h.trans w)
  ·exact k w
 have n1:¬ sw t2 t1→¬ wi t2 t1:=fun k w=>by
  rcases w.eq_or with w | w
  ·exact x3 w.symm
  ·exact k w
 rcases e1 with ⟨f,hf,rfl,rfl⟩ | ⟨b1,b2,rfl⟩
 ·
  have f0:f≠[]:=fun h=>x1 (by simp [h])
  have d3:s1'=s1∧¬ wi s1 t2':=by
   rcases e3 with ⟨f',hf',h,_⟩ | ⟨_,k2,k3⟩
   ·exact (app_ne (s:=s1) (f:=f) f0 ⟨f',hf',h⟩).elim
   ·exact ⟨k3,k2⟩
  have d4:t1'=t1:=by
   rcases e4 with ⟨h',_,ht,h,_⟩ | ⟨_,_,k3⟩
   ·exact (v1 ⟨f ++ h',hf.app ht,by rw [h];simp⟩).elim
   ·exact k3
  obtain ⟨rfl,d3⟩:=d3
  subst d4
  rcases h1 with ⟨e,he,rfl,rfl⟩ | ⟨g1,g2,rfl⟩
  ·by_cases hw:wi (t1' ++ e) (t1' ++ f)
   ·obtain ⟨g,hg,hx⟩:=hw
    obtain rfl:e=f ++ g:=by simpa [List.append_assoc] using hx
    have hz:z=t2 ++ g:=by
     rcases h2 with ⟨g',_,h,rfl⟩ | ⟨k,_,_⟩
     ·have:g=g':=by simpa [List.append_assoc] using h
      rw [this]
     ·exact (k ⟨g,hg,by simp⟩).elim
    subst hz
    refine ⟨t2' ++ g,.inl ⟨g,hg,by simp,rfl⟩,?_⟩
    rcases e2 with ⟨h,h0,hh,rfl,rfl⟩ | ⟨k1,k2,rfl⟩
    ·exact .inl ⟨h ++ g,hh.app hg,by simp,by simp⟩
    ·refine .inr ⟨fun w=>?_,fun w=>?_,rfl⟩
     ·rcases w.chain (wi.mk hg) with w | w
      ·exact d3 w
      ·exact n2 rfl k2 w
     ·rcases w.chain (wi.mk hg) with w | w
      ·exact v2 ((wi.mk hf).trans w)
      ·exact n1 k1 w
   ·have hz:z=t1' ++ e∧¬ wi (t1' ++ e) t2:=by
     rcases h2 with ⟨g',hg,h,rfl⟩ | ⟨_,k,h⟩
     ·exact (hw ⟨g',hg,h⟩).elim
     ·exact ⟨h,k⟩
    obtain ⟨rfl,hz⟩:=hz
    refine ⟨s1' ++ e,.inr ⟨fun w=>?_,fun w=>?_,rfl⟩,.inl ⟨e,he,rfl,rfl⟩⟩
    ·obtain ⟨g,hg,hx⟩:=w
     exact hw ⟨g,hg,by simpa [List.append_assoc] using hx⟩
    ·rcases e2 with ⟨h,h0,hh,rfl,rfl⟩ | ⟨k1,k2,rfl⟩
     ·obtain ⟨g,hg,hx⟩:=w
      exact hz ⟨g,hg,by simpa [List.append_assoc] using hx⟩
     ·rcases w.chain (wi.mk he) with w | w
      ·exact n2 rfl k2 w
      ·exact d3 w
  ·have hz:z=r∧¬ wi r t2:=by
    rcases h2 with ⟨g',hg,h,rfl⟩ | ⟨_,k,h⟩
    ·exact (g2 ⟨f ++ g',hf.app hg,by rw [h];simp⟩).elim
    ·exact ⟨h,k⟩
   obtain ⟨rfl,hz⟩:=hz
   refine ⟨z,.inr ⟨fun w=>g1 (w.trans (wi.mk hf)),fun w=>?_,rfl⟩,.inr ⟨g1,g2,rfl⟩⟩
   rcases e2 with ⟨h,h0,hh,rfl,rfl⟩ | ⟨k1,k2,rfl⟩
   ·exact g1 (w.trans (wi.mk hh))
   ·exact hz w
 ·
  rcases e2 with ⟨h,h0,hh,rfl,rfl⟩ | ⟨k1,k2,rfl⟩
  ·
   have d3:s1'=s1∧¬ wi s1 s2':=by
    rcases e3 with ⟨f',hf',hs,_⟩ | ⟨k1,k2,k3⟩
    ·exact (v4 ⟨f' ++ h,hf'.app hh,by rw [hs];simp⟩).elim
    ·exact ⟨k3,k1⟩
   have d4:t1'=t1:=by
    rcases e4 with ⟨h',_,ht,hs,_⟩ | ⟨_,_,k3⟩
    ·exact (v3 ⟨h' ++ h,ht.app hh,by rw [hs];simp⟩).elim
    ·exact k3
   obtain ⟨rfl,d3⟩:=d3
   subst d4
   rcases h1 with ⟨e,he,rfl,rfl⟩ | ⟨g1,g2,rfl⟩
   ·have hq:¬ wi (s1' ++ e) s2':=fun w=>by
     rcases w.chain (wi.mk he) with w | w
     ·exact b2 w
     ·exact d3 w
    have hz:z=t1' ++ e∧¬ wi (t1' ++ e) (t1' ++ h):=by
     rcases h2 with ⟨g',hg,hs,rfl⟩ | ⟨_,k,hs⟩
     ·rcases (wi.mk (p:=t1') he).chain ⟨g',hg,hs⟩ with w | w
      ·exact (v3 ((wi.mk hh).trans w)).elim
      ·exact (b1 w).elim
     ·exact ⟨hs,k⟩
    obtain ⟨rfl,hz⟩:=hz
    refine ⟨s1' ++ e,.inr ⟨hq,fun w=>?_,rfl⟩,.inl ⟨e,he,rfl,rfl⟩⟩
    obtain ⟨g,hg,hx⟩:=w
    exact hz ⟨g,hg,by simpa [List.append_assoc] using hx⟩
   ·rcases h2 with ⟨g,hg,rfl,rfl⟩ | ⟨k1,k2,rfl⟩
    ·exact ⟨(s1' ++ h) ++ g,.inl ⟨g,hg,rfl,rfl⟩,.inl ⟨h ++ g,hh.app hg,by simp,by simp⟩⟩
    ·exact ⟨z,.inr ⟨k1,fun w=>g1 (w.trans (wi.mk hh)),rfl⟩,.inr ⟨g1,g2,rfl⟩⟩
  ·
   have m2:¬ wi t2' s1:=n2 rfl k2
   have m1:¬ wi t2' t1:=n1 k1
   have y1:¬ sw t1 s2'→¬ wi t1 s2':=fun k w=>by
    rcases w.eq_or with w | w
    ·exact x1 w
    ·exact k w
   rcases h1 with ⟨e,he,rfl,rfl⟩ | ⟨g1,g2,rfl⟩
   ·have hz:z=t1' ++ e:=by
     rcases e4 with ⟨h',_,ht,rfl,rfl⟩ | ⟨k3,_,rfl⟩
     ·exact Mv.uniq h2 (.inl ⟨h' ++ e,ht.app he,by simp,by simp⟩)
     ·have hn:¬ wi (t1' ++ e) s2':=fun w=>by
       rcases w.chain (wi.mk he) with w | w
       ·exact b1 w
       ·exact y1 k3 w
      rcases h2 with ⟨g,hg,h,_⟩ | ⟨_,_,h⟩
      ·exact (hn ⟨g,hg,h⟩).elim
      ·exact h
    subst hz
    rcases e3 with ⟨f',hf',rfl,rfl⟩ | ⟨k3,k4,rfl⟩
    ·exact ⟨t2' ++ f' ++ e,.inl ⟨f' ++ e,hf'.app he,by simp,by simp⟩,.inl ⟨e,he,rfl,rfl⟩⟩
    ·refine ⟨s1' ++ e,.inr ⟨fun w=>?_,fun w=>?_,rfl⟩,.inl ⟨e,he,rfl,rfl⟩⟩
     ·rcases w.chain (wi.mk he) with w | w
      ·exact b2 w
      ·exact k3 w
     ·rcases w.chain (wi.mk he) with w | w
      ·exact m2 w
      ·exact k4 w
   ·rcases h2 with ⟨g,hg,rfl,rfl⟩ | ⟨c1,c2,rfl⟩
    ·refine ⟨t2' ++ g,.inl ⟨g,hg,rfl,rfl⟩,.inr ⟨fun w=>?_,fun w=>?_,rfl⟩⟩
     ·rcases e3 with ⟨f',hf',rfl,rfl⟩ | ⟨k3,k4,rfl⟩
      ·obtain ⟨k,hk,hx⟩:=w
       exact g1 ⟨k,hk,by have :g=f' ++ k:=by simpa [List.append_assoc] using hx
                         rw [this];simp⟩
      ·rcases w.chain (wi.mk hg) with w | w
       ·exact k4 w
       ·exact m2 w
     ·rcases e4 with ⟨h',_,ht,rfl,rfl⟩ | ⟨k3,k4,rfl⟩
      ·obtain ⟨k,hk,hx⟩:=w
       exact g2 ⟨k,hk,by have :g=h' ++ k:=by simpa [List.append_assoc] using hx
                         rw [this];simp⟩
      ·rcases w.chain (wi.mk hg) with w | w
       ·rcases w.eq_or with w | w
        ·exact x3 w
        ·exact k4 w
       ·exact m1 w
    ·refine ⟨z,.inr ⟨c1,c2,rfl⟩,.inr ⟨fun w=>?_,fun w=>?_,rfl⟩⟩
     ·rcases e3 with ⟨f',hf',rfl,rfl⟩ | ⟨k3,k4,rfl⟩
      ·exact c2 (w.trans (wi.mk hf'))
      ·exact g1 w
     ·rcases e4 with ⟨h',_,ht,rfl,rfl⟩ | ⟨k3,k4,rfl⟩
      ·exact c2 (w.trans (wi.mk ht))
      ·exact g2 w
end
end Pa
end Go.Proofs.YtfmgnaigcibcaaaGreatDoor
namespace Go.Proofs.YtfmgnaigcibcaaaGreatDoor
namespace Pa
theorem sw_slash {u s:List UInt8} (h:sw u s):47∈u:=by
 obtain ⟨e,h0,he,rfl⟩:=h
 rcases he with rfl | ⟨t,rfl⟩
 ·exact (h0 rfl).elim
 ·simp
theorem sw_par {par name s:List UInt8} (hn:47 ∉ name) (h:sw (par ++ 47 :: name) s):∃ c,Tl c∧par=s ++ c∧∀ e,par ++ 47 :: name=s ++ e→e=c ++ 47 :: name:=by
 obtain ⟨e,h0,he,hx⟩:=h
 rcases List.append_eq_append_iff.1 hx with ⟨c,h1,h2⟩ | ⟨c,h1,h2⟩
 ·cases c with
  | nil=>
    have h1:s=par:=by simpa using h1
    subst h1
    exact ⟨[],.nil,by simp,fun e' h'=>by simpa using (List.append_cancel_left h').symm⟩
  | cons x c=>
    simp only [List.cons_append,List.cons.injEq] at h2
    rcases he with rfl | ⟨t,rfl⟩
    ·exact (h0 rfl).elim
    ·exact (hn (by rw [h2.2];simp)).elim
 ·refine ⟨c,?_,h1,fun e' h'=>?_⟩
  ·by_cases hc:c=[]
   ·subst hc;exact .nil
   ·rw [h2] at he
    exact Tl.split (g:=[]) he hc
  ·rw [h1,List.append_assoc] at h'
   exact (List.append_cancel_left h').symm
theorem nv_none {s t u v:List UInt8} (h:47 ∉ u):Nv s t u v ↔ v=u:=by
 constructor
 ·rintro (⟨e,h0,he,rfl,rfl⟩ | ⟨_,_,h⟩)
  ·exact (h (sw_slash ⟨e,h0,he,rfl⟩)).elim
  ·exact h
 ·rintro rfl
  exact .inr ⟨fun w=>h (sw_slash w),fun w=>h (sw_slash w),rfl⟩
theorem nv_par {s t par name v:List UInt8} (hn:47 ∉ name):Nv s t (par ++ 47 :: name) v ↔ ∃ par',Mv s t par par'∧v=par' ++ 47 :: name:=by
 have hT:Tl (47 :: name):=.inr ⟨name,rfl⟩
 constructor
 ·rintro (⟨e,h0,he,hu,rfl⟩ | ⟨h1,h2,rfl⟩)
  ·obtain ⟨c,hc,hp,hh⟩:=sw_par hn ⟨e,h0,he,hu⟩
   rw [hh e hu]
   exact ⟨t ++ c,.inl ⟨c,hc,hp,rfl⟩,by simp⟩
  ·refine ⟨par,.inr ⟨?_,?_,rfl⟩,rfl⟩
   ·rintro ⟨c,hc,rfl⟩
    exact h1 ⟨c ++ 47 :: name,by simp,hc.app hT,by simp⟩
   ·rintro ⟨c,hc,rfl⟩
    exact h2 ⟨c ++ 47 :: name,by simp,hc.app hT,by simp⟩
 ·rintro ⟨par',(⟨c,hc,rfl,rfl⟩ | ⟨h1,h2,rfl⟩),rfl⟩
  ·exact .inl ⟨c ++ 47 :: name,by simp,hc.app hT,by simp,by simp⟩
  ·refine .inr ⟨fun w=>?_,fun w=>?_,rfl⟩
   ·obtain ⟨c,hc,hp,_⟩:=sw_par hn w
    exact h1 ⟨c,hc,hp⟩
   ·obtain ⟨c,hc,hp,_⟩:=sw_par hn w
    exact h2 ⟨c,hc,hp⟩
abbrev L (s:ByteArray):List UInt8:=s.data.toList
theorem L_inj {s t:ByteArray} (h:L s=L t):s=t:=ByteArray.ext (Array.toList_inj.1 h)
theorem below_iff {s p:ByteArray}:Qm.below s p=true ↔ sw (L s) (L p):=by
 unfold Qm.below Lib.hasPrefix
 rw [List.isPrefixOf_iff_prefix]
 constructor
 ·rintro ⟨x,hx⟩
  exact ⟨47 :: x,by simp,.inr ⟨x,rfl⟩,by show s.data.toList=_;rw [← hx];simp⟩
 ·rintro ⟨e,h0,he,hx⟩
  rcases he with rfl | ⟨t,rfl⟩
  ·exact (h0 rfl).elim
  ·exact ⟨t,by rw [show s.data.toList=_ from hx];simp⟩
theorem within_iff {s p:ByteArray}:Qm.within s p=true ↔ wi (L s) (L p):=by
 unfold Qm.within
 rw [Bool.or_eq_true,Qm.eqB_iff,below_iff]
 constructor
 ·rintro (rfl | h)
  ·exact wi.refl _
  ·exact h.wi
 ·intro h
  rcases h.eq_or with h | h
  ·exact .inl (L_inj h)
  ·exact .inr h
theorem L_append (s t:ByteArray):L (s ++ t)=L s ++ L t:=by
 show (s ++ t).data.toList=_
 rw [ByteArray.data_append]
 simp
theorem L_extract (s:ByteArray) (i j:Nat):L (s.extract i j)=((L s).take j).drop i:=by
 show (s.extract i j).data.toList=_
 rw [ByteArray.data_extract]
 simp [List.drop_take]
theorem after_move {path to_ s:ByteArray} (h:(Qm.after 5 path to_ s).2=true):Mv (L path) (L to_) (L s) (L (Qm.after 5 path to_ s).1):=by
 unfold Qm.after at h ⊢
 rw [if_neg (by decide),if_pos (by decide)] at h ⊢
 split at h
 ·rename_i hw
  rw [if_pos hw]
  obtain ⟨e,he,hx⟩:=within_iff.1 hw
  refine .inl ⟨e,he,hx,?_⟩
  show L (to_ ++ s.extract path.size s.size)=_
  rw [L_append,L_extract,hx]
  have hl:(L path).length=path.size:=rfl
  have hs:s.size=(L path ++ e).length:=by rw [← hx];rfl
  rw [hs,List.take_length,← hl,List.drop_left]
 ·rename_i hw
  rw [if_neg hw]
  exact .inr ⟨fun w=>hw (within_iff.2 w),(fun w=>by rw [within_iff.2 w] at h;cases h),rfl⟩
theorem after_same {k:Int} {path to_ s:ByteArray} (hk:k≠5):(Qm.after k path to_ s).1=s:=by
 unfold Qm.after
 repeat' split
 all_goals first | rfl | (exfalso;simp_all)
theorem L_get {s:ByteArray} {j:Nat} (h:j < s.size):(L s)[j]?=some (s.data[j]!):=by
 have h':j < s.data.size:=h
 rw [getElem!_pos s.data j h']
 simp [L,h']
theorem byte_eq {x:UInt8}:((x.toNat:Int)=47) ↔ x=47:=by
 constructor
 ·intro h
  have h2:x.toNat=(47:UInt8).toNat:=by simpa using Int.ofNat.inj h
  exact UInt8.toNat_inj.1 h2
 ·rintro rfl
  rfl
theorem last_slash (s:ByteArray):(Lib.lastIndexByte s 47 < 0∧47 ∉ L s)∨(∃ (i:Nat) (name:List UInt8),Lib.lastIndexByte s 47=i∧i < s.size∧L s=(L s).take i ++ 47 :: name∧47 ∉ name∧(L s).drop i=47 :: name):=by
 rcases Lib.lastIndexByte_spec s 47 with ⟨h,hn⟩ | ⟨i,hi,h,hc,hn⟩
 ·refine .inl ⟨by omega,fun hm=>?_⟩
  obtain ⟨j,hj,hx⟩:=List.mem_iff_getElem.1 hm
  have hj':j < s.size:=hj
  have h1:=L_get hj'
  rw [List.getElem?_eq_getElem hj,hx] at h1
  exact hn j hj' (byte_eq.2 (Option.some.inj h1).symm)
 ·have hi':i < (L s).length:=hi
  have h1:=L_get hi
  have hx:(L s)[i]=47:=by
   rw [List.getElem?_eq_getElem hi'] at h1
   rw [Option.some.inj h1]
   exact byte_eq.1 hc
  have hd:(L s).drop i=47 :: (L s).drop (i+1):=by rw [List.drop_eq_getElem_cons hi',hx]
  refine .inr ⟨i,(L s).drop (i+1),h,hi,?_,fun hm=>?_,hd⟩
  ·rw [← hd,List.take_append_drop]
  ·obtain ⟨j,hj,hy⟩:=List.mem_iff_getElem.1 hm
   rw [List.length_drop] at hj
   rw [List.getElem_drop] at hy
   have hj':i+1+j < s.size:=by have :(L s).length=s.size:=rfl;omega
   have h2:=L_get hj'
   rw [List.getElem?_eq_getElem (by have :(L s).length=s.size:=rfl;omega),hy] at h2
   exact hn (i+1+j) (by omega) hj' (byte_eq.2 (Option.some.inj h2).symm)
theorem newAfter_move {path to_ s:ByteArray} (h:(Qm.newAfter 5 path to_ s).2=true):Nv (L path) (L to_) (L s) (L (Qm.newAfter 5 path to_ s).1):=by
 unfold Qm.newAfter at h ⊢
 rw [if_neg (by simp)] at h ⊢
 rcases last_slash s with ⟨h0,hn⟩ | ⟨i,name,hi,hlt,hs,hn,hd⟩
 ·rw [if_pos h0] at h ⊢
  exact (nv_none hn).2 rfl
 ·rw [if_neg (by omega),hi] at h ⊢
  dsimp only [Int.toNat_natCast] at h ⊢
  have hm:=after_move h
  have hp:L (s.extract 0 i)=(L s).take i:=by rw [L_extract];rfl
  have hr:L (s.extract i s.size)=47 :: name:=by
   rw [L_extract,← hd]
   congr 1
   exact List.take_length (l:=L s)
  rw [hp] at hm
  rw [L_append,hr,hs]
  exact (nv_par hn).2 ⟨_,hm,rfl⟩
theorem newAfter_same {k:Int} {path to_ s:ByteArray} (hk:k≠5) (h:(Qm.newAfter k path to_ s).2=true):(Qm.newAfter k path to_ s).1=s:=by
 unfold Qm.newAfter at h ⊢
 split at h
 ·cases h
 rename_i h1
 rw [if_neg h1]
 rcases last_slash s with ⟨h0,hn⟩ | ⟨i,name,hi,hlt,hs,hn,hd⟩
 ·rw [if_pos h0]
 ·rw [if_neg (by omega),hi]
  dsimp only [Int.toNat_natCast]
  rw [after_same hk]
  refine L_inj ?_
  rw [L_append,L_extract,L_extract]
  show List.take i (L s) ++ List.drop i (List.take (L s).length (L s))=L s
  rw [List.take_length,List.take_append_drop]
end Pa
end Go.Proofs.YtfmgnaigcibcaaaGreatDoor
namespace Go.Proofs.YtfmgnaigcibcaaaGreatDoor
open Go.RowKit
theorem indexByte_is {l:List UInt8} {c:UInt8} {k:Nat} (h:l[k]?=some c) (hn:∀ j,j < k→l[j]?≠some c):Lib.indexByte l c=k:=by
 have h0:=Lib.indexByte_ge l c
 by_cases hm:Lib.indexByte l c=-1
 ·exact (Lib.indexByte_none hm k h).elim
 ·obtain ⟨o,ho⟩:∃ o:Nat,Lib.indexByte l c=o:=⟨(Lib.indexByte l c).toNat,by omega⟩
  obtain ⟨h1,h2⟩:=Lib.indexByte_some ho
  rcases Nat.lt_trichotomy o k with hlt | rfl | hlt
  ·exact (hn o hlt h1).elim
  ·exact ho
  ·exact (h2 k hlt h).elim
theorem indexByte_not {l:List UInt8} {c:UInt8} (hn:∀ j:Nat,l[j]?≠some c):Lib.indexByte l c=-1:=by
 have h0:=Lib.indexByte_ge l c
 by_cases hm:Lib.indexByte l c=-1
 ·exact hm
 ·obtain ⟨o,ho⟩:∃ o:Nat,Lib.indexByte l c=o:=⟨(Lib.indexByte l c).toNat,by omega⟩
  exact (hn o (Lib.indexByte_some ho).1).elim
theorem indexB_slash (u:ByteArray):Lib.indexB u ⟨#[47]⟩=Lib.indexByte u.data.toList 47:=Lib.index_one u.data.toList 47
theorem pieces_miss {u:ByteArray} (h:Lib.indexByte u.data.toList 47=-1):pieces u=[u]:=by
 unfold pieces
 exact Lib.splitB_miss _ _ _ _ (by rw [indexB_slash];exact h)
theorem pieces_hit {u:ByteArray} {k:Nat} (h:Lib.indexByte u.data.toList 47=k):pieces u=u.extract 0 k :: pieces (u.extract (k+1) u.size):=by
 have hc:Lib.countB u ⟨#[47]⟩=Lib.countB (u.extract (k+1) u.size) ⟨#[47]⟩+1:=by
  show Lib.count u.data.toList [47]=Lib.count (u.extract (k+1) u.size).data.toList [47]+1
  rw [Lib.count_hit (by simp) (by rw [Lib.index_one];exact h),Nat.add_comm]
  congr 2
  rw [Lib.extract_to_end]
  rfl
 unfold pieces
 rw [hc,Lib.splitB_hit _ _ _ _ k (by rw [indexB_slash];exact h)]
 rfl
theorem extract_extract_zero (s:ByteArray) (f n k:Nat) (hk:f+k≤n) (hn:n≤s.size):(s.extract f n).extract 0 k=s.extract f (f+k):=by
 apply ByteArray.ext
 apply Array.toList_inj.1
 simp only [ByteArray.data_extract,Array.toList_extract]
 simp only [Array.toList_extract,List.extract_eq_take_drop,List.drop_zero,List.take_take,Nat.sub_zero]
 congr 1
 omega
theorem extract_extract_end (s:ByteArray) (f k:Nat) (hf:f+k≤s.size):(s.extract f s.size).extract k (s.extract f s.size).size=s.extract (f+k) s.size:=by
 apply ByteArray.ext
 apply Array.toList_inj.1
 simp only [ByteArray.data_extract,Array.toList_extract,ByteArray.size_extract]
 simp [List.drop_take,List.extract_eq_take_drop,List.drop_drop]
 rw [List.take_take,Nat.min_self,Nat.sub_sub]
theorem byte_at {s:ByteArray} {k:Nat} (h:k < s.size):s.data.toList[k]?=some s[k]:=by
 rw [List.getElem?_eq_getElem (by simpa using h)]
 rfl
theorem pall_hit {s:ByteArray} {a k:Nat} (hak:a≤k) (hk:k < s.size) (h47:s[k].toNat=47) (hno:∀ j,a≤j→j < k→s.data.toList[j]?≠some 47):
 (pieces (s.extract a s.size)).all Qm.isName=(Qm.isName (s.extract a k) && (pieces (s.extract (k+1) s.size)).all Qm.isName):=by
 have hb:s[k]=47:=UInt8.toNat_inj.1 h47
 have hi:Lib.indexByte (s.extract a s.size).data.toList 47=(k - a:Nat):=by
  rw [Lib.extract_to_end]
  refine indexByte_is ?_ fun j hj=>?_
  ·rw [List.getElem?_drop,show a+(k - a)=k by omega,byte_at hk,hb]
  ·rw [List.getElem?_drop]
   exact hno _ (by omega) (by omega)
 rw [pieces_hit hi,extract_extract_zero _ _ _ _ (by omega) (Nat.le_refl _),extract_extract_end _ _ _ (by omega),show a+(k - a)=k by omega,show a+(k - a+1)=k+1 by omega]
 rfl
theorem pall_miss {s:ByteArray} {a:Nat} (hno:∀ j,a≤j→j < s.size→s.data.toList[j]?≠some 47):(pieces (s.extract a s.size)).all Qm.isName=Qm.isName (s.extract a s.size):=by
 have hi:Lib.indexByte (s.extract a s.size).data.toList 47=-1:=by
  rw [Lib.extract_to_end]
  refine indexByte_not fun j=>?_
  rw [List.getElem?_drop]
  rcases Nat.lt_or_ge (a+j) s.size with h | h
  ·exact hno _ (by omega) h
  ·rw [List.getElem?_eq_none (by simpa using h)]
   simp
 rw [pieces_miss hi]
 simp
end Go.Proofs.YtfmgnaigcibcaaaGreatDoor
