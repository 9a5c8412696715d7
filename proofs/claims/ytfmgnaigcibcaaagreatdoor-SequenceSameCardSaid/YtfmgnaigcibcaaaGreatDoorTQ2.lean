import Derived.Test.YtfmgnaigcibcaaaGreatDoorTQ1
set_option linter.unusedSimpArgs false
set_option linter.unusedVariables false
namespace Go.Proofs.YtfmgnaigcibcaaaGreatDoor
open Go Pa
namespace Tr
theorem less_list:∀ x y:List UInt8,Op.bytesLess x y=decide (x < y)
 | [],[]=>by simp [Op.bytesLess]
 | _ :: _,[]=>by simp [Op.bytesLess]
 | [],_ :: _=>by simp [Op.bytesLess]
 | a :: x,b :: y=>by
   rw [Op.bytesLess,less_list x y]
   simp only [List.cons_lt_cons_iff]
   by_cases h1:a < b <;> by_cases h2:a=b <;> by_cases h3:x < y <;> simp [h1,h2,h3]
theorem lt_iff {s t:ByteArray}:lt s t=true ↔ L s < L t:=by
 unfold lt
 rw [less_list,ByteArray.toList_eq,ByteArray.toList_eq,decide_eq_true_eq]
theorem lt_irrefl (s:ByteArray):lt s s=false:=by
 cases h:lt s s
 ·rfl
 ·exact (List.lt_irrefl _ (lt_iff.1 h)).elim
theorem lt_trans {r s t:ByteArray} (h:lt r s=true) (k:lt s t=true):lt r t=true:=lt_iff.2 (List.lt_trans (lt_iff.1 h) (lt_iff.1 k))
theorem lt_asymm {s t:ByteArray} (h:lt s t=true):lt t s=false:=by
 cases k:lt t s
 ·rfl
 ·have:=lt_trans h k
  rw [lt_irrefl] at this
  cases this
theorem lt_ne {s t:ByteArray} (h:lt s t=true):s≠t:=fun e=>by
 subst e
 rw [lt_irrefl] at h
 cases h
theorem lt_or (s t:ByteArray):lt s t=true∨s=t∨lt t s=true:=by
 rcases Std.lt_trichotomy (L s) (L t) with h | h | h
 ·exact .inl (lt_iff.2 h)
 ·exact .inr (.inl (L_inj h))
 ·exact .inr (.inr (lt_iff.2 h))
theorem lt_of {s t:ByteArray} (h:lt t s=false) (k:s≠t):lt s t=true:=by
 rcases lt_or s t with h1 | h1 | h1
 ·exact h1
 ·exact (k h1).elim
 ·rw [h] at h1;cases h1
theorem eqB_ne {s t:ByteArray}:Qm.eqB s t=false ↔ s≠t:=by
 rw [← Bool.not_eq_true]
 exact not_congr Qm.eqB_iff
def Srt (t:List Pf):Prop:=t.Pairwise fun f g=>lt f.path g.path=true
theorem Srt.nil:Srt []:=List.Pairwise.nil
theorem Srt.tail {f:Pf} {t:List Pf} (h:Srt (f :: t)):Srt t:=(List.pairwise_cons.1 h).2
theorem Srt.head {f:Pf} {t:List Pf} (h:Srt (f :: t)) {g:Pf} (hg:g∈t):lt f.path g.path=true:=(List.pairwise_cons.1 h).1 g hg
theorem Srt.uniq {t:List Pf} (h:Srt t) {f g:Pf} (hf:f∈t) (hg:g∈t) (e:f.path=g.path):f=g:=by
 induction t with
 | nil=>cases hf
 | cons x t ih=>
   rcases List.mem_cons.1 hf with rfl | hf'
   ·rcases List.mem_cons.1 hg with rfl | hg'
    ·rfl
    ·exact (lt_ne (h.head hg') e).elim
   ·rcases List.mem_cons.1 hg with rfl | hg'
    ·exact (lt_ne (h.head hf') e.symm).elim
    ·exact ih h.tail hf' hg'
theorem Srt.ext {a b:List Pf} (ha:Srt a) (hb:Srt b) (h:∀ f,f∈a ↔ f∈b):a=b:=by
 induction a generalizing b with
 | nil=>
   cases b with
   | nil=>rfl
   | cons g b=>exact absurd ((h g).2 (List.mem_cons_self ..)) (by simp)
 | cons f a ih=>
   cases b with
   | nil=>exact absurd ((h f).1 (List.mem_cons_self ..)) (by simp)
   | cons g b=>
     have hfg:f=g:=by
      rcases List.mem_cons.1 ((h f).1 (List.mem_cons_self ..)) with e | hf
      ·exact e
      ·rcases List.mem_cons.1 ((h g).2 (List.mem_cons_self ..)) with e | hg
       ·exact e.symm
       ·have h1:=ha.head hg
        have h2:=hb.head hf
        rw [lt_asymm h1] at h2
        cases h2
     subst hfg
     congr 1
     refine ih ha.tail hb.tail fun x=>⟨fun hx=>?_,fun hx=>?_⟩
     ·rcases List.mem_cons.1 ((h x).1 (List.mem_cons_of_mem _ hx)) with rfl | hx'
      ·exact (lt_ne (ha.head hx) rfl).elim
      ·exact hx'
     ·rcases List.mem_cons.1 ((h x).2 (List.mem_cons_of_mem _ hx)) with rfl | hx'
      ·exact (lt_ne (hb.head hx) rfl).elim
      ·exact hx'
theorem Srt.filter {t:List Pf} (h:Srt t) (p:Pf→Bool):Srt (t.filter p):=List.Pairwise.filter p h
theorem Srt.find {t:List Pf} (h:Srt t) {f:Pf} {s:ByteArray}:Tr.find t s=some f ↔ f∈t∧f.path=s:=by
 constructor
 ·intro k
  exact ⟨List.mem_of_find?_eq_some k,Qm.eqB_iff.1 (by simpa using List.find?_some k)⟩
 ·rintro ⟨k,e⟩
  cases hf:Tr.find t s with
  | none=>
    have:=Tr.find_none_iff.1 hf f k
    rw [Qm.eqB_iff.2 e] at this
    cases this
  | some g=>
    have hg:g∈t∧g.path=s:=⟨List.mem_of_find?_eq_some hf,Qm.eqB_iff.1 (by simpa using List.find?_some hf)⟩
    rw [h.uniq hg.1 k (hg.2.trans e.symm)]
theorem find_none {t:List Pf} {s:ByteArray}:Tr.find t s=none ↔ ∀ f∈t,f.path≠s:=by
 rw [Tr.find_none_iff]
 exact ⟨fun h f hf=>eqB_ne.1 (h f hf),fun h f hf=>eqB_ne.2 (h f hf)⟩
theorem find_mem {t:List Pf} {s:ByteArray} {f:Pf} (h:Tr.find t s=some f):f∈t∧f.path=s:=
 ⟨List.mem_of_find?_eq_some h,Qm.eqB_iff.1 (by simpa using List.find?_some h)⟩
theorem putIn_mem {t:List Pf} (h:Srt t) {f g:Pf}:g∈putIn f t ↔ g=f∨(g∈t∧g.path≠f.path):=by
 induction t with
 | nil=>simp [putIn]
 | cons x t ih=>
   unfold putIn
   split
   ·rename_i h1
    rw [List.mem_cons,ih h.tail,List.mem_cons]
    constructor
    ·rintro (rfl | rfl | ⟨h2,h3⟩)
     ·exact .inr ⟨.inl rfl,lt_ne h1⟩
     ·exact .inl rfl
     ·exact .inr ⟨.inr h2,h3⟩
    ·rintro (rfl | ⟨rfl | h2,h3⟩)
     ·exact .inr (.inl rfl)
     ·exact .inl rfl
     ·exact .inr (.inr ⟨h2,h3⟩)
   ·rename_i h1
    split
    ·rename_i h2
     have h2':=Qm.eqB_iff.1 h2
     rw [List.mem_cons,List.mem_cons]
     constructor
     ·rintro (rfl | h3)
      ·exact .inl rfl
      ·exact .inr ⟨.inr h3,fun e=>lt_ne (h.head h3) (h2'.trans e.symm)⟩
     ·rintro (rfl | ⟨rfl | h3,h4⟩)
      ·exact .inl rfl
      ·exact (h4 h2').elim
      ·exact .inr h3
    ·rename_i h2
     have h2':x.path≠f.path:=fun e=>h2 (Qm.eqB_iff.2 e)
     have h3:lt f.path x.path=true:=lt_of (by simpa using h1) h2'.symm
     rw [List.mem_cons]
     constructor
     ·rintro (rfl | h4)
      ·exact .inl rfl
      ·refine .inr ⟨h4,fun e=>?_⟩
       rcases List.mem_cons.1 h4 with rfl | h5
       ·exact h2' e
       ·exact lt_ne (lt_trans h3 (h.head h5)) e.symm
     ·rintro (rfl | ⟨h4,h5⟩)
      ·exact .inl rfl
      ·exact .inr h4
theorem putIn_srt {t:List Pf} (h:Srt t) (f:Pf):Srt (putIn f t):=by
 induction t with
 | nil=>exact List.pairwise_singleton ..
 | cons x t ih=>
   unfold putIn
   split
   ·rename_i h1
    refine List.pairwise_cons.2 ⟨fun g hg=>?_,ih h.tail⟩
    rcases (putIn_mem h.tail).1 hg with rfl | ⟨hg,_⟩
    ·exact h1
    ·exact h.head hg
   ·rename_i h1
    split
    ·rename_i h2
     have h2':=Qm.eqB_iff.1 h2
     refine List.pairwise_cons.2 ⟨fun g hg=>?_,h.tail⟩
     rw [← h2']
     exact h.head hg
    ·rename_i h2
     have h2':x.path≠f.path:=fun e=>h2 (Qm.eqB_iff.2 e)
     have h3:lt f.path x.path=true:=lt_of (by simpa using h1) h2'.symm
     refine List.pairwise_cons.2 ⟨fun g hg=>?_,h⟩
     rcases List.mem_cons.1 hg with rfl | hg
     ·exact h3
     ·exact lt_trans h3 (h.head hg)
theorem putIn_length {t:List Pf} (f:Pf) (h:∀ g∈t,g.path≠f.path):(putIn f t).length=t.length+1:=by
 induction t with
 | nil=>rfl
 | cons x t ih=>
   unfold putIn
   rw [if_neg (c:=Qm.eqB x.path f.path=true) (fun e=>h x (List.mem_cons_self ..) (Qm.eqB_iff.1 e))]
   split
   ·rw [List.length_cons,ih fun g hg=>h g (List.mem_cons_of_mem _ hg),List.length_cons]
   ·rfl
theorem putIn_length_le (t:List Pf) (f:Pf):(putIn f t).length≤t.length+1:=by
 induction t with
 | nil=>simp [putIn]
 | cons x t ih=>
   unfold putIn
   repeat' split
   all_goals simp only [List.length_cons]
   all_goals omega
def Dst (t:List Pf):Prop:=t.Pairwise fun f g=>f.path≠g.path
theorem Srt.dst {t:List Pf} (h:Srt t):Dst t:=List.Pairwise.imp (fun h=>lt_ne h) h
theorem sort_from {l:List Pf}:∀ {a:List Pf},Srt a→Dst l→(∀ f∈a,∀ g∈l,f.path≠g.path)→Srt (l.foldl (fun a f=>putIn f a) a)∧(∀ f,f∈l.foldl (fun a f=>putIn f a) a ↔ f∈a∨f∈l)∧(l.foldl (fun a f=>putIn f a) a).length=a.length+l.length:=by
 induction l with
 | nil=>intro a ha _ _;exact ⟨ha,fun f=>by simp,rfl⟩
 | cons x l ih=>
   intro a ha hd hn
   rw [List.foldl_cons]
   have hd':=List.pairwise_cons.1 hd
   have hx:∀ g∈a,g.path≠x.path:=fun g hg=>hn g hg x (List.mem_cons_self ..)
   obtain ⟨h1,h2,h3⟩:=ih (a:=putIn x a) (putIn_srt ha x) hd'.2 (fun f hf g hg=>by
    rcases (putIn_mem ha).1 hf with rfl | ⟨hf,_⟩
    ·exact hd'.1 g hg
    ·exact hn f hf g (List.mem_cons_of_mem _ hg))
   refine ⟨h1,fun f=>?_,?_⟩
   ·rw [h2 f,putIn_mem ha,List.mem_cons]
    constructor
    ·rintro ((rfl | ⟨h4,_⟩) | h4)
     ·exact .inr (.inl rfl)
     ·exact .inl h4
     ·exact .inr (.inr h4)
    ·rintro (h4 | rfl | h4)
     ·exact .inl (.inr ⟨h4,hx f h4⟩)
     ·exact .inl (.inl rfl)
     ·exact .inr h4
   ·rw [h3,putIn_length x hx,List.length_cons]
    omega
theorem sort_srt {l:List Pf} (h:Dst l):Srt (sort l):=(sort_from Srt.nil h (by simp)).1
theorem sort_mem {l:List Pf} (h:Dst l) {f:Pf}:f∈sort l ↔ f∈l:=by
 have:=(sort_from Srt.nil h (by simp)).2.1 f
 unfold sort
 simpa using this
theorem sort_length {l:List Pf} (h:Dst l):(sort l).length=l.length:=by
 have:=(sort_from Srt.nil h (by simp)).2.2
 unfold sort
 simpa using this
theorem sort_id {t:List Pf} (h:Srt t):sort t=t:=(sort_srt h.dst).ext h fun f=>sort_mem h.dst
theorem sort_snoc (l:List Pf) (f:Pf):sort (l ++ [f])=putIn f (sort l):=by
 unfold sort
 rw [List.foldl_append]
 rfl
theorem sort_length_le (l:List Pf):(sort l).length≤l.length:=by
 have h:∀ (l a:List Pf),(l.foldl (fun a f=>putIn f a) a).length≤a.length+l.length:=by
  intro l
  induction l with
  | nil=>intro a;exact Nat.le_refl _
  | cons x l ih=>
    intro a
    have h1:=ih (putIn x a)
    have h2:=putIn_length_le a x
    rw [List.foldl_cons,List.length_cons]
    omega
 have:=h l []
 unfold sort
 simpa using this
theorem sort_eq {l d:List Pf} (h:Dst l) (hd:Srt d) (hm:∀ f,f∈d ↔ f∈l):d=sort l:=hd.ext (sort_srt h) fun f=>by rw [hm,sort_mem h]
theorem isDir_iff {t:List Pf} {s:ByteArray}:isDir t s=true ↔ s=⟨#[]⟩∨∃ g∈t,g.ty=4∧g.path=s:=by
 unfold isDir
 rw [Bool.or_eq_true,Qm.eqB_iff,List.any_eq_true]
 simp only [Bool.and_eq_true,beq_iff_eq,Qm.eqB_iff]
theorem isDir_append {a b:List Pf} {s:ByteArray} (h:isDir a s=true):isDir (a ++ b) s=true:=by
 rw [isDir_iff] at h ⊢
 rcases h with h | ⟨g,hg,h1,h2⟩
 ·exact .inl h
 ·exact .inr ⟨g,List.mem_append_left _ hg,h1,h2⟩
theorem parent_cases (s:ByteArray):(47 ∉ L s∧parent s=⟨#[]⟩)∨∃ name,47 ∉ name∧L s=L (parent s) ++ 47 :: name:=by
 unfold parent
 rcases last_slash s with ⟨h0,hn⟩ | ⟨i,name,hi,hlt,hs,hn,hd⟩
 ·left
  refine ⟨hn,?_⟩
  rw [show (Lib.lastIndexByte s 47).toNat=0 by omega]
  apply L_inj
  rw [L_extract]
  rfl
 ·right
  refine ⟨name,hn,?_⟩
  rw [hi,Int.toNat_natCast,L_extract,List.drop_zero]
  exact hs
theorem lt_prefix {s t:ByteArray} {c:UInt8} {e:List UInt8} (h:L t=L s ++ c :: e):lt s t=true:=by
 rw [lt_iff,h]
 generalize L s=l
 induction l with
 | nil=>exact List.nil_lt_cons _ _
 | cons x l ih=>exact List.cons_lt_cons_self.2 ih
theorem parent_lt {s:ByteArray} (h:s≠⟨#[]⟩):lt (parent s) s=true:=by
 rcases parent_cases s with ⟨_,h1⟩ | ⟨name,_,h1⟩
 ·rw [h1]
  have:L s≠[]:=fun e=>h (L_inj (by rw [e]))
  obtain ⟨c,e,he⟩:=List.exists_cons_of_ne_nil this
  exact lt_prefix (c:=c) (e:=e) (by rw [he];rfl)
 ·exact lt_prefix h1
structure Good (t:List Pf):Prop where
 len:t.length≤200
 el:∀ f∈t,element f=0
 srt:Srt t
 dirs:∀ f∈t,isDir t (parent f.path)=true
theorem wrong_iff {l:List Pf} (h:Srt l) {f:Pf}:wrong l f=false ↔ Srt (l ++ [f]):=by
 unfold Srt
 rw [List.pairwise_append]
 unfold wrong
 rcases List.eq_nil_or_concat l with rfl | ⟨r,g,rfl⟩
 ·simp
 ·rw [List.concat_eq_append] at h ⊢
  rw [List.getLast?_append]
  simp only [List.getLast?_singleton,Option.some_or]
  constructor
  ·intro h1
   rw [Bool.or_eq_false_iff] at h1
   have h2:lt g.path f.path=true:=lt_of h1.1 (fun e=>eqB_ne.1 h1.2 e.symm)
   refine ⟨h,List.pairwise_singleton ..,fun a ha b hb=>?_⟩
   rw [List.mem_singleton] at hb
   subst hb
   rcases List.mem_append.1 ha with ha | ha
   ·exact lt_trans ((List.pairwise_append.1 h).2.2 a ha g (by simp)) h2
   ·rw [List.mem_singleton] at ha
    rw [ha]
    exact h2
  ·rintro ⟨_,_,h1⟩
   have h2:=h1 g (by simp) f (by simp)
   rw [Bool.or_eq_false_iff]
   exact ⟨lt_asymm h2,eqB_ne.2 (fun e=>lt_ne h2 e.symm)⟩
theorem checkFrom_iff:∀ {l pre:List Pf},Srt pre→(checkFrom pre l=0 ↔ (∀ f∈l,element f=0)∧Srt (pre ++ l)∧∀ a f b,l=a ++ f :: b→isDir (pre ++ a) (parent f.path)=true)
 | [],pre,h=>by simp [checkFrom,h]
 | f :: r,pre,h=>by
   unfold checkFrom
   have hs:Srt (pre ++ f :: r)→Srt (pre ++ [f]):=fun k=>by
    have:pre ++ f :: r=(pre ++ [f]) ++ r:=by simp
    rw [this] at k
    exact (List.pairwise_append.1 k).1
   by_cases h1:element f=0
   ·rw [if_neg (by simpa using h1)]
    cases h2:wrong pre f
    ·rw [if_neg (by simp)]
     have h2':=(wrong_iff h).1 h2
     cases h3:isDir pre (parent f.path)
     ·rw [if_pos rfl]
      constructor
      ·intro k;cases k
      ·rintro ⟨_,_,k⟩
       have:=k [] f r rfl
       rw [List.append_nil,h3] at this
       cases this
     ·rw [if_neg (by simp),checkFrom_iff h2']
      constructor
      ·rintro ⟨k1,k2,k3⟩
       refine ⟨fun g hg=>?_,by simpa using k2,fun a g b e=>?_⟩
       ·rcases List.mem_cons.1 hg with rfl | hg
        ·exact h1
        ·exact k1 g hg
       ·cases a with
        | nil=>
          simp only [List.nil_append,List.cons.injEq] at e
          rw [← e.1,List.append_nil]
          exact h3
        | cons x a=>
          simp only [List.cons_append,List.cons.injEq] at e
          have:=k3 a g b e.2
          rw [← e.1]
          simpa using this
      ·rintro ⟨k1,k2,k3⟩
       refine ⟨fun g hg=>k1 g (List.mem_cons_of_mem _ hg),by simpa using k2,fun a g b e=>?_⟩
       have:=k3 (f :: a) g b (by rw [e];rfl)
       simpa using this
    ·rw [if_pos rfl]
     constructor
     ·intro k;cases k
     ·rintro ⟨_,k,_⟩
      rw [(wrong_iff h).2 (hs k)] at h2
      cases h2
   ·rw [if_pos h1]
    constructor
    ·intro k;exact (h1 k).elim
    ·rintro ⟨k,_⟩
     exact (h1 (k f (List.mem_cons_self ..))).elim
theorem isPath_ne {s:ByteArray} (h:Qm.isPath s=true):s≠⟨#[]⟩:=by
 rintro rfl
 have:Qm.isPath ⟨#[]⟩=false:=by kernel_rfl
 rw [this] at h
 cases h
theorem element_path {f:Pf} (h:element f=0):Qm.isPath f.path=true:=by
 unfold element at h
 cases hp:Qm.isPath f.path
 ·rw [if_pos hp] at h;cases h
 ·rfl
theorem good_iff {t:List Pf}:checkTree t=0 ↔ Good t:=by
 unfold checkTree
 constructor
 ·intro h
  have hl:¬ 200 < t.length:=fun k=>by rw [if_pos k] at h;cases h
  rw [if_neg hl,checkFrom_iff Srt.nil] at h
  obtain ⟨h1,h2,h3⟩:=h
  refine ⟨by omega,h1,by simpa using h2,fun f hf=>?_⟩
  obtain ⟨a,b,rfl⟩:=List.append_of_mem hf
  have:=h3 a f b rfl
  exact isDir_append (by simpa using this)
 ·rintro ⟨h1,h2,h3,h4⟩
  rw [if_neg (by omega),checkFrom_iff Srt.nil]
  refine ⟨h2,by simpa using h3,fun a f b e=>?_⟩
  subst e
  rw [List.nil_append]
  have hf:f∈a ++ f :: b:=by simp
  have:=h4 f hf
  rw [isDir_iff] at this ⊢
  rcases this with h | ⟨g,hg,k1,k2⟩
  ·exact .inl h
  ·refine .inr ⟨g,?_,k1,k2⟩
   have hlt:lt g.path f.path=true:=by rw [k2];exact parent_lt (isPath_ne (element_path (h2 f hf)))
   rcases List.mem_append.1 hg with hg | hg
   ·exact hg
   ·have h5:=(List.pairwise_append.1 h3).2.1
    rcases List.mem_cons.1 hg with rfl | hg
    ·rw [lt_irrefl] at hlt;cases hlt
    ·have:=Srt.head h5 hg
     rw [lt_asymm this] at hlt
     cases hlt
theorem Good.above {t:List Pf} (h:Good t):∀ (n:Nat) (u s:ByteArray),u.size≤n→isDir t (parent u)=true→s≠⟨#[]⟩→sw (L u) (L s)→∃ g∈t,g.ty=4∧g.path=s
 | 0,u,s,hn,_,hs,hw=>by
   obtain ⟨e,h0,_,he⟩:=hw
   have h1:=congrArg List.length he
   rw [List.length_append] at h1
   have h2:e.length≠0:=fun k=>h0 (List.length_eq_zero_iff.1 k)
   have h3:(L u).length=u.size:=rfl
   omega
 | n+1,u,s,hn,hd,hs,hw=>by
   rcases parent_cases u with ⟨h1,_⟩ | ⟨name,h1,h2⟩
   ·exact (h1 (sw_slash hw)).elim
   ·rw [h2] at hw
    obtain ⟨c,hc,hp,_⟩:=sw_par h1 hw
    by_cases h0:c=[]
    ·rw [h0,List.append_nil] at hp
     have hp':=L_inj hp
     rw [hp'] at hd
     rcases isDir_iff.1 hd with k | k
     ·exact (hs k).elim
     ·exact k
    ·have hps:parent u≠⟨#[]⟩:=fun k=>by
      rw [k] at hp
      have:=congrArg List.length hp
      rw [List.length_append] at this
      have h3:c.length=0:=by simp [L] at this;omega
      exact h0 (List.length_eq_zero_iff.1 h3)
     rcases isDir_iff.1 hd with k | ⟨g,hg,k1,k2⟩
     ·exact (hps k).elim
     ·have hsz:(parent u).size≤n:=by
       have:=congrArg List.length h2
       rw [List.length_append] at this
       have h3:(L u).length=u.size:=rfl
       have h4:(L (parent u)).length=(parent u).size:=rfl
       simp only [List.length_cons] at this
       omega
      have:=h.dirs g hg
      rw [k2] at this
      exact Good.above h n (parent u) s hsz this hs ⟨c,h0,hc,hp⟩
theorem Good.dir_above {t:List Pf} (h:Good t) {f:Pf} (hf:f∈t) {s:ByteArray} (hs:s≠⟨#[]⟩) (hw:sw (L f.path) (L s)):∃ g∈t,g.ty=4∧g.path=s:=
 h.above f.path.size f.path s (Nat.le_refl _) (h.dirs f hf) hs hw
end Tr
end Go.Proofs.YtfmgnaigcibcaaaGreatDoor
namespace Go.Proofs.YtfmgnaigcibcaaaGreatDoor
open Go Pa
namespace Tr
def segs:List UInt8→List (List UInt8)
 | []=>[[]]
 | c :: r=>if c=47 then [] :: segs r else match segs r with
   | []=>[[c]]
   | x :: xs=>(c :: x) :: xs
theorem segs_ne (l:List UInt8):segs l≠[]:=by
 cases l with
 | nil=>simp [segs]
 | cons c r=>
   unfold segs
   split
   ·simp
   ·split <;> simp
theorem segs_app (a b:List UInt8):segs (a ++ 47 :: b)=segs a ++ segs b:=by
 induction a with
 | nil=>simp [segs]
 | cons c a ih=>
   rw [List.cons_append,segs,segs,ih]
   split
   ·rfl
   ·cases h:segs a with
    | nil=>exact (segs_ne a h).elim
    | cons x xs=>rfl
theorem segs_one {a:List UInt8} (h:47 ∉ a):segs a=[a]:=by
 induction a with
 | nil=>rfl
 | cons c a ih=>
   rw [List.mem_cons] at h
   have h1:c≠47:=fun e=>h (.inl e.symm)
   rw [segs,if_neg h1,ih fun k=>h (.inr k)]
theorem pieces_segs:∀ (n:Nat) (s:ByteArray),s.size≤n→(pieces s).map L=segs (L s):=by
 intro n
 induction n with
 | zero=>
   intro s hs
   have h0:L s=[]:=List.length_eq_zero_iff.1 (by have :(L s).length=s.size:=rfl;omega)
   rw [pieces_miss (indexByte_not fun j=>by rw [show s.data.toList=[] from h0];simp),h0]
   simp [segs,h0]
 | succ n ih=>
   intro s hs
   have hg:=Lib.indexByte_ge (L s) 47
   by_cases hm:Lib.indexByte (L s) 47=-1
   ·rw [pieces_miss hm]
    rw [segs_one (fun k=>by
     obtain ⟨j,hj⟩:=List.mem_iff_getElem?.1 k
     exact Lib.indexByte_none hm j hj)]
    rfl
   ·obtain ⟨o,ho⟩:∃ o:Nat,Lib.indexByte (L s) 47=o:=⟨(Lib.indexByte (L s) 47).toNat,by omega⟩
    obtain ⟨h1,h2⟩:=Lib.indexByte_some ho
    have hlt:=(List.getElem?_eq_some_iff.1 h1).1
    have hls:(L s).length=s.size:=rfl
    rw [pieces_hit ho,List.map_cons,ih _ (by rw [ByteArray.size_extract];omega)]
    have e1:L (s.extract 0 o)=(L s).take o:=by rw [L_extract,List.drop_zero]
    have e2:L (s.extract (o+1) s.size)=(L s).drop (o+1):=by rw [L_extract,← hls,List.take_length]
    rw [e1,e2]
    have e3:L s=(L s).take o ++ 47 :: (L s).drop (o+1):=by
     conv=>lhs;rw [← List.take_append_drop o (L s),List.drop_eq_getElem_cons hlt]
     rw [(List.getElem?_eq_some_iff.1 h1).2]
    conv=>rhs;rw [e3]
    rw [segs_app,segs_one (a:=(L s).take o) (fun k=>by
     obtain ⟨j,hj⟩:=List.mem_iff_getElem?.1 k
     rw [List.getElem?_take] at hj
     split at hj
     ·exact h2 j (by assumption) hj
     ·cases hj)]
    rfl
def nameOk (l:List UInt8):Bool:=Qm.isName ⟨l.toArray⟩
theorem nameOk_L (s:ByteArray):nameOk (L s)=Qm.isName s:=by
 unfold nameOk
 congr 1
def okS (l:List UInt8):Bool:=(segs l).all nameOk
theorem isPath_segs (s:ByteArray):Qm.isPath s=(decide (s.size≤200) && okS (L s)):=by
 rw [isPath_pieces,okS,← pieces_segs s.size s (Nat.le_refl _),List.all_map]
 congr 2
theorem okS_app (a b:List UInt8):okS (a ++ 47 :: b)=(okS a && okS b):=by
 unfold okS
 rw [segs_app,List.all_append]
theorem okS_tail {p q e:List UInt8} (h:okS (q ++ e)=true) (k:okS p=true) (he:Tl e):okS (p ++ e)=true:=by
 rcases he with rfl | ⟨t,rfl⟩
 ·simpa using k
 ·rw [okS_app] at h ⊢
  rw [Bool.and_eq_true] at h
  rw [k,h.2]
  rfl
theorem path_tail {p q s s':ByteArray} {e:List UInt8} (he:Tl e) (hs:L s=L p ++ e) (hs':L s'=L q ++ e) (h:Qm.isPath s=true) (k:Qm.isPath q=true) (hz:s'.size≤200):Qm.isPath s'=true:=by
 rw [isPath_segs,Bool.and_eq_true] at h k ⊢
 refine ⟨by simpa using hz,?_⟩
 rw [hs']
 exact okS_tail (q:=L p) (by rw [← hs];exact h.2) k.2 he
theorem slash_uniq {a b n m:List UInt8} (hn:47 ∉ n) (hm:47 ∉ m) (h:a ++ 47 :: n=b ++ 47 :: m):a=b∧n=m:=by
 rcases List.append_eq_append_iff.1 h with ⟨c,h1,h2⟩ | ⟨c,h1,h2⟩
 ·cases c with
  | nil=>simp at h1 h2;exact ⟨h1.symm,h2⟩
  | cons x c=>
    simp only [List.cons_append,List.cons.injEq] at h2
    exact (hn (by rw [h2.2];simp)).elim
 ·cases c with
  | nil=>simp at h1 h2;exact ⟨h1,h2.symm⟩
  | cons x c=>
    simp only [List.cons_append,List.cons.injEq] at h2
    exact (hm (by rw [h2.2];simp)).elim
theorem parent_of {s:ByteArray} {l n:List UInt8} (hn:47 ∉ n) (h:L s=l ++ 47 :: n):L (parent s)=l:=by
 rcases parent_cases s with ⟨h1,_⟩ | ⟨m,h1,h2⟩
 ·exact (h1 (by rw [h];simp)).elim
 ·exact (slash_uniq hn h1 (h.symm.trans h2)).1.symm
theorem shift_eq (p q:ByteArray) (f:Pf):shift p q f={ f with path:=(shift p q f).path }:=by
 unfold shift
 split <;> rfl
theorem shift_cases (p q:ByteArray) (f:Pf):(∃ e,Tl e∧L f.path=L p ++ e∧L (shift p q f).path=L q ++ e)∨(¬ wi (L f.path) (L p)∧shift p q f=f):=by
 by_cases h:wi (L f.path) (L p)
 ·left
  obtain ⟨e,he,h1⟩:=h
  refine ⟨e,he,h1,?_⟩
  have hw:Qm.within f.path p=true:=Pa.within_iff.2 ⟨e,he,h1⟩
  unfold shift
  rw [if_pos (show (Qm.eqB f.path p || Qm.below f.path p)=true from hw)]
  show L (q ++ f.path.extract p.size f.path.size)=_
  rw [L_append,L_extract]
  congr 1
  have:(L f.path).length=f.path.size:=rfl
  rw [← this,List.take_length,h1]
  have:(L p).length=p.size:=rfl
  rw [← this,List.drop_left]
 ·right
  refine ⟨h,?_⟩
  have hw:¬ Qm.within f.path p=true:=fun k=>h (Pa.within_iff.1 k)
  unfold shift
  rw [if_neg (show ¬ (Qm.eqB f.path p || Qm.below f.path p)=true from hw)]
theorem shift_mv {p q:ByteArray} {f:Pf} {v:List UInt8} (h:Mv (L p) (L q) (L f.path) v):L (shift p q f).path=v:=by
 rcases shift_cases p q f with ⟨e,he,h1,h2⟩ | ⟨h1,h2⟩
 ·rw [h2]
  exact Mv.uniq (.inl ⟨e,he,h1,rfl⟩) h
 ·rcases h with ⟨e,he,k,_⟩ | ⟨_,_,k⟩
  ·exact (h1 ⟨e,he,k⟩).elim
  ·rw [h2,k]
theorem shift_back {p q:ByteArray} {f:Pf} (h:Mv (L p) (L q) (L f.path) (L (shift p q f).path)):shift q p (shift p q f)=f:=by
 have h1:=shift_mv (f:=shift p q f) h.symm
 rw [shift_eq q p,L_inj h1,shift_eq p q]
theorem room_zero {t:List Pf} {s:ByteArray} (hs:Srt t):room t s=0 ↔ (∀ f∈t,f.path≠s)∧isDir t (parent s)=true:=by
 unfold room
 rw [isDir_iff]
 constructor
 ·intro h
  split at h
  ·cases h
  ·rename_i h1
   have h1':Tr.find t s=none:=by simpa using h1
   refine ⟨find_none.1 h1',?_⟩
   split at h
   ·rename_i h2
    exact .inl (Qm.eqB_iff.1 h2)
   ·right
    split at h
    ·cases h
    ·rename_i f hf
     split at h
     ·exact ⟨f,(hs.find.1 hf).1,by assumption,(hs.find.1 hf).2⟩
     ·cases h
 ·rintro ⟨h1,h2⟩
  rw [find_none.2 h1,if_neg (by simp)]
  by_cases h3:parent s=⟨#[]⟩
  ·rw [if_pos (Qm.eqB_iff.2 h3)]
  ·rw [if_neg (fun k=>h3 (Qm.eqB_iff.1 k))]
   rcases h2 with h2 | ⟨g,hg,k1,k2⟩
   ·exact (h3 h2).elim
   ·rw [hs.find.2 ⟨hg,k2⟩]
    simp [k1]
structure Moves (t:List Pf) (p q:ByteArray):Prop where
 good:Good t
 hp:Qm.isPath p=true
 hq:Qm.isPath q=true
 n1:¬ wi (L q) (L p)
 n2:¬ wi (L p) (L q)
 is:∃ d∈t,d.path=p
 free:∀ f∈t,f.path≠q
 dir:isDir t (parent q)=true
 small:∀ f∈t,(shift p q f).path.size≤200
section
variable {t:List Pf} {p q:ByteArray}
theorem Moves.mv (h:Moves t p q) {f:Pf} (hf:f∈t):Mv (L p) (L q) (L f.path) (L (shift p q f).path):=by
 rcases shift_cases p q f with ⟨e,he,h1,h2⟩ | ⟨h1,h2⟩
 ·exact .inl ⟨e,he,h1,h2⟩
 ·refine .inr ⟨h1,fun k=>?_,by rw [h2]⟩
  rcases k.eq_or with k | k
  ·exact h.free f hf (L_inj k)
  ·obtain ⟨g,hg,_,e⟩:=h.good.dir_above hf (isPath_ne h.hq) k
   exact h.free g hg e
theorem Moves.dst (h:Moves t p q):Dst (t.map (shift p q)):=by
 unfold Dst
 rw [List.pairwise_map]
 refine List.Pairwise.imp_of_mem (fun {f g} hf hg hlt e=>?_) h.good.srt
 have h1:=(h.mv hf).symm
 have h2:=(h.mv hg).symm
 rw [e] at h1
 exact lt_ne hlt (L_inj (h1.uniq h2))
theorem Moves.mem (h:Moves t p q) {g:Pf}:g∈sort (t.map (shift p q)) ↔ ∃ f∈t,shift p q f=g:=by
 rw [sort_mem h.dst,List.mem_map]
theorem Moves.still (h:Moves t p q) {g:Pf} (hg:g∈t) (k:¬ wi (L g.path) (L p)):g∈sort (t.map (shift p q)):=by
 rw [h.mem]
 refine ⟨g,hg,?_⟩
 rcases shift_cases p q g with ⟨e,he,h1,h2⟩ | ⟨h1,h2⟩
 ·exact (k ⟨e,he,h1⟩).elim
 ·exact h2
theorem element_at {f:Pf} (h:element f=0) {s:ByteArray} (k:Qm.isPath s=true):element { f with path:=s }=0:=by
 have:=element_path h
 unfold element at h ⊢
 rw [this] at h
 rw [k]
 exact h
theorem wi_parent {s:ByteArray} {l:List UInt8} (hne:parent s≠⟨#[]⟩) (h:wi (L (parent s)) l):wi (L s) l:=by
 rcases parent_cases s with ⟨_,k⟩ | ⟨name,_,k⟩
 ·exact (hne k).elim
 ·rw [k]
  exact (wi.mk (.inr ⟨name,rfl⟩)).trans h
theorem Moves.good' (h:Moves t p q):Good (sort (t.map (shift p q))):=by
 refine ⟨by rw [sort_length h.dst,List.length_map];exact h.good.len,fun g hg=>?_,sort_srt h.dst,fun g hg=>?_⟩
 ·obtain ⟨f,hf,rfl⟩:=h.mem.1 hg
  have he:=h.good.el f hf
  rw [shift_eq]
  refine element_at he ?_
  rcases shift_cases p q f with ⟨e,hh,h1,h2⟩ | ⟨h1,h2⟩
  ·exact path_tail hh h1 h2 (element_path he) h.hq (h.small f hf)
  ·rw [h2]
   exact element_path he
 ·obtain ⟨f,hf,rfl⟩:=h.mem.1 hg
  rcases shift_cases p q f with ⟨e,he,h1,h2⟩ | ⟨h1,h2⟩
  ·by_cases h0:e=[]
   ·have h3:(shift p q f).path=q:=L_inj (by rw [h2,h0,List.append_nil])
    rw [h3]
    have hd:=h.dir
    rw [isDir_iff] at hd ⊢
    rcases hd with hd | ⟨g,hg,k1,k2⟩
    ·exact .inl hd
    ·by_cases hr:parent q=⟨#[]⟩
     ·exact .inl hr
     ·refine .inr ⟨g,h.still hg (fun k=>?_),k1,k2⟩
      rw [k2] at k
      exact h.n1 (wi_parent hr k)
   ·have hsw:sw (L f.path) (L p):=⟨e,h0,he,h1⟩
    rcases parent_cases f.path with ⟨k1,_⟩ | ⟨name,hn,k1⟩
    ·exact (k1 (sw_slash hsw)).elim
    ·rw [k1] at hsw
     obtain ⟨c,hc,hpc,huniq⟩:=sw_par hn hsw
     have he':e=c ++ 47 :: name:=huniq e (by rw [← k1,h1])
     have hpar:L (parent (shift p q f).path)=L q ++ c:=parent_of hn (by rw [h2,he',List.append_assoc])
     have hd:=h.good.dirs f hf
     rw [isDir_iff] at hd ⊢
     rcases hd with hd | ⟨g,hg,m1,m2⟩
     ·rw [hd] at hpc
      have:=congrArg List.length hpc
      rw [List.length_append] at this
      have h6:(L (⟨#[]⟩:ByteArray)).length=0:=rfl
      have h5:(L p).length=0:=by omega
      exact (isPath_ne h.hp (L_inj (by rw [List.length_eq_zero_iff.1 h5]))).elim
     ·refine .inr ⟨shift p q g,h.mem.2 ⟨g,hg,rfl⟩,?_,?_⟩
      ·rw [shift_eq]
       exact m1
      ·apply L_inj
       rw [hpar]
       exact shift_mv (.inl ⟨c,hc,by rw [m2,hpc],rfl⟩)
  ·rw [h2]
   have hd:=h.good.dirs f hf
   rw [isDir_iff] at hd ⊢
   rcases hd with hd | ⟨g,hg,m1,m2⟩
   ·exact .inl hd
   ·by_cases hr:parent f.path=⟨#[]⟩
    ·exact .inl hr
    ·refine .inr ⟨g,h.still hg (fun k=>?_),m1,m2⟩
     rw [m2] at k
     exact h1 (wi_parent hr k)
theorem Moves.back (h:Moves t p q):Moves (sort (t.map (shift p q))) q p where
 good:=h.good'
 hp:=h.hq
 hq:=h.hp
 n1:=h.n2
 n2:=h.n1
 is:=by
  obtain ⟨d,hd,e⟩:=h.is
  refine ⟨shift p q d,h.mem.2 ⟨d,hd,rfl⟩,L_inj ?_⟩
  have:=shift_mv (p:=p) (q:=q) (f:=d) (v:=L q ++ []) (.inl ⟨[],.nil,by rw [e,List.append_nil],rfl⟩)
  rwa [List.append_nil] at this
 free:=fun g hg e=>by
  obtain ⟨f,hf,rfl⟩:=h.mem.1 hg
  rcases h.mv hf with ⟨e',he,k1,k2⟩ | ⟨k1,_,k3⟩
  ·rw [e] at k2
   exact h.n2 ⟨e',he,k2⟩
  ·rw [e] at k3
   rw [← k3] at k1
   exact k1 (wi.refl _)
 dir:=by
  obtain ⟨d,hd,e⟩:=h.is
  have hd:=h.good.dirs d hd
  rw [e] at hd
  rw [isDir_iff] at hd ⊢
  rcases hd with hd | ⟨g,hg,m1,m2⟩
  ·exact .inl hd
  ·by_cases hr:parent p=⟨#[]⟩
   ·exact .inl hr
   ·refine .inr ⟨g,h.still hg (fun k=>?_),m1,m2⟩
    rw [m2] at k
    rcases parent_cases p with ⟨_,k'⟩ | ⟨name,_,k'⟩
    ·exact hr k'
    ·obtain ⟨c,_,hc⟩:=k
     have h1:=congrArg List.length hc
     have h2:=congrArg List.length k'
     simp only [List.length_append,List.length_cons] at h1 h2
     omega
 small:=fun g hg=>by
  obtain ⟨f,hf,rfl⟩:=h.mem.1 hg
  rw [shift_back (h.mv hf)]
  have:=element_path (h.good.el f hf)
  rw [isPath_segs,Bool.and_eq_true] at this
  exact of_decide_eq_true this.1
theorem Moves.again (h:Moves t p q):sort ((sort (t.map (shift p q))).map (shift q p))=t:=by
 refine (sort_eq h.back.dst h.good.srt fun f=>?_).symm
 rw [List.mem_map]
 constructor
 ·intro hf
  exact ⟨shift p q f,h.mem.2 ⟨f,hf,rfl⟩,shift_back (h.mv hf)⟩
 ·rintro ⟨g,hg,rfl⟩
  obtain ⟨f,hf,rfl⟩:=h.mem.1 hg
  rwa [shift_back (h.mv hf)]
theorem move_moves (hg:Good t) (hp:Qm.isPath p=true) (hq:Qm.isPath q=true) (n1:¬ wi (L q) (L p)) (n2:¬ wi (L p) (L q)) (h:(move t p q).2=0):Moves t p q∧(move t p q).1=sort (t.map (shift p q)):=by
 unfold move at h ⊢
 split at h
 ·cases h
 rename_i h1
 rw [if_neg h1]
 split at h
 ·rename_i h2
  exact (h2 h).elim
 rename_i h2
 rw [if_neg h2]
 split at h
 ·cases h
 rename_i h3
 rw [if_neg h3]
 have h2':room t q=0:=by simpa using h2
 obtain ⟨r1,r2⟩:=(room_zero hg.srt).1 h2'
 refine ⟨⟨hg,hp,hq,n1,n2,?_,r1,r2,fun f hf=>?_⟩,rfl⟩
 ·cases hf:Tr.find t p with
  | none=>rw [hf] at h1;exact (h1 rfl).elim
  | some d=>exact ⟨d,(hg.srt.find.1 hf).1,(hg.srt.find.1 hf).2⟩
 ·have h3':((t.map (shift p q)).any fun f=>decide (200 < f.path.size))=false:=by simpa using h3
  rw [List.any_eq_false] at h3'
  have:=h3' _ (List.mem_map_of_mem hf)
  simpa using this
theorem Moves.move (h:Moves t p q):Tr.move t p q=(sort (t.map (shift p q)),0):=by
 unfold Tr.move
 obtain ⟨d,hd,e⟩:=h.is
 rw [h.good.srt.find.2 ⟨hd,e⟩,if_neg (by simp),(room_zero h.good.srt).2 ⟨h.free,h.dir⟩,if_neg (by simp),if_neg]
 rw [Bool.not_eq_true,List.any_eq_false]
 intro g hg
 obtain ⟨f,hf,rfl⟩:=List.mem_map.1 hg
 have:=h.small f hf
 simpa using this
end
end Tr
end Go.Proofs.YtfmgnaigcibcaaaGreatDoor
