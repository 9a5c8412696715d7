import Derived.Test.YtfmgnaigcibcaaaGreatDoorTQ0
import Derived.Test.YtfmgnaigcibcaaaGreatDoorTJo
set_option linter.unusedSimpArgs false
set_option linter.unusedVariables false
namespace Go.Proofs.YtfmgnaigcibcaaaGreatDoor
open Go Pa
namespace Um
def applyFrom:List Pf→Nat→List Qp→List Pf × Nat × Int
 | t,_,[]=>(t,0,0)
 | t,i,p :: l=>if (Tr.apply t p).2≠0 then ([],i,(Tr.apply t p).2) else applyFrom (Tr.apply t p).1 (i+1) l
def apply (t:List Pf) (l:List Qp):List Pf × Nat × Int:=if Tr.checkTree t≠0 then ([],0,Tr.checkTree t) else applyFrom t 0 l
theorem applyFrom_good:∀ {l:List Qp} {t r:List Pf} {i k:Nat},Tr.Good t→applyFrom t i l=(r,k,0)→Tr.Good r∧Sq.Ok l
 | [],t,r,i,k,hg,h=>by
   obtain rfl:t=r:=congrArg Prod.fst h
   exact ⟨hg,fun x hx=>(by cases hx)⟩
 | p :: l,t,r,i,k,hg,h=>by
   unfold applyFrom at h
   split at h
   ·rename_i h0
    exact (h0 (congrArg (fun x=>x.2.2) h)).elim
   ·rename_i h0
    have e:Tr.apply t p=((Tr.apply t p).1,0):=Prod.ext rfl (by simpa using h0)
    obtain ⟨_,hp,hd⟩:=Tr.apply_iff.1 e
    obtain ⟨h1,h2⟩:=applyFrom_good (hd.good hg hp) h
    exact ⟨h1,fun x hx=>(List.mem_cons.1 hx).elim (fun e=>by rw [e];exact hp) (h2 x)⟩
theorem apply_good {l:List Qp} {t r:List Pf} {k:Nat} (h:apply t l=(r,k,0)):Tr.Good t∧Tr.Good r∧Sq.Ok l:=by
 unfold apply at h
 split at h
 ·rename_i h0
  exact (h0 (congrArg (fun x=>x.2.2) h)).elim
 ·rename_i h0
  have hg:=Tr.good_iff.1 (by simpa using h0)
  exact ⟨hg,applyFrom_good hg h⟩
def Lim (e:Int):Prop:=e=4∨e=5
theorem applyFrom_snoc:∀ {l:List Qp} {t r s:List Pf} {i j k:Nat} {p:Qp},applyFrom t i l=(r,k,0)→Tr.apply r p=(s,0)→applyFrom t i (l ++ [p])=(s,0,0)
 | [],t,r,s,i,j,k,p,h,hp=>by
   obtain rfl:t=r:=congrArg Prod.fst h
   show (if (Tr.apply t p).2≠0 then _ else _:List Pf × Nat × Int)=_
   rw [hp,if_neg (by simp)]
   rfl
 | q :: l,t,r,s,i,j,k,p,h,hp=>by
   rw [List.cons_append]
   unfold applyFrom at h ⊢
   split at h
   ·rename_i h0
    exact (h0 (congrArg (fun x=>x.2.2) h)).elim
   ·rename_i h0
    rw [if_neg h0]
    exact applyFrom_snoc (j:=j) h hp
theorem inverse_from:∀ {l:List Qp} {t r:List Pf} {i k:Nat},Tr.Good t→applyFrom t i l=(r,k,0)→∀ j,applyFrom r j (Sq.invert l)=(t,0,0)
 | [],t,r,i,k,hg,h,j=>by
   obtain rfl:t=r:=congrArg Prod.fst h
   rfl
 | p :: l,t,r,i,k,hg,h,j=>by
   unfold applyFrom at h
   split at h
   ·rename_i h0
    exact (h0 (congrArg (fun x=>x.2.2) h)).elim
   ·rename_i h0
    have e:Tr.apply t p=((Tr.apply t p).1,0):=Prod.ext rfl (by simpa using h0)
    obtain ⟨_,hp,hd⟩:=Tr.apply_iff.1 e
    have hg':=hd.good hg hp
    have h1:=inverse_from hg' h j
    have h2:Sq.invert (p :: l)=Sq.invert l ++ [p.inv]:=by
     unfold Sq.invert
     rw [List.map_cons,List.reverse_cons]
    rw [h2]
    exact applyFrom_snoc (j:=0) h1 (Tr.apply_iff.2 ⟨hg',inv_check hp,hd.back hg hp⟩)
theorem inverse_law {l:List Qp} {t:List Pf} (h:(apply t l).2.2=0):Sq.Ok l∧(apply (apply t l).1 (Sq.invert l))=(t,0,0):=by
 have e':apply t l=((apply t l).1,(apply t l).2.1,0):=Prod.ext rfl (Prod.ext rfl h)
 obtain ⟨h1,h2,h3⟩:=apply_good e'
 refine ⟨h3,?_⟩
 have h5:applyFrom t 0 l=((apply t l).1,(apply t l).2.1,0):=by
  rw [← e']
  unfold apply
  rw [if_neg (by simpa using Tr.good_iff.2 h1)]
 have h6:=inverse_from h1 h5 0
 show (if Tr.checkTree (apply t l).1≠0 then _ else _:List Pf × Nat × Int)=_
 rw [if_neg (by simpa using Tr.good_iff.2 h2)]
 exact h6
theorem invert_invert {l:List Qp} (h:Sq.Ok l):Sq.invert (Sq.invert l)=l:=by
 unfold Sq.invert
 rw [List.map_reverse,List.reverse_reverse,List.map_map]
 conv=>rhs;rw [← List.map_id l]
 refine List.map_congr_left fun x hx=>?_
 exact inv_inv (h x hx)
theorem invert_ok {l:List Qp} (h:Sq.Ok l):Sq.Ok (Sq.invert l):=fun x hx=>by
 unfold Sq.invert at hx
 rw [List.mem_reverse,List.mem_map] at hx
 obtain ⟨y,hy,rfl⟩:=hx
 exact inv_check (h y hy)
end Um
end Go.Proofs.YtfmgnaigcibcaaaGreatDoor
