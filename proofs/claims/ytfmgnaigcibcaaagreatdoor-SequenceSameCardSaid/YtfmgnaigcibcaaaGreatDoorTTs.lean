import Derived.Test.YtfmgnaigcibcaaaGreatDoorTQ6
import Derived.Test.YtfmgnaigcibcaaaGreatDoorSo
set_option linter.unusedSimpArgs false
set_option linter.unusedVariables false
namespace Go.Proofs.YtfmgnaigcibcaaaGreatDoor
open Go Go.RowKit
open Go.Sort (HoldsK putRowK holdsK_grow)
def pfe (f:Pf):List Value:=[.string f.path,.int .i64 f.ty,.int .i64 f.mode,.string f.data]
def pfc (x y:Pf):Int:=Lib.compareBytes x.path.data.toList y.path.data.toList
theorem pfe_len (f:Pf):(pfe f).length=4:=rfl
theorem pfe_one (f:Pf):∀ v∈pfe f,v.oneCell'=true:=fun v hv=>by
 simp [pfe] at hv
 rcases hv with rfl | rfl | rfl | rfl <;> rfl
theorem pfc_lt (x y:Pf):ltOf pfc x y=Tr.lt x.path y.path:=by
 rw [Bool.eq_iff_iff]
 unfold ltOf pfc
 rw [decide_eq_true_eq]
 exact Tr.compare_paths _ _
theorem pfc_swo:Sort.SWO (ltOf pfc) where
 irrefl x:=by rw [pfc_lt,Tr.lt_irrefl]
 trans x y z h1 h2:=by rw [pfc_lt] at *;exact Tr.lt_trans h1 h2
 ntrans x y z h1 h2:=by
  rw [pfc_lt] at *
  cases h:Tr.lt x.path z.path
  ·rfl
  ·rcases Tr.lt_or x.path y.path with k | k | k
   ·rw [h1] at k;cases k
   ·rw [k,h2] at h;cases h
   ·rw [Tr.lt_trans k h] at h2;cases h2
set_option maxHeartbeats 1000000 in
theorem cmp_any (x y:Pf) (W:World):Calls Tryz.prog 209 #[x.v,y.v] W fun e w'=>e=.returned (.int .i64 (pfc x y))∧∃ q os',w'=Sort.grow (W.drewN q) os':=by
 have hcon:=fun W'=>Tryz.strings_Compare x.path y.path W'
 unfold pfc
 generalize Lib.compareBytes x.path.data.toList y.path.data.toList=r at hcon ⊢
 go_enter Tryz.func209,Tryz.ntmps209
 go_wp2_with (go_at_call 189;refine (hcon _).mono ?_;rintro e w' ⟨rfl,rfl⟩)
 go_ret
 exact ⟨rfl,0,_,by rw [Sort.alloc_eq_grow,Sort.alloc_eq_grow,Sort.grow_grow];rfl⟩
theorem cmp_lays (blk off size:Nat) (w:World):CmpLays Tryz.prog 209 #[] pfe 4 pfc blk off size w:=
 fun _ _ _ _ x y=>cmp_any x y _
set_option maxHeartbeats 2000000 in
theorem sortfunc_any (g c:Nat) (l:List Pf) (w:World) (hH:HoldsK pfe 4 w g 0 l.toArray) (hg:g < w.heap.size) (hs:l.length≤1000000):
 Calls Tryz.prog 208 #[.slice (some ⟨g,0,none⟩) l.length c,.func (.func 209) #[] #[]] w fun e w'=>
  e=.returned (.tuple #[])∧∃ d:List Pf,d.Perm l∧d.Pairwise (fun a b=>Tr.lt b.path a.path=false)∧HoldsK pfe 4 w' g 0 d.toArray∧w.grownBy w' (some g):=by
 have eg:∀ args w,(callFunc 209 args).run Tryz.prog w=.ok (.enter 209 args) w:=enters_of Tryz.func209 (by kernel_rfl) rfl
 have hsz:l.toArray.size < 4611686018427387904:=by simp;omega
 have hlim:Lib.bitLen l.toArray.size < 4611686018427387904:=Nat.lt_of_le_of_lt (Lib.bitLen_le l.toArray.size 62 (by omega) (by omega)) (by omega)
 have hp:=AnyQ.pdqsortCmpFunc_all Tryz.laysSort 4 Tryz.isAgg61 Tryz.sizeOf61 pfe pfc 209 #[] pfc_swo g 0 c l.toArray w eg (cmp_lays g 0 _ w) ⟨pfe_len,pfe_one,hH,hg⟩ (l.toArray.size+1) 0 l.toArray.size (Lib.bitLen l.toArray.size) l.toArray w (by omega) rfl (SWK.start hH) (Nat.zero_le _) (Nat.le_refl _) hsz hlim (Or.inl rfl)
 change Calls Tryz.prog 210 _ _ _ at hp
 have hq:=Sort.pdq_sorts (ltOf pfc) pfc_swo l.toArray 0 l.toArray.size (Lib.bitLen l.toArray.size) true true (Nat.zero_le _) (Nat.le_refl _) (Or.inl rfl)
 generalize Sort.pdq (ltOf pfc) l.toArray 0 l.toArray.size (Lib.bitLen l.toArray.size) true true=d at hp hq
 have hl:Calls Tryz.prog 211 #[.int .u64 (l.length:Int)] w fun e w'=>e=.returned (.int .i64 (Lib.bitLen l.toArray.size:Nat))∧w'=w:=by
  have h:=Any.bits_Len Tryz.laysLen (l.length:Int) w (by omega) (by omega)
  rw [Int.toNat_natCast] at h
  change Calls Tryz.prog 211 _ _ _ at h
  simpa using h
 have hfin:∀ w',SWK pfe 4 w g 0 d w'→∃ d:List Pf,d.Perm l∧d.Pairwise (fun a b=>Tr.lt b.path a.path=false)∧HoldsK pfe 4 w' g 0 d.toArray∧w.grownBy w' (some g):=by
  rintro w' ⟨m,os,rfl⟩
  obtain ⟨⟨q1,_,q3⟩,q4⟩:=hq
  refine ⟨d.toList,?_,?_,?_,?_⟩
  ·have e1:d.extract 0 l.toArray.size=d:=by rw [← q1];simp
   have e2:l.toArray.extract 0 l.toArray.size=l.toArray:=by simp
   rw [e1,e2] at q3
   simpa using q3
  ·rw [List.pairwise_iff_getElem]
   intro i j hi hj hij
   have:=q4 i j (Nat.zero_le _) hij (by rw [← q1];simpa using hj)
   rw [pfc_lt] at this
   rw [getElem!_pos d j (by simpa using hj),getElem!_pos d i (by simpa using hi)] at this
   simpa using this
  ·have:=holdsK_sortWorldK_c pfe 4 w g 0 l.toArray d m os hH hg q1
   simpa using this
  ·refine ⟨rfl,rfl,rfl,by simp [sortWorldK,putRowK,Sort.putRow,Sort.mapBlock,Sort.ahead,Sort.grow],fun k hk hne=>?_⟩
   unfold sortWorldK
   rw [Sort.heap_grow_old _ _ (by simpa [putRowK,Sort.putRow,Sort.mapBlock,Sort.ahead] using hk)]
   have:g≠k:=fun e=>hne (by rw [e])
   simp [putRowK,Sort.putRow,Sort.mapBlock,Sort.ahead,Array.getElem?_modify,this]
 have Hfin:=Lib.hid hfin
 have wr:IntKind.u64.wrap (l.length:Int)=l.length:=by simp [IntKind.wrap,IntKind.bits,IntKind.signed];omega
 have e0:l.toArray.size=l.length:=by simp
 rw [e0] at hp
 generalize Lib.bitLen l.toArray.size=bl at hp hl
 clear hfin hq hH hlim hsz e0
 go_enter Tryz.func208,Tryz.ntmps208
 go_wp2_with (first | (go_at_call 211;refine hl.mono ?_;rintro e w' ⟨rfl,rfl⟩) | (go_at_call 210;refine Calls.mono hp ?_;rintro e w' ⟨rfl,hS⟩))
 go_end0
 exact ⟨rfl,Hfin.out _ hS⟩
end Go.Proofs.YtfmgnaigcibcaaaGreatDoor
