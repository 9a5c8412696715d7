import Derived.Test.YtfmgnaigcibcaaaGreatDoorTTe
import Derived.Laws.StructEq
import Derived.Deep.QuietTactic
import Derived.BigQuiet
import Derived.Test.YtfmgnaigcibcaaaGreatDoorTTf
import Derived.Test.YtfmgnaigcibcaaaGreatDoorTO
import Derived.Test.YtfmgnaigcibcaaaGreatDoorTQe
set_option linter.unusedSimpArgs false
set_option linter.unusedVariables false
namespace Go.Proofs.YtfmgnaigcibcaaaGreatDoor
open Go Go.RowKit
theorem find_step {l:List Pf} {s:ByteArray} {k:Nat} {f:Pf} (hk:l[k]?=some f) (h:∀ (j:Nat) (g:Pf),j < k→l[j]?=some g→Qm.eqB g.path s=false) (he:Qm.eqB f.path s=false):∀ (j:Nat) (g:Pf),j < k+1→l[j]?=some g→Qm.eqB g.path s=false:=fun j g hj hg=>by
 rcases Nat.lt_succ_iff_lt_or_eq.1 hj with h1 | rfl
 ·exact h j g h1 hg
 ·rw [hk] at hg
  obtain rfl:=Option.some.inj hg
  exact he
theorem find_end {l:List Pf} {s:ByteArray} (h:∀ (j:Nat) (g:Pf),j < l.length→l[j]?=some g→Qm.eqB g.path s=false):Tr.find l s=none:=
 Tr.find_none_iff.2 fun f hf=>by
  obtain ⟨j,hj,e⟩:=List.mem_iff_getElem.1 hf
  exact h j f hj (by rw [List.getElem?_eq_getElem hj,e])
set_option maxHeartbeats 4000000 in
theorem rtfind_any (A:Option Addr) (n c:Nat) (s:ByteArray) (l:List Pf) (w:World) (h:Trs w A l) (hn:l.length=n) (hb:n≤10000000000000):
 Calls Tryz.prog 44 #[.slice A n c,.string s] w (Ret (Tr.found l s) w):=by
 have HQ:=Lib.hid h
 have HN:=Lib.hid hn
 clear h hn
 go_enter Tryz.func44,Tryz.ntmps44
 have hx:=Ext.refl w
 go_wp2
 go_loop [6] (fun i=>∃ k:Nat,k≤n∧i=.int .i64 k∧Hid (∀ (j:Nat) (g:Pf),j < k→l[j]?=some g→Qm.eqB g.path s=false)) (fun i=>n - (intOf i).toNat)
 case atStart=>exact ⟨0,Nat.zero_le _,rfl,Lib.hid (fun j g hj=>absurd hj (Nat.not_lt_zero j))⟩
 case round=>
  obtain ⟨k,hk,rfl,HB⟩:=hrel
  by_cases hlt:k < n
  ·have hkl:k < l.length:=by rw [HN.out];exact hlt
   have hf:l[k]?=some (l[k]'hkl):=List.getElem?_eq_getElem hkl
   generalize l[k]'hkl=f at hf
   obtain ⟨b,o,rfl,hbl,c0,c1,c2,c3⟩:=HQ.out.get hf
   have HF:=Lib.hid hf
   clear hf hkl
   cases he:Qm.eqB f.path s
   ·have he':(f.path.toList == s.toList)=false:=he
    have HB2:=Lib.hid (find_step HF.out HB.out he)
    clear he
    go_wp2
    go_round
    case rel=>exact ⟨k+1,by omega,rfl,HB2⟩
    case measure=>simp [intOf];omega
   ·have he':(f.path.toList == s.toList)=true:=he
    have HM:=Lib.hid (found_some (Tr.find_at HF.out HB.out he))
    clear he
    go_wp2
    refine bodyPost_ret (v:=.tuple #[f.v,.bool true]) ?_ rfl ?_
    ·simp only [results,Tryz.results44]
     go_simp
    ·exact ⟨by rw [HM.out],EX⟩
  ·have hkn:k=n:=by omega
   subst hkn
   have HM:=Lib.hid (found_none (find_end (l:=l) (s:=s) (by rw [HN.out];exact HB.out)))
   go_wp2
   refine bodyPost_ret (v:=.tuple #[Pf.zero.v,.bool false]) ?_ rfl ?_
   ·simp only [results,Tryz.results44]
    go_simp
    exact ⟨rfl,rfl,rfl,rfl⟩
   ·exact ⟨by rw [HM.out],EX⟩
def Pf.same (f g:Pf):Bool:=Qm.eqB f.path g.path && (f.ty == g.ty && (f.mode == g.mode && Qm.eqB f.data g.data))
theorem Pf.same_iff {f g:Pf}:f.same g=true ↔ f=g:=by
 unfold Pf.same
 simp only [Bool.and_eq_true,Qm.eqB_iff,beq_iff_eq]
 cases f;cases g
 simp [Pf.mk.injEq]
instance:DecidableEq Pf:=fun a b=>if h:a.same b=true then isTrue (Pf.same_iff.1 h) else isFalse (fun e=>h (Pf.same_iff.2 e))
theorem eqlIn_pf (f g:Pf) (w:World):(Op.equalIn 10000 61 f.v g.v).run Tryz.prog w=.ok (f.same g) w:=by
 have hS:Tryz.prog.underlying 61=some (.struct (Tryz.prog.fieldsOf 61)):=by kernel_rfl
 have hp:Tryz.prog.stoodInHeld 61=false:=by kernel_rfl
 have u3:=Tryz.underlying3
 have a3:=Tryz.isAgg3
 have z3:=Tryz.sizeOf3
 have u9:=Tryz.underlying9
 have a9:=Tryz.isAgg9
 have z9:=Tryz.sizeOf9
 rw [show (10000:Nat)=9999+1 from rfl,run_equalIn_agg w 9999 61 _ _ hS hp]
 simp only [Program.fieldsOf,Tryz.underlying61]
 unfold Pf.same Qm.eqB
 go_simp
 by_cases h0:f.path.toList=g.path.toList <;> by_cases h1:f.ty=g.ty <;> by_cases h2:f.mode=g.mode <;> by_cases h3:f.data.toList=g.data.toList <;> simp [h0,h1,h2,h3]
theorem eql_pf (f g:Pf) (w:World):(binOp .eql 61 f.v g.v).run Tryz.prog w=.ok (.bool (f.same g)) w∧(binOp .neq 61 f.v g.v).run Tryz.prog w=.ok (.bool (!f.same g)) w:=by
 have h:=eqlIn_pf f g w
 constructor
 ·rw [run_eql_struct,h]
  rfl
 ·rw [run_neq_struct,h]
  rfl
theorem guard_pf (op:BinOp) (x y:Operand) (xs ys:Array Value) (w:World):(eqGuard op 61 x y (.agg xs) (.agg ys)).run Tryz.prog w=.ok () w:=run_eqGuard_agg w op _ x y xs ys (by kernel_rfl)
theorem tree_step {l m:List Pf} {k:Nat} {f g:Pf} (hf:l[k]?=some f) (hg:m[k]?=some g) (h:l.take k=m.take k) (he:f=g):l.take (k+1)=m.take (k+1):=by
 rw [Tr.take_at hf,Tr.take_at hg,h,he]
set_option maxHeartbeats 4000000 in
set_option maxRecDepth 100000 in
theorem sametree_any (A B:Option Addr) (n m c d:Nat) (l1 l2:List Pf) (w:World) (h1:Trs w A l1) (h2:Trs w B l2) (hn:l1.length=n) (hm:l2.length=m) (b1:n≤10000000000000) (b2:m≤10000000000000):
 Calls Tryz.prog 16 #[.slice A n c,.slice B m d] w (Ret (.bool (decide (l1=l2))) w):=by
 by_cases hnm:n=m
 rotate_left
 ·have hv:decide (l1=l2)=false:=decide_eq_false (fun e=>hnm (by rw [← hn,← hm,e]))
  rw [hv]
  have hne:((n:Int) != m)=true:=by rw [bne_iff_ne];omega
  clear h1 h2 hn hm hv hnm
  go_enter Tryz.func16,Tryz.ntmps16
  have hx:=Ext.refl w
  go_wp2
  (go_ret;refine Ret.mk ?_ ?_;(focus (rfl;done));(focus (exact EX;done)))
 ·subst hnm
  have H1:=Lib.hid h1
  have H2:=Lib.hid h2
  have HN:=Lib.hid hn
  have HM:=Lib.hid hm
  clear h1 h2 hn hm
  go_enter Tryz.func16,Tryz.ntmps16
  have hx:=Ext.refl w
  go_wp2
  go_loopw [5] (fun i wr=>∃ k:Nat,k≤n∧i=.int .i64 k∧Hid (l1.take k=l2.take k)∧Hid (∃ q,wr=w.drewN q)) (fun i wr=>n - (intOf i).toNat)
  case atStart=>exact ⟨0,Nat.zero_le _,rfl,Lib.hid rfl,Lib.hid ⟨0,rfl⟩⟩
  case round=>
   obtain ⟨k,hk,rfl,HE,HW⟩:=hrel
   obtain ⟨q,rfl⟩:=HW.out
   have hx:Ext w (w.drewN q):=EX
   by_cases hlt:k < n
   ·have hk1:k < l1.length:=by rw [HN.out];exact hlt
    have hk2:k < l2.length:=by rw [HM.out];exact hlt
    have hf:l1[k]?=some (l1[k]'hk1):=List.getElem?_eq_getElem hk1
    have hg:l2[k]?=some (l2[k]'hk2):=List.getElem?_eq_getElem hk2
    generalize l1[k]'hk1=f at hf
    generalize l2[k]'hk2=g at hg
    obtain ⟨b,o,rfl,hbl,c0,c1,c2,c3⟩:=H1.out.get hf
    obtain ⟨b',o',rfl,hbl',d0,d1,d2,d3⟩:=H2.out.get hg
    have HF:=Lib.hid hf
    have HG:=Lib.hid hg
    have hq:=eqlIn_pf f g
    have hgu:=guard_pf
    clear hf hg hk1 hk2
    cases hs:f.same g
    ·have HS:=Lib.hid hs
     have HV:Hid (decide (l1=l2)=false):=Lib.hid (decide_eq_false (fun e=>by
      have h1:=HF.out
      rw [e,HG.out] at h1
      have h2:=Option.some.inj h1
      have h3:f.same g=true:=Pf.same_iff.2 h2.symm
      rw [HS.out] at h3
      cases h3))
     rw [hs] at hq
     clear hs
     go_wp2
     go_quiet (fail)
     go_wp2
     (go_ret;refine Ret.mk ?_ ?_;(focus (rw [HV.out];rfl;done));(focus (exact EX;done)))
    ·have HS:=Lib.hid hs
     have HE2:=Lib.hid (tree_step HF.out HG.out HE.out (Pf.same_iff.1 hs))
     rw [hs] at hq
     clear hs
     go_wp2
     go_quiet (fail)
     go_wp2
     go_roundw
     case rel=>exact ⟨k+1,by omega,rfl,HE2,Lib.hid ⟨_,rfl⟩⟩
     case measure=>simp [intOf];omega
   ·have hkn:k=n:=by omega
    subst hkn
    have HV:Hid (decide (l1=l2)=true):=Lib.hid (decide_eq_true (by
     have:=HE.out
     rwa [List.take_of_length_le (by rw [HN.out];exact Nat.le_refl _),List.take_of_length_le (by rw [HM.out];exact Nat.le_refl _)] at this))
    go_wp2
    (go_ret;refine Ret.mk ?_ ?_;(focus (rw [HV.out];rfl;done));(focus (exact EX;done)))
namespace Tr
def bulk:List Pf→Nat
 | []=>0
 | f :: r=>f.data.size+f.path.size+bulk r
theorem bulk_app (a b:List Pf):bulk (a ++ b)=bulk a+bulk b:=by
 induction a with
 | nil=>simp [bulk]
 | cons f a ih=>rw [List.cons_append,bulk,bulk,ih];omega
theorem bulk_take {l:List Pf} {k:Nat} {f:Pf} (h:l[k]?=some f):bulk (l.take (k+1))=bulk (l.take k)+f.data.size+f.path.size:=by
 rw [take_at h,bulk_app]
 simp [bulk]
 omega
theorem bulk_le {l:List Pf} {b:Nat} (h:∀ f∈l,f.path.size≤b∧f.data.size≤b):bulk l≤l.length * (2 * b):=by
 induction l with
 | nil=>simp [bulk]
 | cons f l ih=>
   have h1:=ih fun g hg=>h g (List.mem_cons_of_mem _ hg)
   have h2:=h f (List.mem_cons_self ..)
   rw [bulk,List.length_cons,Nat.add_mul]
   omega
def great (l:List Pf):Bool:=decide (12 < l.length) || decide (4000 < bulk l)
end Tr
set_option maxHeartbeats 4000000 in
set_option maxRecDepth 100000 in
theorem greattree_any (A:Option Addr) (n c:Nat) (l:List Pf) (w:World) (h:Trs w A l) (hn:l.length=n) (hb:n≤1000000000000000) (hz:∀ f∈l,f.path.size≤140737488355328∧f.data.size≤140737488355328):
 Calls Tryz.prog 11 #[.slice A n c] w (Ret (.bool (Tr.great l)) w):=by
 have HQ:=Lib.hid h
 have HN:=Lib.hid hn
 have HZ:=Lib.hid hz
 clear h hn hz
 by_cases h12:12 < n
 ·have HV:Hid (Tr.great l=true):=Lib.hid (by unfold Tr.great;rw [HN.out,decide_eq_true h12,Bool.true_or])
  rw [HV.out]
  go_enter Tryz.func11,Tryz.ntmps11
  have hx:=Ext.refl w
  go_wp2
  go_loopw [3,4] (fun x i wr=>∃ (k:Nat) (z:Int),k≤n∧i=.int .i64 k∧x=.int .i64 z∧Hid (∃ q,wr=w.drewN q)) (fun x i wr=>n - (intOf i).toNat)
  case atStart=>exact ⟨0,0,Nat.zero_le _,rfl,rfl,Lib.hid ⟨0,rfl⟩⟩
  case round=>
   obtain ⟨k,z,hk,rfl,rfl,HW⟩:=hrel
   obtain ⟨q,rfl⟩:=HW.out
   have hx:Ext w (w.drewN q):=EX
   by_cases hlt:k < n
   ·have hk1:k < l.length:=by rw [HN.out];exact hlt
    have hf:l[k]?=some (l[k]'hk1):=List.getElem?_eq_getElem hk1
    generalize l[k]'hk1=f at hf
    obtain ⟨b,o,rfl,hbl,c0,c1,c2,c3⟩:=HQ.out.get hf
    clear hf hk1
    go_wp2
    go_quiet (fail)
    go_wp2
    go_roundw
    case rel=>exact ⟨k+1,_,by omega,rfl,rfl,Lib.hid ⟨_,rfl⟩⟩
    case measure=>simp [intOf];omega
   ·have hkn:k=n:=by omega
    subst hkn
    go_wp2
    (go_ret;refine Ret.mk ?_ ?_;(focus (rfl;done));(focus (exact EX;done)))
 ·have hB:Tr.bulk l≤12 * (2 * 140737488355328):=by
   have h1:=Tr.bulk_le HZ.out
   have h2:l.length * (2 * 140737488355328)≤12 * (2 * 140737488355328):=Nat.mul_le_mul_right _ (by rw [HN.out];omega)
   exact Nat.le_trans h1 h2
  have hT:∀ k,Tr.bulk (l.take k)≤12 * (2 * 140737488355328):=fun k=>by
   have h1:Tr.bulk l=Tr.bulk (l.take k)+Tr.bulk (l.drop k):=by rw [← Tr.bulk_app,List.take_append_drop]
   omega
  have HT:=Lib.hid hT
  have HV:Hid (Tr.great l=decide (4000 < Tr.bulk l)):=Lib.hid (by unfold Tr.great;rw [HN.out,decide_eq_false h12,Bool.false_or])
  rw [HV.out]
  have h12':n≤12:=by omega
  have HB:=Lib.hid hB
  clear hT hB h12
  go_enter Tryz.func11,Tryz.ntmps11
  have hx:=Ext.refl w
  go_wp2
  go_loopw [3,4] (fun x i wr=>∃ k:Nat,k≤n∧i=.int .i64 k∧x=.int .i64 (Tr.bulk (l.take k))∧Hid (∃ q,wr=w.drewN q)) (fun x i wr=>n - (intOf i).toNat)
  case atStart=>exact ⟨0,Nat.zero_le _,rfl,rfl,Lib.hid ⟨0,rfl⟩⟩
  case round=>
   obtain ⟨k,hk,rfl,rfl,HW⟩:=hrel
   obtain ⟨q,rfl⟩:=HW.out
   have hx:Ext w (w.drewN q):=EX
   by_cases hlt:k < n
   ·have hk1:k < l.length:=by rw [HN.out];exact hlt
    have hf:l[k]?=some (l[k]'hk1):=List.getElem?_eq_getElem hk1
    obtain ⟨z1,z2⟩:=HZ.out _ (List.getElem_mem hk1)
    generalize l[k]'hk1=f at hf z1 z2
    obtain ⟨b,o,rfl,hbl,c0,c1,c2,c3⟩:=HQ.out.get hf
    have HX:Hid (((Tr.bulk (l.take k):Int)+f.data.size+f.path.size)=(Tr.bulk (l.take (k+1)):Nat)):=Lib.hid (by rw [Tr.bulk_take hf];omega)
    have ht:=HT.out k
    generalize Tr.bulk (l.take k)=S at ht HX
    have y1:IntKind.i64.wrap ((S:Int)+f.data.size)=(S:Int)+f.data.size:=IntWalk.i64_in _ (by omega)
    have y2:IntKind.i64.wrap ((S:Int)+f.data.size+f.path.size)=(S:Int)+f.data.size+f.path.size:=IntWalk.i64_in _ (by omega)
    clear hf hk1
    go_wp2
    go_quiet (fail)
    clear y1 y2
    go_wp2
    go_roundw
    case rel=>exact ⟨k+1,by omega,rfl,congrArg (Value.int .i64) HX.out,Lib.hid ⟨_,rfl⟩⟩
    case measure=>simp [intOf];omega
   ·have hkn:k=n:=by omega
    subst hkn
    have hB:=HB.out
    have HE:Hid (l.take k=l):=Lib.hid (List.take_of_length_le (by rw [HN.out];exact Nat.le_refl _))
    rw [HE.out]
    obtain ⟨S,hS⟩:∃ S,S=Tr.bulk l:=⟨_,rfl⟩
    rw [← hS] at hB ⊢
    have HS:=Lib.hid hS
    have hk12:¬ (12:Int) < (k:Int):=by omega
    clear hS
    go_wp2
    all_goals (go_ret;refine Ret.mk ?_ ?_;(focus (rw [← HS.out];simp [hk12];omega;done));(focus (exact EX;done)))
end Go.Proofs.YtfmgnaigcibcaaaGreatDoor
namespace Go.Proofs.YtfmgnaigcibcaaaGreatDoor
open Go Go.RowKit
theorem upon_method1 {P:Program} {o:Oper} {a:Act} {K:Act→World→Prop} {Q:Exit→Act→World→Prop} {k:Nat} {T:TypeId} {v u:Value} {name:String} {w:World} {f:FuncId} (h:(method k T v name).run P w=.ok (f,v) w)
 (hf:(callFunc f #[v,u]).run P w=.ok (.enter f #[v,u]) w) (hc:Oper.upon P o a K Q (.ok (.enter f #[v,u]) w)):Oper.upon P o a K Q (((method k T v name).run P w).andThen fun a w'=>(callFunc a.fst #[a.snd,u]).run P w'):=by
 rw [h]
 show Oper.upon P o a K Q ((callFunc f #[v,u]).run P w)
 rw [hf]
 exact hc
theorem check_mv {q:Qp} (h:q.check=0) (hK:q.kind=5):Qm.isPath q.path=true∧Qm.isPath q.to_=true∧¬ Pa.wi (Pa.L q.to_) (Pa.L q.path)∧¬ Pa.wi (Pa.L q.path) (Pa.L q.to_):=by
 obtain ⟨_,_,hp,_⟩:=check_parts h
 obtain ⟨p1,p2⟩:=path_ok hp
 obtain ⟨m1,m2⟩:=check_move h hK
 exact ⟨p1,p2 hK,m2,m1⟩
set_option maxHeartbeats 4000000 in
set_option maxRecDepth 100000 in
theorem apply_badtree (p:Pv) (A:Option Addr) (n c:Nat) (l:List Pf) (w:World) (h:Trs w A l) (hn:l.length=n) (hb:n≤10000000000000) (hg:Glob w) (hc:Tr.checkTree l≠0):
 Calls Tryz.prog 14 #[.slice A n c,p.v] w (GivesT ([],Tr.checkTree l) w):=by
 have HC:=Lib.hid (fun W (hW:Ext w W)=>checktree_any A n c l W (h.ext hW) hn hb (hg.ext hW))
 have hc':(Tr.checkTree l != 0)=true:=by simpa using hc
 clear h hn hg hc
 generalize Tr.checkTree l=r at *
 go_enter Tryz.func14,Tryz.ntmps14
 have hx:=Ext.refl w
 go_wp2_with (go_at_call 39;refine (HC.out _ EX).mono ?_;rintro e w1 ⟨rfl,hx0⟩;have hy:=Ext.trans (a:=w) EX hx0;clear hx;have hx:=hy;clear hy hx0)
 go_ret2
 exact GivesT.none EX
set_option maxHeartbeats 4000000 in
set_option maxRecDepth 100000 in
theorem apply_badpatch (p:Pv) (q:Qp) (A:Option Addr) (n c:Nat) (l:List Pf) (w:World) (h:Trs w A l) (hn:l.length=n) (hb:n≤10000000000000) (hg:Glob w) {F:Nat→Prop} (hq:Is w F p q)
 (b1:q.old.length≤1152921504606846976) (b2:q.new.length≤1152921504606846976) (b3:q.path.size≤1152921504606846976) (b4:q.to_.size≤1152921504606846976) (hc:Tr.checkTree l=0) (hc2:q.check≠0):
 Calls Tryz.prog 14 #[.slice A n c,p.v] w (GivesT ([],q.check) w):=by
 have HC:Hid (∀ W,Ext w W→Calls Tryz.prog 39 #[.slice A n c] W (Ret (.int .i64 0) W)):=Lib.hid (fun W hW=>by
  have:=checktree_any A n c l W (h.ext hW) hn hb (hg.ext hW)
  rwa [hc] at this)
 have HK:=Lib.hid (fun W (hW:Ext w W)=>check_q p q W (hg.ext hW) (hq.ext hW) b1 b2 b3 b4)
 have hc':(q.check != 0)=true:=by simpa using hc2
 clear h hn hg hc hc2 hq
 generalize q.check=r at *
 go_enter Tryz.func14,Tryz.ntmps14
 have hx:=Ext.refl w
 go_wp2_with (first
  | (go_at_call 39;refine (HC.out _ EX).mono ?_;rintro e w1 ⟨rfl,hx0⟩;have hy:=Ext.trans (a:=w) EX hx0;clear hx;have hx:=hy;clear hy;have hn0:=BB hx0 (w.heap.size);(first | simp [↓heap_drew_at,↓heap_drewN_at,↓heap_alloc_at,↓heap_set_at,ne_two,ne_three,ne_two_left,ne_three_left,↓hb0.eq,hb0.lt,hb0.ne] at hn0 | simp [↓heap_drew_at,↓heap_drewN_at,↓heap_alloc_at,↓heap_set_at,ne_two,ne_three,ne_two_left,ne_three_left] at hn0);(try clear hb0 hc0 hf0 hl0);have hb0:=Blk.mk hn0;clear hn0;obtain ⟨hc0,hf0,hl0⟩:=hb0.all;(try clear hx0))
  | (go_at_call 38;refine (HK.out _ EX).mono ?_;rintro e w1 ⟨rfl,hx0⟩;have hy:=Ext.trans (a:=w) EX hx0;clear hx;have hx:=hy;clear hy;have hn0:=BB hx0 (w.heap.size);(first | simp [↓heap_drew_at,↓heap_drewN_at,↓heap_alloc_at,↓heap_set_at,ne_two,ne_three,ne_two_left,ne_three_left,↓hb0.eq,hb0.lt,hb0.ne] at hn0 | simp [↓heap_drew_at,↓heap_drewN_at,↓heap_alloc_at,↓heap_set_at,ne_two,ne_three,ne_two_left,ne_three_left] at hn0);(try clear hb0 hc0 hf0 hl0);have hb0:=Blk.mk hn0;clear hn0;obtain ⟨hc0,hf0,hl0⟩:=hb0.all;(try clear hx0)))
 go_ret2
 exact GivesT.none EX
set_option maxHeartbeats 4000000 in
set_option maxRecDepth 100000 in
theorem apply_mov (p:Pv) (q:Qp) (A:Option Addr) (n c:Nat) (l:List Pf) (w:World) (h:Trs w A l) (hn:l.length=n) (hg:Glob w) {F:Nat→Prop} (hq:Is w F p q)
 (b1:q.old.length≤1152921504606846976) (b2:q.new.length≤1152921504606846976) (hc:Tr.checkTree l=0) (hc2:q.check=0) (hK:q.kind=5):
 Calls Tryz.prog 14 #[.slice A n c,p.v] w (GivesT (Tr.move l q.path q.to_) w):=by
 have hgood:=Tr.good_iff.1 hc
 have hb:n≤200:=by rw [← hn];exact hgood.len
 obtain ⟨p1,p2,n1,n2⟩:=check_mv hc2 hK
 have sz:∀ s:ByteArray,Qm.isPath s=true→s.size≤200:=fun s hs=>by
  rw [isPath_pieces,Bool.and_eq_true] at hs
  exact of_decide_eq_true hs.1
 have z1:=sz _ p1
 have z2:=sz _ p2
 have HC:Hid (∀ W,Ext w W→Calls Tryz.prog 39 #[.slice A n c] W (Ret (.int .i64 0) W)):=Lib.hid (fun W hW=>by
  have:=checktree_any A n c l W (h.ext hW) hn (by omega) (hg.ext hW)
  rwa [hc] at this)
 have HK:Hid (∀ W,Ext w W→Calls Tryz.prog 38 #[p.v] W (Ret (.int .i64 0) W)):=Lib.hid (fun W hW=>by
  have:=check_q p q W (hg.ext hW) (hq.ext hW) b1 b2 (by omega) (by omega)
  rwa [hc2] at this)
 obtain ⟨A1,c1,A2,c2,rfl,_⟩:=hq
 have HM:=Lib.hid (fun W (hW:Ext w W)=>mapply_any (q.pv A1 c1 A2 c2) A n c l W (h.ext hW) hn hgood p1 p2 n1 n2)
 have ha:(q.pv A1 c1 A2 c2).act=.iface 105 (q.pv A1 c1 A2 c2).v:=by rw [Pv.act,if_neg (by dsimp only;omega),if_neg (by dsimp only;omega),if_pos hK]
 have Ha:=Lib.hid ha
 clear h hn hg hc hc2 ha hK p1 p2 n1 n2 sz z1 z2 hgood b1 b2
 have HM:Hid (∀ W,Ext w W→Calls Tryz.prog 205 #[(q.pv A1 c1 A2 c2).v,.slice A n c] W (GivesT (Tr.move l q.path q.to_) W)):=HM
 generalize hp:q.pv A1 c1 A2 c2=p at *
 clear hp
 generalize Tr.move l q.path q.to_=r at *
 go_enter Tryz.func14,Tryz.ntmps14
 have hx:=Ext.refl w
 go_wp2_with (first
  | (go_at_call 39;refine (HC.out _ EX).mono ?_;rintro e w1 ⟨rfl,hx0⟩;have hy:=Ext.trans (a:=w) EX hx0;clear hx;have hx:=hy;clear hy;have hn0:=BB hx0 (w.heap.size);(first | simp [↓heap_drew_at,↓heap_drewN_at,↓heap_alloc_at,↓heap_set_at,ne_two,ne_three,ne_two_left,ne_three_left,↓hb0.eq,hb0.lt,hb0.ne] at hn0 | simp [↓heap_drew_at,↓heap_drewN_at,↓heap_alloc_at,↓heap_set_at,ne_two,ne_three,ne_two_left,ne_three_left] at hn0);(try clear hb0 hc0 hf0 hl0);have hb0:=Blk.mk hn0;clear hn0;obtain ⟨hc0,hf0,hl0⟩:=hb0.all;(try clear hx0))
  | (go_at_call 38;refine (HK.out _ EX).mono ?_;rintro e w2 ⟨rfl,hx0⟩;have hy:=Ext.trans (a:=w) EX hx0;clear hx;have hx:=hy;clear hy;have hn0:=BB hx0 (w.heap.size);(first | simp [↓heap_drew_at,↓heap_drewN_at,↓heap_alloc_at,↓heap_set_at,ne_two,ne_three,ne_two_left,ne_three_left,↓hb0.eq,hb0.lt,hb0.ne] at hn0 | simp [↓heap_drew_at,↓heap_drewN_at,↓heap_alloc_at,↓heap_set_at,ne_two,ne_three,ne_two_left,ne_three_left] at hn0);(try clear hb0 hc0 hf0 hl0);have hb0:=Blk.mk hn0;clear hn0;obtain ⟨hc0,hf0,hl0⟩:=hb0.all;(try clear hx0))
  | (go_at_call 40;refine (action_any p _).mono ?_;rintro e w3 ⟨rfl,hx0⟩;rw [Ha.out];have hy:=Ext.trans (a:=w) EX hx0;clear hx;have hx:=hy;clear hy;have hn0:=BB hx0 (w.heap.size);(first | simp [↓heap_drew_at,↓heap_drewN_at,↓heap_alloc_at,↓heap_set_at,ne_two,ne_three,ne_two_left,ne_three_left,↓hb0.eq,hb0.lt,hb0.ne] at hn0 | simp [↓heap_drew_at,↓heap_drewN_at,↓heap_alloc_at,↓heap_set_at,ne_two,ne_three,ne_two_left,ne_three_left] at hn0);(try clear hb0 hc0 hf0 hl0);have hb0:=Blk.mk hn0;clear hn0;obtain ⟨hc0,hf0,hl0⟩:=hb0.all;(try clear hx0)))
 refine upon_method1 (f:=205) (by kernel_rfl) (by kernel_rfl) ?_
 rw [Oper.upon_enter]
 have HX3:=Lib.hid hx
 refine (HM.out _ EX).mono ?_
 rintro e w4 ⟨B,m,d,rfl,hm,hT,hx4⟩
 have HX:=Lib.hid (Ext.trans (a:=w) EX hx4)
 have Hm:=Lib.hid hm
 clear hx hx4 hm hb0 hc0 hf0 hl0
 go_wp2_with fail
 go_ret2
 exact ⟨_,_,_,rfl,Hm.out,Lib.hid ⟨hT.out.1,fun a ha=>Nat.le_trans HX3.out.size_le (hT.out.2 a ha)⟩,HX.out⟩
end Go.Proofs.YtfmgnaigcibcaaaGreatDoor
namespace Go.Proofs.YtfmgnaigcibcaaaGreatDoor
open Go Go.RowKit
def mvq (a b:ByteArray):Qp:={ Qp.zero with kind:=5,path:=a,to_:=b }
def awF:Pf:=⟨⟨#[97]⟩,1,420,⟨#[120,10]⟩⟩
def awD:Pf:=⟨⟨#[100]⟩,4,0,⟨#[]⟩⟩
def awG:Pf:=⟨⟨#[100,47,98]⟩,1,420,⟨#[120,10]⟩⟩
theorem aw_tree:Tr.checkTree [awF,awD]=0:=by kernel_rfl
theorem aw_one:(mvq ⟨#[97]⟩ ⟨#[100,47,98]⟩).check=0:=by kernel_rfl
theorem aw_two:(mvq ⟨#[97]⟩ ⟨#[100]⟩).check=0:=by kernel_rfl
theorem aw_three:(mvq ⟨#[100]⟩ ⟨#[100,47,101]⟩).check=20:=by kernel_rfl
theorem aw_move:Tr.move [awF,awD] ⟨#[97]⟩ ⟨#[100,47,98]⟩=([awD,awG],0):=by kernel_rfl
theorem aw_exists:Tr.move [awF,awD] ⟨#[97]⟩ ⟨#[100]⟩=([],6):=by kernel_rfl
theorem Blk.trs {W:World} {g:Nat} {t:TypeId} {l:List Pf} (h:Blk W g t (fl l).toArray):Trs W (some ⟨g,0,none⟩) l:=fun _=>by
 refine ⟨g,0,rfl,h.lt,fun j v hv=>?_⟩
 rw [h.cell,List.getElem?_toArray,Nat.zero_add,hv]
theorem Trs.far {W:World} {A:Option Addr} {l:List Pf} (h:Trs W A l) {g k:Nat} (hp:∀ a,A=some a→a.block≠g) (v:Value):Trs (W.setCell ⟨g,k,none⟩ v) A l:=fun h0=>by
 obtain ⟨b,o,hA,hb,hr⟩:=h h0
 refine ⟨b,o,hA,by simpa using hb,fun j u hu=>?_⟩
 rw [← hr j u hu]
 exact World.cell?_of_block (Below.heap_setCell W ⟨g,k,none⟩ v b (hp _ hA))
theorem mvq_is (w:World) (a b:ByteArray):Is w (fun _=>True) ((mvq a b).pv none 0 none 0) (mvq a b):=Is.none _ _ _ rfl rfl
set_option maxHeartbeats 8000000 in
set_option maxRecDepth 100000 in
theorem awake12_any (w:World) (hg:Glob w):Calls Tryz.prog 13 #[] w (Ret (.bool true) w):=by
 have HA1:=Lib.hid (fun W g (hW:Ext w W) (hB:Blk W g 61 (fl [awF,awD]).toArray)=>by
  have:=apply_mov ((mvq ⟨#[97]⟩ ⟨#[100,47,98]⟩).pv none 0 none 0) _ (some ⟨g,0,none⟩) 2 2 [awF,awD] W hB.trs rfl (hg.ext hW) (mvq_is W _ _) (Nat.zero_le _) (Nat.zero_le _) aw_tree aw_one rfl
  rw [show (mvq ⟨#[97]⟩ ⟨#[100,47,98]⟩).path=⟨#[97]⟩ from rfl,show (mvq ⟨#[97]⟩ ⟨#[100,47,98]⟩).to_=⟨#[100,47,98]⟩ from rfl,aw_move] at this
  exact this)
 have HA2:=Lib.hid (fun W g (hW:Ext w W) (hB:Blk W g 61 (fl [awF,awD]).toArray)=>by
  have:=apply_mov ((mvq ⟨#[97]⟩ ⟨#[100]⟩).pv none 0 none 0) _ (some ⟨g,0,none⟩) 2 2 [awF,awD] W hB.trs rfl (hg.ext hW) (mvq_is W _ _) (Nat.zero_le _) (Nat.zero_le _) aw_tree aw_two rfl
  rw [show (mvq ⟨#[97]⟩ ⟨#[100]⟩).path=⟨#[97]⟩ from rfl,show (mvq ⟨#[97]⟩ ⟨#[100]⟩).to_=⟨#[100]⟩ from rfl,aw_exists] at this
  exact this)
 have HCk:=Lib.hid (fun W (hW:Ext w W)=>by
  have:=check_q ((mvq ⟨#[100]⟩ ⟨#[100,47,101]⟩).pv none 0 none 0) _ W (hg.ext hW) (mvq_is W _ _) (Nat.zero_le _) (Nat.zero_le _) (by decide) (by decide)
  rw [aw_three] at this
  exact this)
 clear hg
 go_enter Tryz.func13,Tryz.ntmps13
 have hx:=Ext.refl w
 go_wp2_with fail
 have HX0:=Lib.hid (EX:Ext w (((w.alloc (.cells awF.arr 61)).alloc (.cells awD.arr 61)).alloc (.cells (fl [awF,awD]).toArray 61)))
 refine (HA1.out _ _ EX (Blk.new' (by simp))).mono ?_
 rintro e w1 ⟨B,m,d,rfl,hm,hT,hx0⟩
 have hm2:m=2:=hm
 subst hm2
 have HB:Hid (∀ a,B=some a→a.block≠w.heap.size):=Lib.hid (fun a ha=>by
  have h1:=hT.out.2 a ha
  have h2:=HX0.out.size_le
  simp at h1
  omega)
 have HT:Hid (Trs w1 B [awD,awG]):=Lib.hid hT.out.1
 clear hm hT
 have hy:=Ext.trans (a:=w) EX hx0;clear hx;have hx:=hy;clear hy;have hn0:=BB hx0 (w.heap.size);have hn1:=BB hx0 (w.heap.size+1);(first | simp [↓heap_drew_at,↓heap_drewN_at,↓heap_alloc_at,↓heap_set_at,ne_two,ne_three,ne_two_left,ne_three_left,↓hb0.eq,hb0.lt,hb0.ne,↓hb1.eq,hb1.lt,hb1.ne] at hn0 hn1 | simp [↓heap_drew_at,↓heap_drewN_at,↓heap_alloc_at,↓heap_set_at,ne_two,ne_three,ne_two_left,ne_three_left] at hn0 hn1);(try clear hb0 hc0 hf0 hl0);(try clear hb1 hc1 hf1 hl1);have hb0:=Blk.mk hn0;clear hn0;obtain ⟨hc0,hf0,hl0⟩:=hb0.all;have hb1:=Blk.mk hn1;clear hn1;obtain ⟨hc1,hf1,hl1⟩:=hb1.all;(try clear hx0)
 go_wp2_with fail
 refine (HA2.out _ _ EX (Blk.new' (by simp))).mono ?_
 rintro e w2 ⟨B2,m2,d2,rfl,hm2,_,hx0⟩
 have HT2:Hid (Trs w2 B [awD,awG]):=Lib.hid (HT.out.ext (((Ext.refl w1).alloc _).trans hx0))
 clear hm2 HT
 have hy:=Ext.trans (a:=w) EX hx0;clear hx;have hx:=hy;clear hy;have hn0:=BB hx0 (w.heap.size);have hn1:=BB hx0 (w.heap.size+1);(first | simp [↓heap_drew_at,↓heap_drewN_at,↓heap_alloc_at,↓heap_set_at,ne_two,ne_three,ne_two_left,ne_three_left,↓hb0.eq,hb0.lt,hb0.ne,↓hb1.eq,hb1.lt,hb1.ne] at hn0 hn1 | simp [↓heap_drew_at,↓heap_drewN_at,↓heap_alloc_at,↓heap_set_at,ne_two,ne_three,ne_two_left,ne_three_left] at hn0 hn1);(try clear hb0 hc0 hf0 hl0);(try clear hb1 hc1 hf1 hl1);have hb0:=Blk.mk hn0;clear hn0;obtain ⟨hc0,hf0,hl0⟩:=hb0.all;have hb1:=Blk.mk hn1;clear hn1;obtain ⟨hc1,hf1,hl1⟩:=hb1.all;(try clear hx0)
 go_wp2_with fail
 have HS:=Lib.hid (sametree_any B (some ⟨w2.heap.size,0,none⟩) 2 2 d 2 [awD,awG] [awD,awG] ((w2.setCell ⟨w.heap.size,0,none⟩ (.string ⟨#[100,47,98]⟩)).alloc (.cells (fl [awD,awG]).toArray 61)) ((HT2.out.far HB.out _).ext ((Ext.refl _).alloc _)) (Blk.trs (Blk.new' (by simp))) rfl rfl (by omega) (by omega))
 rw [show decide ([awD,awG]=[awD,awG])=true from decide_eq_true rfl] at HS
 refine HS.out.mono ?_
 rintro e w3 ⟨rfl,hx0⟩
 have hy:=Ext.trans (a:=w) EX hx0
 clear hx hx0 hb0 hc0 hf0 hl0 hb1 hc1 hf1 hl1 HS HT2
 have hx:=hy
 clear hy
 go_wp2_with fail
 refine (HCk.out _ EX).mono ?_
 rintro e w4 ⟨rfl,hx0⟩
 have hy:=Ext.trans (a:=w) EX hx0
 clear hx hx0
 have hx:=hy
 clear hy
 go_wp2_with fail
 (go_ret;refine Ret.mk ?_ ?_;(focus (rfl;done));(focus (exact EX;done)))
end Go.Proofs.YtfmgnaigcibcaaaGreatDoor
