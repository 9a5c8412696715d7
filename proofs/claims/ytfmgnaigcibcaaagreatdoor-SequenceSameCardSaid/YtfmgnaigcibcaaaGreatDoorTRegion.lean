import Derived.StillTail
import Derived.Deep.Quiet
import Derived.BigQuiet
import Derived.Below
set_option linter.unusedSimpArgs false
set_option linter.unusedVariables false
namespace Go.Proofs.YtfmgnaigcibcaaaGreatDoor
open Go Go.RowKit
section
variable {P:Program} {ops:Array Oper} {md:Region.Mode} {C:World→Prop}
def HeadQ (P:Program) (md:Region.Mode) (ops:Array Oper) (C:World→Prop) (n:Nat) (L:Array Bool→Act→Prop):Nat→Array Bool→Act→Prop
 | 0,listed,a=>L listed a
 | f+1,listed,a=>Region.ready md ops listed≠[]∧∀ i∈Region.ready md ops listed,i < n∧qOp P ops C i (HeadQ P md ops C n L f (listed.setIfInBounds i true)) a
theorem any_of_headQ {n g:Nat} {L:Array Bool→Act→Prop} {Q:Exit→Act→World→Prop} (hL:∀ listed a w,C w→L listed a→wpAny P md ops Q g listed a w):
 ∀ (f:Nat) (listed:Array Bool) (a:Act) (w:World),C w→HeadQ P md ops C n L f listed a→wpAny P md ops Q (g+f) listed a w:=by
 intro f
 induction f with
 | zero=>intro listed a w hw h;exact hL _ _ _ hw h
 | succ f ih=>
   intro listed a w hw h
   exact ⟨fun h0=>(h.1 h0).elim,fun i hi=>wpOp_of_qOp hw (fun a' w' hw' h'=>ih _ a' w' hw' h') (h.2 i hi).2⟩
theorem headQ_only {n i:Nat} {listed:Array Bool} (hs:Region.sinkB md ops n=true) (hc:Region.chainB md ops n=true) (hn:n < ops.size) (inv:HeadInv md ops n listed)
 (hin:i < n) (hun:listed.getD i true=false) {j:Nat} (hj:j∈Region.ready md ops listed):j < n:=by
 refine Nat.lt_of_not_le fun h=>?_
 exact tail_waits hs hc hn inv _ i rfl hin hun j h hj
theorem headQ_first {n i:Nat} {oi:Oper} {v:Value} {L:Array Bool→Act→Prop} (hi:ops[i]?=some oi) (hsel:∀ (j:Nat) (o:Oper) cs b,ops[j]?=some o→o.op≠.select cs b)
 (hs:Region.sinkB md ops n=true) (hc:Region.chainB md ops n=true) (hn:n < ops.size) (hin:i < n)
 (hL:∀ listed a,L listed a→∀ j∈Region.ready md ops listed,n≤j) (f:Nat):
 ∀ (listed:Array Bool) (a:Act),HeadInv md ops n listed →
  (∀ j oj,ops[j]?=some oj→j≠i→listed.getD j true=false→(∀ e∈oj.after,Region.binds md e=true→e.on≠i)→oi.apart ops oj=true) →
  i∈Region.ready md ops listed→YieldsIn P ops C oi v a →
  HeadQ P md ops C n L f (listed.setIfInBounds i true) (a.put oi.dst v)→HeadQ P md ops C n L (f+1) listed a:=by
 induction f with
 | zero=>
   intro listed a inv _ hr hy H
   have only:=fun j (hj:j∈Region.ready md ops listed)=>headQ_only hs hc hn inv hin (mem_ready.1 hr).1 hj
   refine ⟨List.ne_nil_of_mem hr,fun j hj=>⟨only j hj,?_⟩⟩
   rcases Nat.decEq j i with hne | rfl
   ·have h1:=hL _ _ H j (ready_mono hj hne)
    have h2:=only j hj
    omega
   ·exact hy.qOp hi H
 | succ f ih=>
   intro listed a inv apart hr hy H
   have only:=fun j (hj:j∈Region.ready md ops listed)=>headQ_only hs hc hn inv hin (mem_ready.1 hr).1 hj
   refine ⟨List.ne_nil_of_mem hr,fun j hj=>⟨only j hj,?_⟩⟩
   rcases Nat.decEq j i with hne | rfl
   ·have hun:=(mem_ready.1 hr).1
    obtain ⟨hjun,oj,hoj,hall⟩:=mem_ready.1 hj
    have hnot:∀ e∈oj.after,Region.binds md e=true→e.on≠i:=by
     intro e he hb heq
     have h1:=hall e he hb
     rw [heq,getD_both hun] at h1
     cases h1
    have step:=qOp_put hoj (apart j oj hoj hne hjun hnot) (fun cs b=>hsel i oi cs b hi) (fun cs b=>hsel j oj cs b hoj) hy (H.2 j (ready_mono hj hne)).2
    refine qOp_mono (fun a' h3=>?_) step
    refine ih _ a' (inv.set hj (only j hj)) ?_ (ready_mono hr (Ne.symm hne)) h3.1 ?_
    ·intro k ok hk hki hku hkn
     refine apart k ok hk hki ?_ hkn
     rcases Nat.decEq j k with hjk | rfl
     ·rwa [getD_set_ne true hjk] at hku
     ·exact hjun
    ·rw [Array.setIfInBounds_comm _ _ hne]
     exact h3.2
   ·exact hy.qOp hi H
theorem headQ_lex {n g:Nat} {Q:Act→Prop} (hsel:Region.noSelect ops=true) (hs:Region.sinkB md ops n=true) (hc:Region.chainB md ops n=true) (hn:n < ops.size) (l:List Oper):
 ∀ (k:Nat) (listed:Array Bool) (a:Act),(∀ j,j < l.length→l[j]?=ops[k+j]?)→k+l.length=n→HeadInv md ops n listed →
 Region.lexHead md ops g l.length k listed=true→wpQuiet P ops C Q l a →
 HeadQ P md ops C n (fun listed' a'=>Region.seqB md ops g n listed'=true∧Q a') l.length listed a:=by
 induction l with
 | nil=>
   intro k listed a _ hk _ hB h
   obtain rfl:k=n:=by simpa using hk
   exact ⟨by simpa [Region.lexHead] using hB,h⟩
 | cons o l ih=>
   intro k listed a hl hk inv hB h
   have h0:ops[k]?=some o:=by simpa using (hl 0 (by simp)).symm
   simp only [List.length_cons] at hk
   simp only [List.length_cons,Region.lexHead,Bool.and_eq_true] at hB
   have hr:k∈Region.ready md ops listed:=by simpa using hB.1.1
   have hq:qOp P ops C k (wpQuiet P ops C Q l) a:=by unfold qOp;simp only [h0];exact h
   obtain ⟨v,hy,hK⟩:=yieldsIn_of_qOp h0 hq
   refine headQ_first h0 (Region.noSelect_spec hsel) hs hc hn (by omega) (fun _ _ hL=>seqB_ready hL.1) l.length listed a inv (Region.free_spec h0 hB.1.2) hr hy ?_
   refine ih (k+1) _ _ (fun j hj=>?_) (by omega) (inv.set hr (by omega)) hB.2 hK
   have:=hl (j+1) (by simp;omega)
   simpa [Nat.add_assoc,Nat.add_comm 1 j] using this
theorem wp_region_quiet_tail {id:Nat} {Q:Exit→Act→World→Prop} {a:Act} {w:World} {l:List Oper} (n:Nat) (C:World→Prop) (hm:P.follows .mixedOrders=true)
 (hB:Region.lexTailB .any l.toArray n=true) (hC:C { w with drawn:=w.drawn+1 })
 (h:wpQuiet P l.toArray C (fun a'=>∀ w',C w'→wpList P l.toArray Q (l.drop n) a' w') (l.take n) a):(Code.region id l.toArray true).wp P Q a w:=by
 simp only [Region.lexTailB,Bool.and_eq_true,decide_eq_true_eq] at hB
 obtain ⟨⟨⟨⟨hsel,hn⟩,hs⟩,hc⟩,hlex⟩:=hB
 have hnl:n < l.length:=by simpa using hn
 have htake:(l.take n).length=n:=by rw [List.length_take];omega
 have hdrop:(l.drop n).length=l.toArray.size - n:=by simp
 have inv0:HeadInv .any l.toArray n (Array.replicate l.toArray.size false):=by
  refine ⟨by simp,fun j oj _ hl=>?_,fun t _ ht=>getD_in (by simpa using ht) (getD_replicate_false _ _)⟩
  rw [getD_replicate_false] at hl
  cases hl
 have H:=headQ_lex (P:=P) (md:=.any) (C:=C) (g:=l.toArray.size - n) hsel hs hc hn (l.take n) 0 _ a
  (fun j hj=>by rw [htake] at hj;simp [hj]) (by simpa using htake) inv0 (by rw [htake];exact hlex) h
 refine wp_region_any hm ?_
 have key:=any_of_headQ (Q:=Q) (g:=l.toArray.size - n) (fun listed a' w' hw' hL=>by
  have:=wpAny_of_seq (md:=.any) (Q':=Q) (l.drop n) n listed a' w' (fun j=>by simp [List.getElem?_drop]) (by rw [hdrop];exact hL.1) (hL.2 w' hw')
  rwa [hdrop] at this) _ _ _ _ hC H
 rw [htake,show l.toArray.size - n+n=l.toArray.size by omega] at key
 exact key
theorem wp_region_quiet_all {id:Nat} {Q:Exit→Act→World→Prop} {a:Act} {w:World} {l:List Oper} (C:World→Prop) (hm:P.follows .mixedOrders=true)
 (hB:Region.lexB .any l.toArray=true) (hC:C { w with drawn:=w.drawn+1 })
 (h:wpQuiet P l.toArray C (fun a'=>∀ w',C w'→Q .normal a' w') l a):(Code.region id l.toArray true).wp P Q a w:=
 wp_region_quiet (C:=C) hm hB hC (by simpa using h)
end
def Ext (w w':World):Prop:=Below w.heap.size w w'
theorem Ext.refl (w:World):Ext w w:=Below.refl _ _
theorem Ext.drew (w:World):Ext w { w with drawn:=w.drawn+1 }:=(Below.refl _ w).drew
theorem Ext.trans {a b c:World} (h:Ext a b) (k:Ext b c):Ext a c:=Below.trans h (Below.mono k (Below.size h))
theorem Ext.cell {w w':World} (h:Ext w w') {p:Addr} (hp:p.block < w.heap.size):w'.cell? p=w.cell? p:=Below.cell h hp
theorem Ext.frozen {w w':World} (h:Ext w w') {p:Addr} (hp:p.block < w.heap.size):w'.frozen? p=w.frozen? p:=Below.frozen h hp
theorem Ext.alloc {w w':World} (h:Ext w w') (o:Obj):Ext w (w'.alloc o):=Below.alloc h (Below.size h) o
theorem Ext.setCell {w w':World} (h:Ext w w') {p:Addr} (hp:w.heap.size≤p.block) (u:Value):Ext w (w'.setCell p u):=Below.setCell h hp u
theorem Ext.drewN {w w':World} (h:Ext w w') (n:Nat):Ext w (w'.drewN n):=⟨h.os,h.tape,h.output,h.size,h.block⟩
theorem Ext.drew1 {w w':World} (h:Ext w w'):Ext w w'.drew:=⟨h.os,h.tape,h.output,h.size,h.block⟩
theorem Ext.size_le {w w':World} (h:Ext w w'):w.heap.size≤w'.heap.size:=h.size
theorem Ext.cellAt {w w':World} (h:Ext w w') (b:Nat) (hb:b < w.heap.size):∀ o,w'.cell? ⟨b,o,none⟩=w.cell? ⟨b,o,none⟩:=fun o=>h.cell (p:=⟨b,o,none⟩) hb
def Blk (w:World) (g:Nat) (t:TypeId) (cs:Array Value):Prop:=w.heap[g]?=some (.cells cs t (0,0))
section
variable {w w':World} {g:Nat} {t:TypeId} {cs:Array Value}
theorem Blk.lt (h:Blk w g t cs):g < w.heap.size:=(Array.getElem?_eq_some_iff.1 h).1
theorem Blk.ne (h:Blk w g t cs):g≠w.heap.size:=Nat.ne_of_lt h.lt
theorem Blk.cell (h:Blk w g t cs):∀ i,w.cell? ⟨g,i,none⟩=cs[i]?:=fun i=>by
 unfold Blk at h
 simp [World.cell?,h]
theorem Blk.frozen (h:Blk w g t cs):∀ i,w.frozen? ⟨g,i,none⟩=false:=fun i=>by
 unfold Blk at h
 simp [World.frozen?,h]
theorem Blk.new' (h:g=w.heap.size):Blk (w.alloc (.cells cs t)) g t cs:=by
 subst h
 show (w.heap.push _)[w.heap.size]?=_
 simp
theorem Blk.mk (h:w.heap[g]?=some (.cells cs t (0,0))):Blk w g t cs:=h
theorem Blk.eq (h:Blk w g t cs):w.heap[g]?=some (.cells cs t (0,0)):=h
theorem ne_two (n:Nat):(n=n+1+1)=False:=eq_false (by omega)
theorem ne_three (n:Nat):(n=n+1+1+1)=False:=eq_false (by omega)
theorem ne_two_left (n:Nat):(n+1+1=n)=False:=eq_false (by omega)
theorem ne_three_left (n:Nat):(n+1+1+1=n)=False:=eq_false (by omega)
theorem heap_drewN_at (n i:Nat):(w.drewN n).heap[i]?=w.heap[i]?:=rfl
theorem heap_drew_at (i:Nat):w.drew.heap[i]?=w.heap[i]?:=rfl
theorem heap_alloc_at (o:Obj) (i:Nat):(w.alloc o).heap[i]?=if i=w.heap.size then some o else w.heap[i]?:=by
 show (w.heap.push o)[i]?=_
 rw [Array.getElem?_push]
theorem heap_set_at (b k i:Nat) (v:Value):(w.setCell ⟨b,k,none⟩ v).heap[i]?=if i=b then (match w.heap[i]? with | some (.cells cs t fr)=>some (.cells (cs.setIfInBounds k v) t fr) | x=>x) else w.heap[i]?:=by
 by_cases h:i=b
 ·subst h
  rw [if_pos rfl]
  simp only [World.setCell,Array.getElem?_modify,if_true]
  cases w.heap[i]? with
  | none=>rfl
  | some o=>cases o <;> rfl
 ·rw [if_neg h]
  exact Below.heap_setCell w ⟨b,k,none⟩ v i h
theorem Blk.drew (h:Blk w g t cs):Blk w.drew g t cs:=h
theorem Blk.drewN (h:Blk w g t cs) (n:Nat):Blk (w.drewN n) g t cs:=h
theorem Blk.alloc (h:Blk w g t cs) (o:Obj):Blk (w.alloc o) g t cs:=(Below.heap_alloc w o g h.lt).trans h
theorem Blk.set_ (h:Blk w g t cs) (i:Nat) (u:Value):Blk (w.setCell ⟨g,i,none⟩ u) g t (cs.setIfInBounds i u):=by
 unfold Blk at h ⊢
 simp [World.setCell,Array.getElem?_modify,h]
theorem Blk.far (h:Blk w g t cs) {p:Addr} (hp:g≠p.block) (u:Value):Blk (w.setCell p u) g t cs:=(Below.heap_setCell w p u g hp).trans h
theorem Blk.ext (hx:Ext w w') (h:Blk w g t cs):Blk w' g t cs:=(Below.block hx g h.lt).trans h
end
theorem quiet_at {P:Program} {o:Oper} {a:Act} {C:World→Prop} {K:Act→Prop} {v:Value} (h1:∀ w,C w→Oper.quietUpon P C w v ((execOp a.eval o).run P w)) (h2:K (a.put o.dst v)):o.quiet P a C K:=⟨v,h1,h2⟩
theorem wp_region_ext {P:Program} {id:Nat} {Q:Exit→Act→World→Prop} {a:Act} {w:World} {l:List Oper} (hm:P.follows .mixedOrders=true)
 (hB:Region.lexB .any l.toArray=true) (h:wpQuiet P l.toArray (Ext w) (fun a'=>∀ w',Ext w w'→Q .normal a' w') l a):(Code.region id l.toArray true).wp P Q a w:=
 wp_region_quiet_all (Ext w) hm hB (Ext.drew w) h
theorem wp_region_ext_tail {P:Program} {id:Nat} {Q:Exit→Act→World→Prop} {a:Act} {w:World} {l:List Oper} (n:Nat) (hm:P.follows .mixedOrders=true)
 (hB:Region.lexTailB .any l.toArray n=true) (h:wpQuiet P l.toArray (Ext w) (fun a'=>∀ w',Ext w w'→wpList P l.toArray Q (l.drop n) a' w') (l.take n) a):(Code.region id l.toArray true).wp P Q a w:=
 wp_region_quiet_tail n (Ext w) hm hB (Ext.drew w) h
theorem quiet_call {P:Program} {f:FuncId} {args:Array Value} {w w':World} {v:Value} {R:Ending→World→Prop} (hw:Ext w w') (h:Calls P f args w' R) (hR:∀ e w'',R e w''→e=.returned v∧Ext w' w''):
 Calls P f args w' fun e w''=>e=.returned v∧Ext w w'':=h.mono fun e w'' hh=>⟨(hR e w'' hh).1,hw.trans (hR e w'' hh).2⟩
theorem Blk.all {w:World} {g:Nat} {t:TypeId} {cs:Array Value} (h:Blk w g t cs):(∀ i,w.cell? ⟨g,i,none⟩=cs[i]?)∧(∀ i,w.frozen? ⟨g,i,none⟩=false)∧g < w.heap.size:=⟨h.cell,h.frozen,h.lt⟩
theorem sA {l:List Value} {i:Nat} {a:Value}:l.toArray.setIfInBounds i a=(l.set i a).toArray:=by simp
theorem s0 {x y:Value} {l:List Value}:(x :: l).set 0 y=y :: l:=rfl
theorem sS {x y:Value} {l:List Value} {n:Nat}:(x :: l).set (n+1) y=x :: l.set n y:=rfl
theorem EX {a b:World} (h:Ext a b:=by (repeat (first | with_reducible (first | exact hx | exact Ext.refl _ | refine Ext.alloc ?_ _ | refine Ext.drewN ?_ _ | refine Ext.drew1 ?_) | ((with_reducible refine Ext.setCell ?_ ?_ _);rotate_left;(focus (first | (dsimp only;omega) | (simp;done) | (simp;omega))))))):Ext a b:=h
theorem BB {a b:World} (h:Ext a b) (k:Nat) (hk:k < a.heap.size:=by first | (simp;done) | (simp;omega) | omega):b.heap[k]?=a.heap[k]?:=Below.block h k hk
end Go.Proofs.YtfmgnaigcibcaaaGreatDoor
