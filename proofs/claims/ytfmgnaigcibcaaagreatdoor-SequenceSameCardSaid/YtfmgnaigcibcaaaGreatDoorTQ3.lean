import Derived.RangeFuncBox
import Derived.RangeFuncCalls
import Derived.RangeFuncFrom
import Derived.TacticsIn
import Derived.OrdersIn
import Derived.Deep.RegionHeld3
import Derived.Test.YtfmgnaigcibcaaaGreatDoorTBase
import Derived.Test.YtfmgnaigcibcaaaGreatDoorShelf
import Derived.Test.YtfmgnaigcibcaaaGreatDoorTModel
import Derived.RangeFuncNested
import Derived.RangeFuncBound
import Derived.RangeFuncLeaves
import Derived.Shelf.Abstract
import Derived.Shelf.RegionOpen
import Derived.OwnWalkIn
import Derived.TacticsInMore
import Derived.LoopNIn
import Derived.LoopIn
import Derived.Maps.AppendAt
import Derived.Lib.AppendZerosOnto
import Derived.Laws.AppendOwnNone
import Derived.OwnWalk
set_option linter.unusedSimpArgs false
set_option linter.unusedVariables false
namespace Go.Proofs.YtfmgnaigcibcaaaGreatDoor
open Go Go.RowKit
variable {P:Program}
def GivesAll {α:Type} (P:Program) (n:Nat) (gf:Nat) (lb:Array Value) (encs:α→Array Value) (bS:Nat) (t:TypeId) (v0:Value) (xs:List α):Prop:=
 ∀ (l:Nat) (I:List α→World→Prop) (W:World),(∀ pre W v,I pre W→I pre (W.setCell ⟨bS,0,none⟩ v)) →
  (∀ pre x W,(∃ rest,pre ++ x :: rest=xs)→I pre W→YieldAt Fence.wide (n - 1) P l (encs x) W fun e W'=>e=.returned (.bool true)∧I (pre ++ [x]) W'∧∀ v,Boxed W bS t v→Boxed W' bS t v) →
  I [] W→Boxed W bS t v0 →
  CallsIn Fence.wide n P gf (#[.func (.yield l) #[] #[]] ++ lb) W fun e W'=>(∃ v,e=.returned v)∧I xs W'
def goesOn {α:Type} (J:List α→World→Prop) (bS:Nat) (t:TypeId) (xs:List α) (W:World):Exit→Act→World→Prop
 | .normal,_,W'=>KeepsOthers W W'∧J xs W'∧∀ v,Boxed W bS t v→Boxed W' bS t v
 | _,_,_=>False
theorem wpIn_range_all {α:Type} {g:Operand} {ps:Array Tmp} {assign body:Code} {Q:Exit→Act→World→Prop} {a:Act} {w:World} {n:Nat}
 {gf:Nat} {lb:Array Value} (hg:a.eval g=.func (.func gf) #[] lb) (eg:∀ args w,(callFunc gf args).run P w=.ok (.enter gf args) w)
 {encs:α→Array Value} {bS:Nat} {t:TypeId} {v0:Value} {xs:List α} (hseq:GivesAll P (n - 1) gf lb encs bS t v0 xs) (hps:∀ x,(encs x).size=ps.size)
 (J:List α→World→Prop) (hJ:OwnFrom w.heap.size J) (hJs:∀ pre W v,J pre W→J pre (W.setCell ⟨bS,0,none⟩ v)) (h0:J [] w) (hbox:Boxed w bS t v0) (a₁:α→Act)
 (hassign:∀ (l:Nat) (x:α) (W:World) (K:Act→World→Prop),K (a₁ x) W →
   assign.wpIn (Fence.wide.inRound l) (n - 1 - 1) P (Exit.then K (fun _ _ _=>False)) { tmps:=(ps.zip (encs x)).foldl (fun t (p,v)=>t.setIfInBounds p v) a.tmps,defers:=[] } W)
 (hbody:∀ (l:Nat) (pre:List α) (x:α) (W:World),(∃ rest,pre ++ x :: rest=xs)→J pre W→body.wpIn (Fence.wide.inRound l) (n - 1 - 1) P (goesOn J bS t (pre ++ [x]) W) (a₁ x) W)
 (hdone:∀ (D:Nat) (W:World),w.heap.size≤D→J xs W→W.heap[D]?=some (.deferred (some []))→Q .normal { a with defers:={ target:=.collected D,args:=#[] } :: a.defers } W):
 (Code.rangeFunc g ps assign body).wpIn Fence.wide n P Q a w:=by
 refine wpIn_rangeFunc fun fn hfn=>?_
 let rec_:LoopState→Option Code→Loop:=fun st pe=>{ state:=st,pending:=pe,fn:=fn,tmps:=a.tmps,params:=ps,assign:=assign,body:=body,defers:=w.heap.size }
 let W1:World:=(w.alloc (.deferred (some []))).alloc (.loop (rec_ .ready none))
 have hL1:W1.heap[w.heap.size+1]?=some (.loop (rec_ .ready none)):=by
  have:=World.alloc_heap_new (w.alloc (.deferred (some []))) (.loop (rec_ .ready none));rwa [World.size_alloc] at this
 have hD1:W1.heap[w.heap.size]?=some (.deferred (some [])):=(Below.heap_alloc _ _ _ (by simp)).trans (World.alloc_heap_new w _)
 refine ⟨w.heap.size+1,[{ target:=.collected w.heap.size,args:=#[] }],W1,{ target:=.fn (.func gf) lb,args:=#[.func (.yield (w.heap.size+1)) #[] #[]] },W1,gf,
  #[.func (.yield (w.heap.size+1)) #[] #[]] ++ lb,W1,run_enterLoop_outer _ _ _ _ _,?_,fun f' hf'=>trivial,?_,fun h=>(by cases h),?_⟩
 ·simp only [resolve,hg]
  simp [go_sem]
 ·simp [invoke,go_sem,eg]
 ·refine (hseq (w.heap.size+1) (fun pre W=>J pre W∧W.heap[w.heap.size+1]?=some (.loop (rec_ .ready none))∧W.heap[w.heap.size]?=some (.deferred (some []))) W1 ?_ ?_
   ⟨hJ.alloc _ (hJ.alloc _ h0),hL1,hD1⟩ ((hbox.alloc _).alloc _)).mono ?_
  ·rintro pre W v ⟨h1,h2,h3⟩
   have hk:=KeepsOthers.setCell W ⟨bS,0,none⟩ v
   exact ⟨hJs pre W v h1,hk.same _ _ h2 rfl,hk.same _ _ h3 rfl⟩
  ·rintro pre x W hpre ⟨hi,hl,hd⟩
   have hlt:w.heap.size+1 < W.heap.size:=(Array.getElem?_eq_some_iff.1 hl).1
   have hy:=run_yield (P:=P) (args:=encs x) hl (hps x)
   refine ⟨fn,_,assign,body,hy,roundIn_of_wpIn hfn (hassign _ x W _ ⟨_,run_beginRound hl rfl,?_⟩)⟩
   have hl2:(W.putObj (w.heap.size+1) (.loop { rec_ .ready none with state:=.busy })).heap[w.heap.size+1]?=some (.loop { rec_ .ready none with state:=.busy }):=World.putObj_heap_same hlt
   have hd2:(W.putObj (w.heap.size+1) (.loop { rec_ .ready none with state:=.busy })).heap[w.heap.size]?=some (.deferred (some [])):=(World.putObj_heap_other (by omega)).trans hd
   have hbx:∀ {o:Obj} {W₀:World} {v:Value},W₀.heap[w.heap.size+1]?=some o→o.isCells=false→Boxed W₀ bS t v→∀ o',Boxed (W₀.putObj (w.heap.size+1) o') bS t v:=by
    intro o W₀ v ho hc hb o'
    refine (World.putObj_heap_other fun e=>?_).trans hb
    have hb':W₀.heap[bS]?=_:=hb
    rw [e,ho] at hb'
    cases hb'
    cases hc
   refine wpIn_mono (hbody _ pre x _ hpre (hJ.putObj _ hi (by omega) hl rfl)) ?_
   rintro e a3 W3 hp
   cases e with
   | normal=>
     obtain ⟨hk3,hj3,hb3⟩:=hp
     have hl3:=hk3.same _ _ hl2 rfl
     refine ⟨_,_,run_endRound (P:=P) none hl3,rfl,⟨hJ.putObj _ hj3 (by omega) hl3 rfl,World.putObj_heap_same (Array.getElem?_eq_some_iff.1 hl3).1,(World.putObj_heap_other (by omega)).trans (hk3.same _ _ hd2 rfl)⟩,fun v hv=>?_⟩
     exact hbx hl3 rfl (hb3 v (hbx hl rfl hv _)) _
   | ret=>exact hp.elim
   | exit id=>exact hp.elim
   | goto t=>exact hp.elim
   | panic ch=>exact hp.elim
   | outgrown=>exact hp.elim
  ·rintro e W2 ⟨⟨v,rfl⟩,hi,hl,hd⟩
   refine ⟨none,_,run_endLoop (P:=P) hl (by simp [rec_]),?_⟩
   exact hdone _ _ (Nat.le_refl _) (hJ.putObj _ hi (by omega) hl rfl) ((World.putObj_heap_other (by omega)).trans hd)
theorem wpIn_range_one {α:Type} {g:Operand} {p:Tmp} (k:Tmp) {assign body:Code} {Q:Exit→Act→World→Prop} {a:Act} {w:World} {n:Nat}
 {gf:Nat} {lb:Array Value} (hg:a.eval g=.func (.func gf) #[] lb) (eg:∀ args w,(callFunc gf args).run P w=.ok (.enter gf args) w)
 {enc:α→Value} {bS:Nat} {t:TypeId} {v0:Value} {xs:List α} (hseq:GivesAll P (n - 1) gf lb (fun x=>#[enc x]) bS t v0 xs)
 (J:List α→World→Prop) (hJ:OwnFrom w.heap.size J) (hJs:∀ pre W v,J pre W→J pre (W.setCell ⟨bS,0,none⟩ v)) (h0:J [] w) (hbox:Boxed w bS t v0)
 (hassign:∀ (l:Nat) (x:α) (W:World) (K:Act→World→Prop),K { tmps:=(a.tmps.setIfInBounds p (enc x)).setIfInBounds k (enc x),defers:=[] } W →
   assign.wpIn (Fence.wide.inRound l) (n - 1 - 1) P (Exit.then K (fun _ _ _=>False)) { tmps:=a.tmps.setIfInBounds p (enc x),defers:=[] } W)
 (hbody:∀ (l:Nat) (pre:List α) (x:α) (W:World),(∃ rest,pre ++ x :: rest=xs)→J pre W→body.wpIn (Fence.wide.inRound l) (n - 1 - 1) P (goesOn J bS t (pre ++ [x]) W) { tmps:=(a.tmps.setIfInBounds p (enc x)).setIfInBounds k (enc x),defers:=[] } W)
 (hdone:∀ (D:Nat) (W:World),w.heap.size≤D→J xs W→W.heap[D]?=some (.deferred (some []))→Q .normal { a with defers:={ target:=.collected D,args:=#[] } :: a.defers } W):
 (Code.rangeFunc g #[p] assign body).wpIn Fence.wide n P Q a w:=
 wpIn_range_all hg eg hseq (fun _=>rfl) J hJ hJs h0 hbox (fun x=>{ tmps:=(a.tmps.setIfInBounds p (enc x)).setIfInBounds k (enc x),defers:=[] })
  (fun l x W K hK=>by simpa using hassign l x W K hK) hbody hdone
end Go.Proofs.YtfmgnaigcibcaaaGreatDoor
namespace Go.Proofs.YtfmgnaigcibcaaaGreatDoor
open Go Go.RowKit
variable {P:Program}
def Rounds {α:Type} (P:Program) (n:Nat) (gf:Nat) (lb:Array Value) (encs:α→Array Value) (I:Nat→World→Prop) (Y J:Nat→α→World→Prop) (X:World→Prop) (N:Nat):Prop:=
 ∀ (l:Nat) (T Tx:World→Prop) (W:World),(∀ A B,KeepsOthers A B→T A→T B)→(∀ A B,KeepsOthers A B→Tx A→Tx B) →
  (∀ k x W1,Y k x W1→T W1→YieldAt Fence.wide (n - 1) P l (encs x) W1 fun e W'=>(e=.returned (.bool true)∧J k x W'∧T W')∨(e=.returned (.bool false)∧X W'∧Tx W')) →
  I 0 W→T W →
  CallsIn Fence.wide n P gf (#[.func (.yield l) #[] #[]] ++ lb) W fun e W'=>(∃ v,e=.returned v)∧((I N W'∧T W')∨(X W'∧Tx W'))
def Steady (B:Nat) (I:World→Prop):Prop:=
 ∀ (W W':World) (row:Option Nat),I W→W.grownBy W' row→(∀ r,row=some r→B≤r∧∃ o:Obj,W.heap[r]?=some o∧o.isCells=false)→I W'
theorem Steady.alloc {B:Nat} {I:World→Prop} (h:Steady B I) {W:World} (o:Obj) (hi:I W):I (W.alloc o):=h W _ none hi (World.grownBy_alloc W o none) (fun r e=>nomatch e)
theorem Steady.putObj {B:Nat} {I:World→Prop} (h:Steady B I) {W:World} {D:Nat} {o:Obj} (o':Obj) (hi:I W) (hD:B≤D) (ho:W.heap[D]?=some o) (hc:o.isCells=false):I (W.putObj D o'):=
 h W _ (some D) hi (grownBy_putObj' W D o') (fun r e=>by cases e;exact ⟨hD,o,ho,hc⟩)
section
variable {ops:Array Oper} {Q:Exit→Act→World→Prop}
theorem wpIn_of_wp {o:Oper} {a:Act} {w:World} {K:Act→World→Prop} {l n:Nat} (hd:∀ c,o.op≠.defer c) (h:o.wp P a w K Q):o.wpIn (Fence.wide.inRound l) n P a w K Q:=by
 refine ⟨fun _ _=>trivial,?_⟩
 rw [show (Fence.wide.inRound l).round=some l from rfl,Oper.semAt_some _ _ _ hd]
 unfold Oper.wp at h
 generalize (execOp a.eval o).run P w=r at h ⊢
 cases r with
 | ok x w'=>
   cases x
   case value v=>exact h
   case skip=>exact h
   case defer d=>exact h
   case enter f args=>exact ⟨(nomatch ·),CallsIn.inRound l (callsIn_wide.2 h)⟩
   case row r args=>exact ⟨(nomatch ·),fun c cs _=>(by
    obtain ⟨v,w',hr,hs⟩:=h c cs
    exact ⟨v,w',hr,stepsIn_wide.2 hs⟩)⟩
   all_goals exact (h:False).elim
 | halt x w'=>cases x <;> exact h
theorem wpOpIn_of_wpOp {i:Nat} {K K':Act→World→Prop} {a:Act} {w:World} {l n:Nat} (hd:∀ o,ops[i]?=some o→∀ c,o.op≠.defer c) (hQ:¬ LetsOut Q) (hK:∀ a w,K a w→K' a w) (h:wpOp P ops Q i K a w):wpOpIn (Fence.wide.inRound l) n P ops Q i K' a w:=by
 unfold wpOp at h
 unfold wpOpIn
 cases ho:ops[i]? with
 | none=>
   rw [ho] at h
   exact hK _ _ h
 | some o=>
   rw [ho] at h
   dsimp only at h ⊢
   split
   ·rename_i hw
    rw [if_pos hw] at h
    rcases h with h | ⟨_,h⟩
    ·exact Oper.wpIn_mono hK (wpIn_of_wp (hd o ho) h)
    ·exact (hQ h).elim
   ·rename_i hw
    rw [if_neg hw] at h
    exact ⟨fun _ _=>trivial,hK _ _ h⟩
theorem wpAnyIn_of_wpAny {md:Region.Mode} {l n:Nat} (hd:∀ (i:Nat) (o:Oper),ops[i]?=some o→∀ c,o.op≠.defer c) (hQ:¬ LetsOut Q):∀ (fuel:Nat) (listed:Array Bool) (a:Act) (w:World),wpAny P md ops Q fuel listed a w→wpAnyIn (Fence.wide.inRound l) n P md ops Q fuel listed a w
 | 0,_,_,_,h=>h
 | fuel+1,_,_,_,h=>⟨h.1,fun i hi=>wpOpIn_of_wpOp (hd i) hQ (fun a w h=>wpAnyIn_of_wpAny hd hQ fuel _ a w h) (h.2 i hi)⟩
theorem wpIn_region_held {id:Nat} {l n:Nat} {S:World→Prop} {a:Act} {w:World} (hm:P.follows .mixedOrders=true) (hd:∀ (i:Nat) (o:Oper),ops[i]?=some o→∀ c,o.op≠.defer c) (hQ:¬ LetsOut Q) (hS:S w.drew)
 (h:S w.drew→wpAnyH P .any ops (NoPanic Q) S ops.size (Array.replicate ops.size false) a w.drew):(Code.region id ops true).wpIn (Fence.wide.inRound l) n P Q a w:=
 wpIn_mono (Q:=NoPanic Q) (wpIn_region_any hm (wpAnyIn_of_wpAny (Q:=NoPanic Q) hd (fun h=>hQ (let ⟨a,w,h⟩:=h;⟨a,w,h⟩)) _ _ _ _ (wpAny_of_held _ _ _ _ (h hS)))) NoPanic.imp
end
def noDefer (ops:Array Oper):Bool:=ops.all fun o=>match o.op with | .defer _=>false | _=>true
theorem noDefer_spec {ops:Array Oper} (h:noDefer ops=true):∀ (i:Nat) (o:Oper),ops[i]?=some o→∀ c,o.op≠.defer c:=fun i o hi c e=>by
 have:=Array.all_eq_true_iff_forall_mem.1 h o (Array.mem_of_getElem? hi)
 rw [e] at this
 cases this
def leaves {α:Type} (J:Nat→α→World→Prop) (X:World→Prop) (k:Nat) (x:α) (W:World):Exit→Act→World→Prop
 | .normal,_,W'=>KeepsOthers W W'∧J k x W'
 | .ret,_,W'=>KeepsOthers W W'∧X W'
 | _,_,_=>False
theorem wpIn_range_leave {α:Type} {g:Operand} {ps:Array Tmp} {assign body:Code} {Q:Exit→Act→World→Prop} {a:Act} {w:World} {n:Nat}
 {gf:Nat} {lb:Array Value} (hg:a.eval g=.func (.func gf) #[] lb) (eg:∀ args w,(callFunc gf args).run P w=.ok (.enter gf args) w)
 {encs:α→Array Value} {I:Nat→World→Prop} {Y J:Nat→α→World→Prop} {X:World→Prop} {N:Nat} (hseq:Rounds P (n - 1) gf lb encs I Y J X N) (hps:∀ x,(encs x).size=ps.size)
 (A:Nat→α→Act→World→Prop)
 (hI:∀ k,Steady w.heap.size (I k)) (hA:∀ k x a',Steady w.heap.size (A k x a')) (hJ:∀ k x,Steady w.heap.size (J k x)) (hX:Steady w.heap.size X) (h0:I 0 w)
 (hassign:∀ (l k:Nat) (x:α) (W:World) (K:Act→World→Prop),Y k x W→(∀ a' W',KeepsOthers W W'→A k x a' W'→K a' W') →
   assign.wpIn (Fence.wide.inRound l) (n - 1 - 1) P (Exit.then K (fun _ _ _=>False)) { tmps:=(ps.zip (encs x)).foldl (fun t (p,v)=>t.setIfInBounds p v) a.tmps,defers:=[] } W)
 (hbody:∀ (l k:Nat) (x:α) (a':Act) (W:World),A k x a' W→body.wpIn (Fence.wide.inRound l) (n - 1 - 1) P (leaves J X k x W) a' W)
 (hdone:∀ (D:Nat) (W:World),w.heap.size≤D→I N W→W.heap[D]?=some (.deferred (some []))→Q .normal { a with defers:={ target:=.collected D,args:=#[] } :: a.defers } W)
 (hstop:∀ (D:Nat) (W:World),w.heap.size≤D→X W→W.heap[D]?=some (.deferred (some []))→Code.ret.wpIn Fence.wide n P Q { a with defers:={ target:=.collected D,args:=#[] } :: a.defers } W):
 (Code.rangeFunc g ps assign body).wpIn Fence.wide n P Q a w:=by
 refine wpIn_rangeFunc fun fn hfn=>?_
 let rec_:LoopState→Option Code→Loop:=fun st pe=>{ state:=st,pending:=pe,fn:=fn,tmps:=a.tmps,params:=ps,assign:=assign,body:=body,defers:=w.heap.size }
 let W1:World:=(w.alloc (.deferred (some []))).alloc (.loop (rec_ .ready none))
 have hL1:W1.heap[w.heap.size+1]?=some (.loop (rec_ .ready none)):=by
  have:=World.alloc_heap_new (w.alloc (.deferred (some []))) (.loop (rec_ .ready none));rwa [World.size_alloc] at this
 have hD1:W1.heap[w.heap.size]?=some (.deferred (some [])):=(Below.heap_alloc _ _ _ (by simp)).trans (World.alloc_heap_new w _)
 refine ⟨w.heap.size+1,[{ target:=.collected w.heap.size,args:=#[] }],W1,{ target:=.fn (.func gf) lb,args:=#[.func (.yield (w.heap.size+1)) #[] #[]] },W1,gf,
  #[.func (.yield (w.heap.size+1)) #[] #[]] ++ lb,W1,run_enterLoop_outer _ _ _ _ _,?_,fun f' hf'=>trivial,?_,fun h=>(by cases h),?_⟩
 ·simp only [resolve,hg]
  simp [go_sem]
 ·simp [invoke,go_sem,eg]
 ·refine (hseq (w.heap.size+1) (fun W=>W.heap[w.heap.size+1]?=some (.loop (rec_ .ready none))∧W.heap[w.heap.size]?=some (.deferred (some [])))
   (fun W=>W.heap[w.heap.size+1]?=some (.loop (rec_ .done (some .ret)))∧W.heap[w.heap.size]?=some (.deferred (some []))) W1
   (fun A B hk h=>⟨hk.same _ _ h.1 rfl,hk.same _ _ h.2 rfl⟩) (fun A B hk h=>⟨hk.same _ _ h.1 rfl,hk.same _ _ h.2 rfl⟩) ?_ ((hI 0).alloc _ ((hI 0).alloc _ h0)) ⟨hL1,hD1⟩).mono ?_
  ·rintro k x W0 hy0 ⟨hl0,hd0⟩
   have hy:=run_yield (P:=P) (args:=encs x) hl0 (hps x)
   refine ⟨fn,_,assign,body,hy,roundIn_of_wpIn hfn (hassign _ k x W0 _ hy0 fun a' W hkw hax=>⟨_,run_beginRound (hkw.same _ _ hl0 rfl) rfl,?_⟩)⟩
   have hl:=hkw.same _ _ hl0 rfl
   have hd:=hkw.same _ _ hd0 rfl
   have hlt:w.heap.size+1 < W.heap.size:=(Array.getElem?_eq_some_iff.1 hl).1
   have hl2:(W.putObj (w.heap.size+1) (.loop { rec_ .ready none with state:=.busy })).heap[w.heap.size+1]?=some (.loop { rec_ .ready none with state:=.busy }):=World.putObj_heap_same hlt
   have hd2:(W.putObj (w.heap.size+1) (.loop { rec_ .ready none with state:=.busy })).heap[w.heap.size]?=some (.deferred (some [])):=(World.putObj_heap_other (by omega)).trans hd
   refine wpIn_mono (hbody _ k x a' _ ((hA k x a').putObj _ hax (by omega) hl rfl)) ?_
   rintro e a3 W3 hp
   cases e with
   | normal=>
     obtain ⟨hk3,hj3⟩:=hp
     have hl3:=hk3.same _ _ hl2 rfl
     exact ⟨_,_,run_endRound (P:=P) none hl3,.inl ⟨rfl,(hJ k x).putObj _ hj3 (by omega) hl3 rfl,World.putObj_heap_same (Array.getElem?_eq_some_iff.1 hl3).1,(World.putObj_heap_other (by omega)).trans (hk3.same _ _ hd2 rfl)⟩⟩
   | ret=>
     obtain ⟨hk3,hj3⟩:=hp
     have hl3:=hk3.same _ _ hl2 rfl
     exact ⟨_,_,run_endRound (P:=P) (some .ret) hl3,.inr ⟨rfl,hX.putObj _ hj3 (by omega) hl3 rfl,World.putObj_heap_same (Array.getElem?_eq_some_iff.1 hl3).1,(World.putObj_heap_other (by omega)).trans (hk3.same _ _ hd2 rfl)⟩⟩
   | exit id=>exact hp.elim
   | goto t=>exact hp.elim
   | panic ch=>exact hp.elim
   | outgrown=>exact hp.elim
  ·rintro e W2 ⟨⟨v,rfl⟩,(⟨hi,hl,hd⟩ | ⟨hi,hl,hd⟩)⟩
   ·exact ⟨none,_,run_endLoop (P:=P) hl (by simp [rec_]),hdone _ _ (Nat.le_refl _) ((hI N).putObj _ hi (by omega) hl rfl) ((World.putObj_heap_other (by omega)).trans hd)⟩
   ·exact ⟨some .ret,_,run_endLoop (P:=P) hl (by simp [rec_]),hstop _ _ (Nat.le_refl _) (hX.putObj _ hi (by omega) hl rfl) ((World.putObj_heap_other (by omega)).trans hd)⟩
end Go.Proofs.YtfmgnaigcibcaaaGreatDoor
namespace Go.Proofs.YtfmgnaigcibcaaaGreatDoor
open Go.RowKit Go.Shelf
attribute [local go_sem] Oper.semAt_some
def boxSize (b:Nat) (w:World):Nat:=match w.cell? ⟨b,0,none⟩ with | some (.string s)=>s.size | _=>0
theorem boxSize_eq {W:World} {b:Nat} {s:ByteArray} (h:Boxed W b 9 (.string s)):boxSize b W=s.size:=by
 unfold boxSize;rw [h.cell]
set_option maxHeartbeats 2000000 in
theorem each1_gives (n:Nat) (bS:Nat) (s:ByteArray) (hn:3≤n) (hs:s.size≤1152921504606846976):
 GivesAll Tryz.prog n 159 #[.pointer (some ⟨bS,0,none⟩)] (fun x=>#[.string x]) bS 9 (.string s) (Qm.linesOf s):=by
 intro l I W hIs hY h0 hb
 refine callsIn_of_wp Tryz.func159 rfl trivial ?_ rfl
 simp only [Tryz.ntmps159,List.size_toArray,List.length_cons,List.length_nil,Nat.reduceAdd,Nat.reduceSub,Array.replicate_succ,Array.replicate_zero,List.push_toArray,List.append_toArray,List.nil_append,List.cons_append]
 gi_wp2
 gi_loopw [3] (fun _ wr=>∃ (cur:ByteArray) (pre:List ByteArray),Boxed wr bS 9 (.string cur)∧cur.size≤s.size∧I pre wr∧pre ++ Qm.linesOf cur=Qm.linesOf s)
  (fun _ wr=>boxSize bS wr)
 case atStart=>exact ⟨s,[],hb,Nat.le_refl _,h0,rfl⟩
 case round=>
  obtain ⟨cur,pre,hbx,hsz,hI,heq⟩:=hrel
  have Heq:=Lib.hid heq;clear heq
  have hc:=hbx.cell
  have hf:=hbx.frozen
  have hi1:=Qm.indexByte_lt cur.data.toList 10
  have hl1:cur.data.toList.length=cur.size:=rfl
  rw [hl1] at hi1
  clear hl1
  by_cases hneg:Lib.indexByte cur.data.toList 10 < 0
  ·have hln:=Qm.linesOf_none hneg
   have hfin:pre=Qm.linesOf s:=by have :=Heq.out;rwa [hln,List.append_nil] at this
   have Hfin:=Lib.hid hfin
   clear hln hfin
   gi_wp2_with (refine ⟨trivial,fun _=>(by omega),?_⟩;gi_at_call 149;refine (callsIn_wide.2 (Tryz.strings_IndexByte _ _ _)).mono ?_;rintro e w1 ⟨rfl,rfl⟩)
   refine ⟨fun _ h=>(by cases h),?_⟩
   gi_wp2
   refine bodyPost_ret (results_none rfl _ _ _) rfl ?_
   exact ⟨⟨_,rfl⟩,by rw [← Hfin.out];exact hI⟩
  ·obtain ⟨i,hi⟩:=Int.eq_ofNat_of_zero_le (Int.not_lt.1 hneg)
   have hls:=Qm.linesOf_some hi
   have Hls:=Lib.hid hls
   have Hi:=Lib.hid hi
   rw [hi] at hi1
   have hi2:i < cur.size:=by omega
   have hi3:(i:Int)≤cur.size:=by omega
   have hi4:((i:Int)+1)≤cur.size:=by omega
   have hi5:i+1≤cur.size:=by omega
   have hib:Lib.indexByte cur.data.toList (10:Int).toNat.toUInt8=i:=hi
   clear hls hi hneg
   obtain ⟨fn,tmps,assign,body,hy,hR⟩:=hY pre (cur.extract 0 i) wr ⟨_,by have :=Heq.out;rwa [Hls.out] at this⟩ hI
   gi_wp2_with (refine ⟨trivial,fun _=>(by omega),?_⟩;gi_at_call 149;refine (callsIn_wide.2 (Tryz.strings_IndexByte _ _ _)).mono ?_;rintro e w1 ⟨rfl,rfl⟩;rw [hib])
   refine ⟨fun _=>(by omega),hR.mono ?_⟩
   rintro e W3 ⟨rfl,hI3,hB3⟩
   have hb3:=hB3 _ hbx
   have hc3:=hb3.cell
   have hf3:=hb3.frozen
   gi_wp2
   go_roundw
   case rel=>
    refine ⟨cur.extract (i+1) cur.size,pre ++ [cur.extract 0 i],hb3.set _,?_,hIs _ _ _ hI3,?_⟩
    ·rw [ByteArray.size_extract];omega
    ·have:=Heq.out;rw [Hls.out] at this;rw [List.append_assoc];exact this
   case measure=>
    rw [boxSize_eq (hb3.set _),boxSize_eq hbx,ByteArray.size_extract];omega
set_option maxHeartbeats 400000 in
theorem each_any (s:ByteArray) (w:World):
 Calls Tryz.prog 151 #[.string s] w fun e w'=>e=.returned (.func (.func 159) #[] #[.pointer (some ⟨w.heap.size,0,none⟩)])∧w.alloc (.cells #[.string s] 9)=w':=by
 go_enter Tryz.func151,Tryz.ntmps151
 go_wp2
 go_ret
 exact ⟨rfl,rfl⟩
set_option maxHeartbeats 1000000 in
theorem split_bad (s:ByteArray) (w:World) (hbad:65536 < s.size∨(0≤Lib.indexByte s.data.toList 0∨(Qm.eqB s ⟨#[]⟩=false∧Lib.hasSuffix s.data.toList [10]=false))):
 Calls Tryz.prog 141 #[.string s] w (Ret (.tuple #[.slice none 0 0,.int .i64 (Qm.splitErr s)]) w):=by
 by_cases h1:65536 < s.size
 ·have hm:Qm.splitErr s=4:=by simp [Qm.splitErr,h1]
  rw [hm]
  clear hbad hm
  go_enter Tryz.func141,Tryz.ntmps141
  have hx:=Ext.refl w
  go_wp2
  (go_ret2;refine Ret.mk ?_ ?_;(focus (rfl;done));(focus (exact EX;done)))
 ·have h2:=hbad.resolve_left h1
  have hm:Qm.splitErr s=3:=by simp [Qm.splitErr,h1,h2]
  rw [hm]
  clear hbad hm
  cases h3:decide (Lib.indexByte s.data.toList 0 < 0)
  ·have h4:¬ Lib.indexByte s.data.toList 0 < 0:=by simpa using h3
   clear h3 h2
   go_enter Tryz.func141,Tryz.ntmps141
   have hx:=Ext.refl w
   go_wp2_with (go_at_call 149;refine (Tryz.strings_IndexByte _ _ _).mono ?_;rintro e w1 ⟨rfl,rfl⟩)
   (go_ret2;refine Ret.mk ?_ ?_;(focus (rfl;done));(focus (exact EX;done)))
  ·have h5:Lib.indexByte s.data.toList 0 < 0:=by simpa using h3
   have h6:=h2.resolve_left (by omega)
   obtain ⟨h7,h8⟩:=h6
   have h9:¬ s.toList=[]:=by
    intro e
    have:Qm.eqB s ⟨#[]⟩=true:=Qm.eqB_iff.2 (Qm.toList_inj (by rw [e,ByteArray.toList_eq]))
    rw [h7] at this
    cases this
   have h10:s.toList.isEmpty=false:=by simpa using h9
   clear h3 h2 h7 h9
   go_enter Tryz.func141,Tryz.ntmps141
   have hx:=Ext.refl w
   go_wp2_with (first | (go_at_call 149;refine (Tryz.strings_IndexByte _ _ _).mono ?_;rintro e w1 ⟨rfl,rfl⟩) | (go_at_call 150;refine (Tryz.strings_HasSuffix _ _ _ (by omega)).mono ?_;rintro e w1 ⟨rfl,rfl⟩))
   (go_ret2;refine Ret.mk ?_ ?_;(focus (rfl;done));(focus (exact EX;done)))
end Go.Proofs.YtfmgnaigcibcaaaGreatDoor
namespace Go.Proofs.YtfmgnaigcibcaaaGreatDoor
open Go.RowKit Go.Shelf
attribute [local go_sem] Oper.semAt_some
theorem Tryz.infoStr:(Tryz.prog.info? 9).map (fun i=>(i.zero,i.size,i.bytes))=some (some (.string ⟨#[]⟩),1,16):=by kernel_rfl
theorem row_ge {W:World} {base e size n g:Nat} {v:Value} {xs:List Value} (h:W.ownsRow base e size v n xs) (hg:v.ownBlock=some g):base≤g:=by
 rcases h.2 with ⟨rfl,_⟩ | ⟨g',cap,cur,rfl,hb,_⟩
 ·simp [Value.ownBlock] at hg
 ·obtain rfl:g'=g:=by simpa [Value.ownBlock] using hg
  exact hb
theorem row_ne {W:World} {base e size n b:Nat} {v:Value} {xs:List Value} (h:W.ownsRow base e size v n xs) (hb:b < base):some b≠v.ownBlock:=fun e'=>by
 have:=row_ge h e'.symm
 omega
def SplitInv (w:World) (pre:List ByteArray) (W:World):Prop:=
 (∃ v,Boxed W w.heap.size 24 v∧W.ownsRow (w.heap.size+1+1+1) 9 1 v pre.length (pre.map Value.string)∧True)∧Boxed W (w.heap.size+1) 4 (.bool (Qm.longLine pre))∧Ext w W∧w.heap.size+1+1+1≤W.heap.size
theorem splitInv_own (w:World) (B:Nat) (hB:w.heap.size≤B):OwnFrom B (SplitInv w):=
 ((holdsRow_own (w.heap.size+1+1+1) w.heap.size 24 9 1 (fun pre:List ByteArray=>pre.length) (fun pre=>pre.map Value.string) (fun _ _=>True)).from B).and
   (((boxed_own (w.heap.size+1) 4 (fun pre:List ByteArray=>Value.bool (Qm.longLine pre))).from B).and (fun s W W' row hs hg hr=>⟨Below.grown hs.1 hg (Below.size hs.1) (fun k e=>Nat.le_trans hB (hr k e).1),Nat.le_trans hs.2 hg.size⟩))
theorem splitInv_set {w W:World} {pre:List ByteArray} (h:SplitInv w pre W) (u:Value):SplitInv w pre (W.setCell ⟨w.heap.size+1+1,0,none⟩ u):=by
 obtain ⟨⟨v',hv,hr,_⟩,hl,hx,hz⟩:=h
 exact ⟨⟨v',hv.other (by omega) u,ownsRow_setCell_below hr (by simp) u,trivial⟩,hl.other (by omega) u,hx.setCell (by simp;omega) u,by simpa using hz⟩
theorem split_app {w W w1:World} {v v' bl:Value} {pre:List ByteArray} {x:ByteArray} {tmp:Obj} (hv:Boxed W w.heap.size 24 v) (hr:W.ownsRow (w.heap.size+1+1+1) 9 1 v pre.length (pre.map Value.string))
 (hl:Boxed W (w.heap.size+1) 4 bl) (hx:Ext w W) (hz:w.heap.size+1+1+1≤W.heap.size) (hown:w1.ownsRow (w.heap.size+1+1+1) 9 1 v' (pre.length+1) (pre.map Value.string ++ [.string x])) (hg:(W.alloc tmp).grownBy w1 v.ownBlock):
 Boxed w1 w.heap.size 24 v ∧
 (∃ v'',Boxed (w1.setCell ⟨w.heap.size,0,none⟩ v') w.heap.size 24 v''∧(w1.setCell ⟨w.heap.size,0,none⟩ v').ownsRow (w.heap.size+1+1+1) 9 1 v'' (pre ++ [x]).length ((pre ++ [x]).map Value.string)∧True) ∧
 Boxed (w1.setCell ⟨w.heap.size,0,none⟩ v') (w.heap.size+1) 4 bl∧(Ext w (w1.setCell ⟨w.heap.size,0,none⟩ v')∧w.heap.size+1+1+1≤(w1.setCell ⟨w.heap.size,0,none⟩ v').heap.size)∧KeepsOthers W (w1.setCell ⟨w.heap.size,0,none⟩ v') ∧
 (∀ u,Boxed W (w.heap.size+1+1) 9 u→Boxed (w1.setCell ⟨w.heap.size,0,none⟩ v') (w.heap.size+1+1) 9 u):=by
 have h1:Boxed w1 w.heap.size 24 v:=(hv.alloc tmp).kept hg (row_ne hr (by omega))
 have h2:Boxed w1 (w.heap.size+1) 4 bl:=(hl.alloc tmp).kept hg (row_ne hr (by omega))
 have hxx:Ext w w1:=Below.grown (hx.alloc tmp) hg (by simp;exact Nat.le_succ_of_le hx.size_le) (fun k e=>by have :=row_ge hr e;omega)
 refine ⟨h1,⟨v',h1.set v',?_,trivial⟩,h2.other (by omega) v',⟨hxx.setCell (Nat.le_refl _) v',?_⟩,?_,fun u hu=>((hu.alloc tmp).kept hg (row_ne hr (by omega))).other (by omega) v'⟩
 ·have h3:=ownsRow_setCell_below hown (a:=⟨w.heap.size,0,none⟩) (by simp;omega) v'
  simpa using h3
 ·have h4:=hg.size
  simp at h4 ⊢
  omega
 ·refine ((KeepsOthers.alloc W tmp).trans (KeepsOthers.of_grownBy hg fun j o ej hj=>?_)).trans (KeepsOthers.setCell _ _ _)
  rcases (hr.alloc tmp).2 with ⟨rfl,_⟩ | ⟨g,cap,cur,rfl,_,hgb,_⟩
  ·simp [Value.ownBlock] at ej
  ·obtain rfl:g=j:=by simpa [Value.ownBlock] using ej
   rw [hgb] at hj;cases hj;rfl
theorem split_start (w:World) (s:ByteArray):SplitInv w [] (((w.alloc (.cells #[.slice none 0 0] 24)).alloc (.cells #[.bool false] 4)).alloc (.cells #[.string s] 9)) ∧
 Boxed (((w.alloc (.cells #[.slice none 0 0] 24)).alloc (.cells #[.bool false] 4)).alloc (.cells #[.string s] 9)) (w.heap.size+1+1) 9 (.string s):=by
 have h1:=Boxed.new w 24 (.slice none 0 0)
 have h2:=Boxed.new (w.alloc (.cells #[.slice none 0 0] 24)) 4 (.bool false)
 have h3:=Boxed.new ((w.alloc (.cells #[.slice none 0 0] 24)).alloc (.cells #[.bool false] 4)) 9 (.string s)
 simp only [World.size_alloc] at h2 h3
 exact ⟨⟨⟨_,(h1.alloc _).alloc _,World.ownsRow_nil _ _ _ _,trivial⟩,h2.alloc _,(((Ext.refl w).alloc _).alloc _).alloc _,by simp⟩,h3⟩
theorem lst_of_own {W:World} {base:Nat} {v:Value} {l:List ByteArray} (h:W.ownsRow base 9 1 v l.length (l.map Value.string)):∃ A c,v=.slice A l.length c∧Lst W A l.length l:=by
 rcases h.2 with ⟨rfl,h0⟩ | ⟨g,cap,cur,rfl,hb,hg,rest⟩
 ·refine ⟨none,0,by rw [h0],rfl,fun hn=>by omega⟩
 ·refine ⟨some ⟨g,0,none⟩,cap,rfl,rfl,fun _=>⟨g,0,rfl,(Array.getElem?_eq_some_iff.1 hg).1,fun j hj=>?_⟩⟩
  have:=h.cells (g:=g) rfl j (.string (l.getD j ByteArray.empty)) (by simp [List.getD,List.getElem?_eq_getElem hj])
  rw [Nat.zero_add]
  by_cases h0:j=0
  ·subst h0;exact this
  ·simpa [Addr.add,h0] using this
theorem Ext.putObj {w W:World} {D:Nat} (h:Ext w W) (hD:w.heap.size≤D) (o:Obj):Ext w (W.putObj D o):=
 ⟨h.os,h.tape,h.output,by simp;exact h.size_le,fun k hk=>(World.putObj_heap_other (by omega)).trans (Below.block h k hk)⟩
theorem Lst.putObj {W:World} {A:Option Addr} {n D:Nat} {l:List ByteArray} {o:Obj} (h:Lst W A n l) (hD:W.heap[D]?=some o) (ho:o.isCells=false) (o':Obj):Lst (W.putObj D o') A n l:=by
 refine ⟨h.1,fun hn=>?_⟩
 obtain ⟨b,q,hA,hb,hc⟩:=h.2 hn
 exact ⟨b,q,hA,by simpa using hb,fun j hj=>cell_kept (hc j hj) (grownBy_putObj' W D o') (fun r e=>by cases e;exact ⟨o,hD,ho⟩)⟩
theorem cell_one_new_set (W:World) (p:Addr) (b x:Value) (t:TypeId):∀ j u,[x][j]?=some u→((W.setCell p b).alloc (.cells #[x] t)).cell? ((⟨W.heap.size,0,none⟩:Addr).add j)=some u:=by
 intro j u hj
 have hn:=cell_one_new (W.setCell p b) x t j u hj
 rw [World.size_setCell] at hn
 exact hn
def SplitPost (s:ByteArray) (w:World) (e:Ending) (w':World):Prop:=
 ∃ A n c,e=.returned (.tuple #[.slice A n c,.int .i64 (Qm.splitErr s)])∧Ext w w'∧Lst w' A n (if Qm.splitErr s=0 then Qm.linesOf s else [])
set_option maxHeartbeats 4000000 in
set_option maxRecDepth 100000 in
theorem split_ok (n:Nat) (hn:9≤n) (s:ByteArray) (w:World) (h1:s.size≤65536) (h5:Lib.indexByte s.data.toList 0 < 0) (h6:Qm.eqB s ⟨#[]⟩=true∨Lib.hasSuffix s.data.toList [10]=true):
 CallsIn Fence.wide n Tryz.prog 141 #[.string s] w (SplitPost s w):=by
 have h7:s.toList.isEmpty=true∨Lib.hasSuffix s.data.toList [10]=true:=h6.imp (fun h=>by rw [Qm.eqB_iff.1 h,ByteArray.toList_eq];rfl) id
 refine callsIn_of_wp_marks Tryz.func141 rfl trivial ?_ rfl
 simp only [Tryz.ntmps141,List.size_toArray,List.length_cons,List.length_nil,Nat.reduceAdd,Nat.reduceSub,Array.replicate_succ,Array.replicate_zero,List.push_toArray,List.append_toArray,List.nil_append,List.cons_append]
 cases hE:s.toList.isEmpty
 focus
  have h8:=h7.resolve_left (by rw [hE];exact Bool.false_ne_true)
  clear h7
  gi_wp2_with (first | (refine ⟨trivial,fun _=>(by omega),?_⟩;gi_at_call 149;refine (callsIn_wide.2 (Tryz.strings_IndexByte _ _ _)).mono ?_;rintro e w1 ⟨rfl,hww⟩;first | obtain rfl:=hww.symm | obtain rfl:=hww) | (refine ⟨trivial,fun _=>(by omega),?_⟩;gi_at_call 150;refine (callsIn_wide.2 (Tryz.strings_HasSuffix _ _ _ (by omega))).mono ?_;rintro e w1 ⟨rfl,hww⟩;first | obtain rfl:=hww.symm | obtain rfl:=hww) | (refine ⟨trivial,fun _=>(by omega),?_⟩;gi_at_call 151;refine (callsIn_wide.2 (each_any _ _)).mono ?_;rintro e w1 ⟨rfl,hww⟩;first | obtain rfl:=hww.symm | obtain rfl:=hww))
 rotate_left
 focus
  clear h7
  gi_wp2_with (refine ⟨trivial,fun _=>(by omega),?_⟩;gi_at_call 149;refine (callsIn_wide.2 (Tryz.strings_IndexByte _ _ _)).mono ?_;rintro e w1 ⟨rfl,hww⟩;first | obtain rfl:=hww.symm | obtain rfl:=hww)
  refine ⟨trivial,?_⟩
  gi_wp2_with (refine ⟨trivial,fun _=>(by omega),?_⟩;gi_at_call 151;refine (callsIn_wide.2 (each_any _ _)).mono ?_;rintro e w1 ⟨rfl,hww⟩;first | obtain rfl:=hww.symm | obtain rfl:=hww)
 all_goals
  refine wpIn_range_one 6 (gf:=159) (lb:=#[.pointer (some ⟨w.heap.size+1+1,0,none⟩)]) rfl (enters_of Tryz.func159 (by kernel_rfl) rfl) (enc:=fun x=>Value.string x) (each1_gives (n - 1) (w.heap.size+1+1) s (by omega) (by omega)) (SplitInv w) ?_ ?_ ?_ ?_ ?_ ?_ ?_
  ·exact splitInv_own w _ (by simp;omega)
  ·exact fun pre W v h=>splitInv_set h v
  ·exact (split_start w s).1
  ·exact (split_start w s).2
  ·intro l x W K hK
   simp only [List.setIfInBounds_toArray,List.set_cons_succ,List.set_cons_zero] at hK ⊢
   gi_wp2
   exact hK
  ·rintro l pre x W ⟨rest,hrest⟩ ⟨⟨v,hv,hr,_⟩,hl,hx,hsz0⟩
   have hlen:pre.length < s.size:=by
    have h9:=Qm.linesOf_length s
    rw [← hrest] at h9
    simp at h9
    omega
   clear hrest
   have hmax:pre.length+1≤maxLen:=by unfold maxLen;omega
   have hby:(pre.length+1) * 16≤140737488355328:=by omega
   obtain ⟨i0,hi0,hz0,hz1,hz2⟩:=info_parts Tryz.infoStr
   simp only [List.setIfInBounds_toArray,List.set_cons_succ,List.set_cons_zero]
   have hsz:w.heap.size+1+1+1≤W.heap.size:=hsz0
   cases hlong:Qm.longLine pre
   all_goals
    rw [hlong] at hl
    have hvc:=hv.cell
    have hvf:=hv.frozen
    have hlc:=hl.cell
    have hlf:=hl.frozen
    have HL:=fun b=>hl.set (.bool b)
    have HV:=fun b=>hv.other (B':=w.heap.size+1) (by omega) (.bool b)
    have HR:=fun b=>ownsRow_setCell_below hr (a:=⟨w.heap.size+1,0,none⟩) (by simp) (.bool b)
    have HX:=fun b=>hx.setCell (p:=⟨w.heap.size+1,0,none⟩) (by simp) (.bool b)
    gi_wp2_with (gi_at_builtin;refine wpListIn_append_own _ rfl (.tmp 31) (.tmp 33) 24 rfl (w.heap.size+1+1+1) 9 i0 (.string ⟨#[]⟩) 1 16 Tryz.underlying24 hi0 hz0 hz1 hz2 rfl (by decide) v pre.length (pre.map Value.string) rfl ((HR _).alloc _) ⟨W.heap.size,0,none⟩ 1 1 [.string x] rfl rfl ?_ (by simp [Value.oneCell']) hmax hby ?_ ?_)
    focus
     intro j u hj
     exact cell_one_new_set W _ _ (.string x) 9 j u hj
    focus
     simp
     omega
    intro v' w1 hown' hgrow _
    obtain ⟨g',cap',rfl⟩:=ownsRow_succ hown'
    obtain ⟨hv1,hout,hl2,hx2,hk2,hs2⟩:=split_app (HV _) (HR _) (HL _) (HX _) (by simpa using hsz) hown' hgrow
    have hc1:=hv1.cell
    have hf1:=hv1.frozen
    gi_wp2
    refine ⟨(KeepsOthers.setCell W _ _).trans hk2,⟨hout,?_,hx2⟩,fun u hu=>hs2 u (hu.other (by omega) _)⟩
    rw [Qm.longLine_snoc,hlong]
    have e1:decide ((1000:Int) < (x.size:Int))=decide (1000 < x.size):=decide_eq_decide.2 (by omega)
    first
     | (simpa using hl2)
     | (rw [e1] at hl2;simpa using hl2)
  ·rintro D W hD ⟨⟨v,hv,hr,_⟩,hl,hx,_⟩ hK
   obtain ⟨A,c,rfl,hlst⟩:=lst_of_own hr
   have hvc:=hv.cell
   have hlc:=hl.cell
   have herr:=Qm.splitErr_of h1 h5 h6
   have hlen:=Qm.linesOf_length s
   have hD2:w.heap.size≤D:=by simp at hD;omega
   cases hlong:Qm.longLine (Qm.linesOf s)
   all_goals
    rw [hlong] at hl herr hlc
    have Herr:=Lib.hid herr
    clear herr hlong
    gi_wp2
   all_goals
    refine ⟨by simp,.inl ⟨_,_,rfl,run_takeDeferred hK,?_⟩⟩
    refine ⟨_,results_tmp2 rfl _ _ _,?_⟩
    first
     | (have e0:Qm.splitErr s=0:=by (rw [Herr.out,if_neg (by simp;omega)])
        exact ⟨A,_,c,by rw [e0];rfl,hx.putObj hD2 _,by rw [if_pos e0];exact hlst.putObj hK rfl _⟩)
     | (have e0:Qm.splitErr s=4:=by (rw [Herr.out,if_pos (by simp;try omega)])
        exact ⟨none,0,0,by rw [e0];rfl,hx.putObj hD2 _,by rw [if_neg (by omega)];exact Lst.nil _ _⟩)
theorem split_any (s:ByteArray) (w:World):Calls Tryz.prog 141 #[.string s] w (SplitPost s w):=by
 by_cases h:65536 < s.size∨(0≤Lib.indexByte s.data.toList 0∨(Qm.eqB s ⟨#[]⟩=false∧Lib.hasSuffix s.data.toList [10]=false))
 ·refine (split_bad s w h).mono ?_
  rintro e w' ⟨rfl,hx⟩
  refine ⟨none,0,0,rfl,hx,?_⟩
  have h0:¬ Qm.splitErr s=0:=by
   unfold Qm.splitErr
   split
   ·decide
   ·rename_i h1
    rw [if_pos (h.resolve_left h1)]
    decide
  rw [if_neg h0]
  exact Lst.nil _ _
 ·simp only [not_or,not_and,Bool.not_eq_false,Int.not_le,Nat.not_lt] at h
  obtain ⟨h1,h2,h3⟩:=h
  refine (callsIn_wide (n:=9)).1 (split_ok 9 (by omega) s w h1 h2 ?_)
  cases h4:Qm.eqB s ⟨#[]⟩
  ·exact .inr (h3 h4)
  ·exact .inl rfl
end Go.Proofs.YtfmgnaigcibcaaaGreatDoor
namespace Go.Proofs.YtfmgnaigcibcaaaGreatDoor
open Go.RowKit
set_option maxHeartbeats 800000 in
theorem isText_any (s:ByteArray) (w:World):Calls Tryz.prog 126 #[.string s] w (Ret (.bool (Qm.isText s)) w):=by
 go_enter Tryz.func126,Tryz.ntmps126
 have hx:=Ext.refl w
 go_wp2_with (go_at_call 141;refine (split_any _ _).mono ?_;rintro e w1 ⟨A,n,c,rfl,hx1,hl1⟩;replace hx:=hx1)
 (go_ret;refine Ret.mk ?_ ?_;(focus (simp [Qm.isText];done));(focus (exact EX;done)))
set_option maxHeartbeats 800000 in
theorem content_any (k:Int) (s:ByteArray) (w:World):Calls Tryz.prog 103 #[.int .i64 k,.string s] w (Ret (.int .i64 (Qm.content k s)) w):=by
 go_enter Tryz.func103,Tryz.ntmps103
 have hx:=Ext.refl w
 go_wp2_with (go_at_call 126;refine (isText_any _ _).mono ?_;rintro e w1 ⟨rfl,hx0⟩;have hy:=Ext.trans (a:=w) EX hx0;clear hx;have hx:=hy;clear hy;skip;(try clear hx0))
 all_goals (go_ret;refine Ret.mk ?_ ?_;(focus (refine congrArg (Value.int .i64) ?_;unfold Qm.content;repeat' split;all_goals first | rfl | omega | simp_all;done));(focus (exact EX;done)))
end Go.Proofs.YtfmgnaigcibcaaaGreatDoor
namespace Go.Proofs.YtfmgnaigcibcaaaGreatDoor
open Go.RowKit
def Sl (w:World) (A:Option Addr) (n c:Nat) (l:List ByteArray):Prop:=Lst w A n l∧(A=none→n=0∧c=0)
theorem Sl.ext {w w':World} {A:Option Addr} {n c:Nat} {l:List ByteArray} (h:Sl w A n c l) (hx:Ext w w'):Sl w' A n c l:=⟨h.1.ext hx,h.2⟩
theorem Sl.len {w:World} {A:Option Addr} {n c:Nat} {l:List ByteArray} (h:Sl w A n c l):l.length=n:=h.1.1
theorem Lst.cells {w:World} {A:Option Addr} {n:Nat} {l:List ByteArray} (h:Lst w A n l) (hn:0 < n):∃ b o,A=some ⟨b,o,none⟩∧∀ j,j < l.length→w.cell? ⟨b,o+j,none⟩=some (.string (l.getD j ByteArray.empty)):=by
 obtain ⟨b,o,hA,_,hc⟩:=h.2 hn
 exact ⟨b,o,hA,fun j hj=>hc j (by have :=h.1;omega)⟩
theorem drewN_ext (w:World) (n:Nat):Ext w (w.drewN n):=(Ext.refl w).drewN n
theorem sequal_any (A1 A2:Option Addr) (n1 c1 n2 c2:Nat) (l1 l2:List ByteArray) (w:World) (h1:Lst w A1 n1 l1) (h2:Lst w A2 n2 l2) (b1:n1≤1152921504606846976) (b2:n2≤1152921504606846976):
 Calls Tryz.prog 97 #[.slice A1 n1 c1,.slice A2 n2 c2] w (Ret (.bool (decide (l1=l2))) w):=by
 have e1:=h1.1
 have e2:=h2.1
 by_cases hne:n1=n2
 ·subst hne
  by_cases h0:n1=0
  ·subst h0
   have z1:=List.length_eq_zero_iff.1 e1
   have z2:=List.length_eq_zero_iff.1 e2
   refine (Tryz.slices_Equal_string_empty A1 A2 c1 0 c2 w (by omega)).mono ?_
   rintro e w' ⟨rfl,rfl⟩
   exact Ret.mk (by rw [z1,z2];simp) (Ext.refl _)
  ·obtain ⟨b,o,rfl,hc1⟩:=h1.cells (by omega)
   obtain ⟨b',o',rfl,hc2⟩:=h2.cells (by omega)
   refine (Tryz.slices_Equal_string b o n1 c1 b' o' n1 c2 l1 l2 w (by omega) (by omega) (by omega) (by omega) hc1 hc2).mono ?_
   rintro e w' ⟨rfl,q,rfl⟩
   exact Ret.mk (by rw [List.take_of_length_le (by omega),List.take_of_length_le (by omega)]) (drewN_ext _ _)
 ·refine (Tryz.slices_Equal_string_lens A1 A2 n1 c1 n2 c2 w hne).mono ?_
  rintro e w' ⟨rfl,rfl⟩
  refine Ret.mk ?_ (Ext.refl _)
  rw [decide_eq_false]
  intro h
  exact hne (by rw [← e1,← e2,h])
def Hi (B:Nat) (A:Option Addr):Prop:=∀ a,A=some a→B≤a.block
theorem Hi.le {B C:Nat} {A:Option Addr} (h:Hi B A) (hc:C≤B):Hi C A:=fun a ha=>Nat.le_trans hc (h a ha)
theorem Sl.set {w:World} {A:Option Addr} {n c B k:Nat} {l:List ByteArray} (h:Sl w A n c l) (hi:Hi (B+1) A) (u:Value):Sl (w.setCell ⟨B,k,none⟩ u) A n c l:=by
 refine ⟨⟨h.1.1,fun hn=>?_⟩,h.2⟩
 obtain ⟨b,o,hA,hb,hc⟩:=h.1.2 hn
 have hne:b≠B:=by have h0:=hi _ hA;dsimp only at h0;omega
 refine ⟨b,o,hA,by simpa using hb,fun j hj=>?_⟩
 rw [← hc j hj]
 exact World.cell?_of_block (Below.heap_setCell w ⟨B,k,none⟩ u b hne)
theorem Sl.of_own' {w':World} {B:Nat} {v:Value} {n:Nat} {l:List ByteArray} (h:w'.ownsRow B 9 1 v n (l.map Value.string)):∃ A c,v=.slice A n c∧Sl w' A n c l∧Hi B A:=by
 have hl:l.length=n:=by simpa using h.1
 rcases h.2 with ⟨rfl,rfl⟩ | ⟨g,cap,cur,rfl,hb,hg,hn,hcap,hcs,htk⟩
 ·exact ⟨none,0,rfl,⟨⟨hl,fun h=>by omega⟩,fun _=>⟨rfl,rfl⟩⟩,(fun a ha=>nomatch ha)⟩
 ·refine ⟨some ⟨g,0,none⟩,cap,rfl,⟨⟨hl,fun _=>⟨g,0,rfl,(Array.getElem?_eq_some_iff.1 hg).1,fun j hj=>?_⟩⟩,fun h=>by cases h⟩,(fun a ha=>by cases ha;exact hb)⟩
  have h1:=h.cells (g:=g) rfl j (.string (l.getD j ByteArray.empty)) (by simp [List.getD,List.getElem?_eq_getElem (show j < l.length by omega)])
  have ea:(⟨g,0,none⟩:Addr).add j=⟨g,j,none⟩:=by unfold Addr.add;split <;> simp_all
  rw [ea] at h1
  simpa using h1
theorem Sl.of_own {w w':World} {v:Value} {n:Nat} {l:List ByteArray} (h:w'.ownsRow w.heap.size 9 1 v n (l.map Value.string)):∃ A c,v=.slice A n c∧Sl w' A n c l:=by
 obtain ⟨A,c,h1,h2,_⟩:=Sl.of_own' h
 exact ⟨A,c,h1,h2⟩
theorem sclone_any (A:Option Addr) (n c:Nat) (l:List ByteArray) (w:World) (h:Sl w A n c l) (hn:n≤4194304):
 Calls Tryz.prog 234 #[.slice A n c] w (fun e w'=>∃ A' c',e=.returned (.slice A' n c')∧Sl w' A' n c' l∧Hi w.heap.size A'∧Ext w w'):=by
 cases A with
 | none=>
   obtain ⟨rfl,rfl⟩:=h.2 rfl
   refine (Tryz.slices_Clone_string_nil 0 0 w).mono ?_
   rintro e w' ⟨rfl,rfl⟩
   exact ⟨none,0,rfl,h,(fun a ha=>nomatch ha),Ext.refl _⟩
 | some a=>
   by_cases h0:n=0
   ·subst h0
    have z:=List.length_eq_zero_iff.1 h.1.1
    subst z
    refine (Tryz.slices_Clone_string_zero a c w).mono ?_
    rintro e w' ⟨v,rfl,ho,_,hb⟩
    obtain ⟨A',c',rfl,hs,hi⟩:=Sl.of_own' (l:=[]) ho
    exact ⟨A',c',rfl,hs,hi,hb⟩
   ·obtain ⟨b,o,ha,hc⟩:=h.1.cells (by omega)
    rw [ha]
    have hl:=h.1.1
    refine (Tryz.slices_Clone_string b o n c l w (by omega) (by omega) hc).mono ?_
    rintro e w' ⟨v,rfl,ho,_,hb⟩
    rw [List.take_of_length_le (by omega)] at ho
    obtain ⟨A',c',rfl,hs,hi⟩:=Sl.of_own' ho
    exact ⟨A',c',rfl,hs,hi,hb⟩
theorem info_str:(Tryz.prog.info? 9).map (fun i=>(i.zero,i.size,i.bytes))=some (some (.string ⟨#[]⟩),1,16):=by kernel_rfl
set_option maxHeartbeats 2000000 in
set_option maxRecDepth 100000 in
theorem grow_any (n:Nat) (w:World) (hn:n≤4194304):
 Calls Tryz.prog 242 #[.slice none 0 0,.int .i64 n] w (fun e w'=>∃ v,e=.returned v∧w'.ownsRow w.heap.size 9 1 v 0 []∧Ext w w'):=by
 obtain ⟨i0,hi,hz0,hz1,hz2⟩:=info_parts info_str
 by_cases h0:n=0
 ·subst h0
  go_enter Tryz.func242,Tryz.ntmps242
  go_wp2
  go_ret
  exact ⟨_,rfl,⟨rfl,.inl ⟨rfl,rfl⟩⟩,Ext.refl _⟩
 ·have hrz:∀ ty,(Builtin.append_ #[24,3] ty #[.slice none 0 0,.int .i64 n]).run Tryz.prog w =
   .ok (.slice (some ⟨w.heap.size,0,none⟩) n (grownCap w n 0 9)) (w.drew.alloc (.cells (#[] ++ Builtin.zeroCells #[.string ⟨#[]⟩] n ++ Builtin.zeroCells #[.string ⟨#[]⟩] (grownCap w n 0 9 - n)) 9)):=fun ty=>by
   have h:=Lib.run_append_grow_zeros w 24 3 ty 9 i0 (.string ⟨#[]⟩) .i64 .i64 Tryz.underlying24 Tryz.underlying3 hi hz0 none 0 0 [] (by exact run_firstCells_none w.drew i0.size 0 0 0) n (by omega) (by omega) (by omega) (by omega)
    (by rw [hz2];omega) (by rw [hz2];exact growslice_fits (by omega) (by omega))
   simpa [Value.cells] using h
  have hG:=grownCap_ge w n 0 9
  have hG2:=grownCap_le_maxLen w n 0 9 (by unfold maxLen;omega)
  generalize grownCap w n 0 9=G at hrz hG hG2
  unfold maxLen at hG2
  go_enter Tryz.func242,Tryz.ntmps242
  go_wp2_with (at_builtin;refine Lib.wpList_append_run _ rfl _ _ _ _ rfl _ _ rfl rfl _ _ (hrz _) ?_)
  go_ret
  refine ⟨_,rfl,⟨rfl,.inr ⟨w.heap.size,G,_,rfl,Nat.le_refl _,heap_alloc_new _ _,Nat.zero_le _,by unfold maxLen;omega,?_,by simp⟩⟩,(Ext.refl w).drew1.alloc _⟩
  simp [size_zeroCells]
  omega
theorem wpList_append_sl {w:World} {ops:Array Oper} {rest:List Oper} {o:Oper} {a:Act} {Q:Exit→Act→World→Prop} (hgd:o.guard=none) (s x:Operand)
 (ho:o.op=.call { callee:=.builtin .append,args:=#[s,x],argTypes:=#[24,24] })
 (base:Nat) (v:Value) (n:Nat) (l0:List ByteArray) (hs:a.eval s=v) (hown:w.ownsRow base 9 1 v n (l0.map Value.string)) (hb:base≤w.heap.size)
 (A:Option Addr) (m c:Nat) (l:List ByteArray) (hsl:Sl w A m c l) (hx:a.eval x=.slice A m c) (hn:n≤4194304) (hm:m≤4194304)
 (h:∀ v' w',w'.ownsRow base 9 1 v' (n+m) ((l0 ++ l).map Value.string)→w.grownBy w' v.ownBlock→wpList Tryz.prog ops Q rest (a.put o.dst v') w'):wpList Tryz.prog ops Q (o :: rest) a w:=by
 obtain ⟨i0,hi,hz0,hz1,hz2⟩:=info_parts info_str
 cases A with
 | none=>
   obtain ⟨rfl,rfl⟩:=hsl.2 rfl
   have z:=List.length_eq_zero_iff.1 hsl.1.1
   subst z
   refine wpList_append_own_none hgd s x 24 ho base 9 i0 1 Tryz.underlying24 hi v n (l0.map Value.string) hs hown hx ?_
   rw [List.append_nil] at h
   exact h v w hown (World.grownBy.refl _ _)
 | some ad=>
   refine wpList_append_own _ hgd s x 24 ho base 9 i0 (.string ⟨#[]⟩) 1 16 Tryz.underlying24 hi hz0 hz1 hz2 rfl (by decide) v n (l0.map Value.string) hs hown ad m c (l.map Value.string) hx (by simp [hsl.1.1]) ?_ (by simp [Value.oneCell']) (by unfold maxLen;omega) (by omega) hb ?_
   ·intro j u hu
    have hj:=(List.getElem?_eq_some_iff.1 hu).1
    rw [List.length_map,hsl.1.1] at hj
    obtain ⟨b,o',ha,_,hc⟩:=hsl.1.2 (by omega)
    obtain rfl:=Option.some.inj ha
    have ea:(⟨b,o',none⟩:Addr).add j=⟨b,o'+j,none⟩:=by unfold Addr.add;split <;> simp_all
    rw [ea,hc j hj]
    have hj2:j < l.length:=by have :=hsl.1.1;omega
    rw [List.getElem?_map,List.getElem?_eq_getElem hj2] at hu
    simp at hu
    simp [List.getD,List.getElem?_eq_getElem hj2,hu]
   ·intro v' w' h1 h2 _
    exact h v' w' (by rw [List.map_append];exact h1) h2
theorem grownBy_ext {w w':World} {b:Option Nat} (h:w.grownBy w' b) (W:World) (hW:Ext W w) (hb:∀ g,b=some g→W.heap.size≤g):Ext W w':=by
 refine ⟨h.os.trans hW.os,h.tape.trans hW.tape,h.output.trans hW.output,Nat.le_trans hW.size_le h.size,fun k hk=>?_⟩
 refine (h.block k (Nat.lt_of_lt_of_le hk hW.size_le) ?_).trans (hW.block k hk)
 intro e
 have:=hb k e.symm
 omega
set_option maxHeartbeats 2000000 in
set_option maxRecDepth 100000 in
theorem concat_any (bX:Nat) (A1 A2:Option Addr) (n1 c1 n2 c2:Nat) (l1 l2:List ByteArray) (w:World) (hbX:Blk w bX 24 #[.slice A1 n1 c1,.slice A2 n2 c2]) (h1:Sl w A1 n1 c1 l1) (h2:Sl w A2 n2 c2 l2) (b1:n1≤4194304) (b2:n2≤2097152) (b3:n1≤2097152):
 Calls Tryz.prog 237 #[.slice (some ⟨bX,0,none⟩) 2 2] w (fun e w'=>∃ A c,e=.returned (.slice A (n1+n2:Nat) c)∧Sl w' A (n1+n2) c (l1 ++ l2)∧Ext w w'):=by
 obtain ⟨hcX,hfX,hlX⟩:=hbX.all
 go_enter Tryz.func237,Tryz.ntmps237
 have hx:=Ext.refl w
 go_wp2
 refine wp_loop_rounds 3 ?_
 rw [rounds_succ]
 go_wp2
 rw [rounds_succ]
 go_wp2
 rw [rounds_succ]
 go_wp2_with fail
 rw [show ((n1:Int)+(n2:Int))=((n1+n2:Nat):Int) from by omega]
 refine (grow_any (n1+n2) _ (by omega)).mono ?_
 rintro e w1 ⟨v,rfl,hown,hx0⟩
 have hs1:=h1.ext hx0
 have hs2:=h2.ext hx0
 have hbY:=hbX.ext hx0
 have hz:=hx0.size_le
 have Hx:=Lib.hid hx0
 have H2:=Lib.hid h2
 have HbX:=Lib.hid hbX
 clear hx hx0 h1 h2 hcX hfX hlX hbX
 obtain ⟨hcX,hfX,hlX⟩:=hbY.all
 go_wp2_with fail
 refine wp_loop_rounds 3 ?_
 rw [rounds_succ]
 go_wp2_with (at_builtin;refine wpList_append_sl rfl _ _ rfl w.heap.size v 0 [] rfl hown hz A1 n1 c1 l1 hs1 rfl (by omega) (by omega) ?_;intro v2 w2 hown2 hg2)
 have hx2:=grownBy_ext hg2 w Hx.out (fun g hg=>(hown.lt g hg).1)
 rw [Nat.zero_add,List.nil_append] at hown2
 have hs2:=H2.out.ext hx2
 have hbY:=HbX.out.ext hx2
 have hz:=hx2.size_le
 have Hx2:=Lib.hid hx2
 clear hx2 hcX hfX hlX hg2 Hx
 obtain ⟨hcX,hfX,hlX⟩:=hbY.all
 rw [rounds_succ]
 go_wp2_with (at_builtin;refine wpList_append_sl rfl _ _ rfl w.heap.size v2 n1 l1 rfl hown2 hz A2 n2 c2 l2 hs2 rfl (by omega) (by omega) ?_;intro v3 w3 hown3 hg3)
 rw [rounds_succ]
 go_wp2
 go_ret
 obtain ⟨A,c,rfl,hs3⟩:=Sl.of_own hown3
 exact ⟨A,c,rfl,hs3,grownBy_ext hg3 w Hx2.out (fun g hg=>(hown2.lt g hg).1)⟩
set_option maxHeartbeats 1000000 in
theorem lineValid_same (s:ByteArray) (w:World):Calls Tryz.prog 238 #[.string s] w (fun e w'=>e=.returned (.bool (Qm.validLine s))∧w=w'):=by
 go_enter Tryz.func238,Tryz.ntmps238
 go_wp2_with (go_at_call 149;refine (Tryz.strings_IndexByte _ _ _).mono ?_;rintro e w1 ⟨rfl,rfl⟩)
 all_goals (go_ret;refine ⟨congrArg (fun b=>Ending.returned (Value.bool b)) ?_,rfl⟩;unfold Qm.validLine;first | (rw [decide_eq_true (by omega:s.size≤1000),decide_eq_true (by assumption:Lib.indexByte s.data.toList 10 < 0)];rfl) | (rw [decide_eq_true (by omega:s.size≤1000),decide_eq_false (by omega:¬ Lib.indexByte s.data.toList 10 < 0)];rfl) | (rw [decide_eq_false (by omega:¬ s.size≤1000)];rfl))
end Go.Proofs.YtfmgnaigcibcaaaGreatDoor
