/- A range over a function whose iterator keeps a state of its own in one box (a captured variable that it cuts on), and whose body never leaves the loop. Over any program, at the wide fence. A range over a function whose iterator keeps a state of its own in memory, and whose body may leave the loop by a return. Over any program, at the wide fence. -/
import Derived.RangeFuncBox
import Derived.RangeFuncCalls
import Derived.RangeFuncFrom
import Derived.TacticsIn
import Derived.OrdersIn
import Derived.Deep.RegionHeld3
set_option linter.unusedSimpArgs false
set_option linter.unusedVariables false
namespace Go.Proofs.YtnjcifppkijanaaGreatDoor
open Go Go.RowKit

variable {P : Program}

/-- What the iterator promises: for whatever loop record l and whatever invariant that does not mind the iterator's own stores into its box, where each round keeps the box: every element comes. -/
def GivesAll {α : Type} (P : Program) (n : Nat) (gf : Nat) (lb : Array Value) (encs : α → Array Value) (bS : Nat) (t : TypeId) (v0 : Value) (xs : List α) : Prop :=
  ∀ (l : Nat) (I : List α → World → Prop) (W : World), (∀ pre W v, I pre W → I pre (W.setCell ⟨bS, 0, none⟩ v)) →
    (∀ pre x W, (∃ rest, pre ++ x :: rest = xs) → I pre W → YieldAt Fence.wide (n - 1) P l (encs x) W fun e W' => e = .returned (.bool true) ∧ I (pre ++ [x]) W' ∧ ∀ v, Boxed W bS t v → Boxed W' bS t v) →
    I [] W → Boxed W bS t v0 →
    CallsIn Fence.wide n P gf (#[.func (.yield l) #[] #[]] ++ lb) W fun e W' => (∃ v, e = .returned v) ∧ I xs W'

/-- How the body may end: at its end alone. -/
def goesOn {α : Type} (J : List α → World → Prop) (bS : Nat) (t : TypeId) (xs : List α) (W : World) : Exit → Act → World → Prop
  | .normal, _, W' => KeepsOthers W W' ∧ J xs W' ∧ ∀ v, Boxed W bS t v → Boxed W' bS t v
  | _, _, _ => False

theorem wpIn_range_all {α : Type} {g : Operand} {ps : Array Tmp} {assign body : Code} {Q : Exit → Act → World → Prop} {a : Act} {w : World} {n : Nat}
    {gf : Nat} {lb : Array Value} (hg : a.eval g = .func (.func gf) #[] lb) (eg : ∀ args w, (callFunc gf args).run P w = .ok (.enter gf args) w)
    {encs : α → Array Value} {bS : Nat} {t : TypeId} {v0 : Value} {xs : List α} (hseq : GivesAll P (n - 1) gf lb encs bS t v0 xs) (hps : ∀ x, (encs x).size = ps.size)
    (J : List α → World → Prop) (hJ : OwnFrom w.heap.size J) (hJs : ∀ pre W v, J pre W → J pre (W.setCell ⟨bS, 0, none⟩ v)) (h0 : J [] w) (hbox : Boxed w bS t v0) (a₁ : α → Act)
    (hassign : ∀ (l : Nat) (x : α) (W : World) (K : Act → World → Prop), K (a₁ x) W →
      assign.wpIn (Fence.wide.inRound l) (n - 1 - 1) P (Exit.then K (fun _ _ _ => False)) { tmps := (ps.zip (encs x)).foldl (fun t (p, v) => t.setIfInBounds p v) a.tmps, defers := [] } W)
    (hbody : ∀ (l : Nat) (pre : List α) (x : α) (W : World), (∃ rest, pre ++ x :: rest = xs) → J pre W → body.wpIn (Fence.wide.inRound l) (n - 1 - 1) P (goesOn J bS t (pre ++ [x]) W) (a₁ x) W)
    (hdone : ∀ (D : Nat) (W : World), w.heap.size ≤ D → J xs W → W.heap[D]? = some (.deferred (some [])) → Q .normal { a with defers := { target := .collected D, args := #[] } :: a.defers } W) :
    (Code.rangeFunc g ps assign body).wpIn Fence.wide n P Q a w := by
  refine wpIn_rangeFunc fun fn hfn => ?_
  let rec_ : LoopState → Option Code → Loop := fun st pe => { state := st, pending := pe, fn := fn, tmps := a.tmps, params := ps, assign := assign, body := body, defers := w.heap.size }
  let W1 : World := (w.alloc (.deferred (some []))).alloc (.loop (rec_ .ready none))
  have hL1 : W1.heap[w.heap.size + 1]? = some (.loop (rec_ .ready none)) := by
    have := World.alloc_heap_new (w.alloc (.deferred (some []))) (.loop (rec_ .ready none)); rwa [World.size_alloc] at this
  have hD1 : W1.heap[w.heap.size]? = some (.deferred (some [])) := (Below.heap_alloc _ _ _ (by simp)).trans (World.alloc_heap_new w _)
  refine ⟨w.heap.size + 1, [{ target := .collected w.heap.size, args := #[] }], W1, { target := .fn (.func gf) lb, args := #[.func (.yield (w.heap.size + 1)) #[] #[]] }, W1, gf,
    #[.func (.yield (w.heap.size + 1)) #[] #[]] ++ lb, W1, run_enterLoop_outer _ _ _ _ _, ?_, fun f' hf' => trivial, ?_, fun h => (by cases h), ?_⟩
  · simp only [resolve, hg]
    simp [go_sem]
  · simp [invoke, go_sem, eg]
  · refine (hseq (w.heap.size + 1) (fun pre W => J pre W ∧ W.heap[w.heap.size + 1]? = some (.loop (rec_ .ready none)) ∧ W.heap[w.heap.size]? = some (.deferred (some []))) W1 ?_ ?_
      ⟨hJ.alloc _ (hJ.alloc _ h0), hL1, hD1⟩ ((hbox.alloc _).alloc _)).mono ?_
    · rintro pre W v ⟨h1, h2, h3⟩
      have hk := KeepsOthers.setCell W ⟨bS, 0, none⟩ v
      exact ⟨hJs pre W v h1, hk.same _ _ h2 rfl, hk.same _ _ h3 rfl⟩
    · rintro pre x W hpre ⟨hi, hl, hd⟩
      have hlt : w.heap.size + 1 < W.heap.size := (Array.getElem?_eq_some_iff.1 hl).1
      have hy := run_yield (P := P) (args := encs x) hl (hps x)
      refine ⟨fn, _, assign, body, hy, roundIn_of_wpIn hfn (hassign _ x W _ ⟨_, run_beginRound hl rfl, ?_⟩)⟩
      have hl2 : (W.putObj (w.heap.size + 1) (.loop { rec_ .ready none with state := .busy })).heap[w.heap.size + 1]? = some (.loop { rec_ .ready none with state := .busy }) := World.putObj_heap_same hlt
      have hd2 : (W.putObj (w.heap.size + 1) (.loop { rec_ .ready none with state := .busy })).heap[w.heap.size]? = some (.deferred (some [])) := (World.putObj_heap_other (by omega)).trans hd
      have hbx : ∀ {o : Obj} {W₀ : World} {v : Value}, W₀.heap[w.heap.size + 1]? = some o → o.isCells = false → Boxed W₀ bS t v → ∀ o', Boxed (W₀.putObj (w.heap.size + 1) o') bS t v := by
        intro o W₀ v ho hc hb o'
        refine (World.putObj_heap_other fun e => ?_).trans hb
        have hb' : W₀.heap[bS]? = _ := hb
        rw [e, ho] at hb'
        cases hb'
        cases hc
      refine wpIn_mono (hbody _ pre x _ hpre (hJ.putObj _ hi (by omega) hl rfl)) ?_
      rintro e a3 W3 hp
      cases e with
      | normal =>
        obtain ⟨hk3, hj3, hb3⟩ := hp
        have hl3 := hk3.same _ _ hl2 rfl
        refine ⟨_, _, run_endRound (P := P) none hl3, rfl, ⟨hJ.putObj _ hj3 (by omega) hl3 rfl, World.putObj_heap_same (Array.getElem?_eq_some_iff.1 hl3).1, (World.putObj_heap_other (by omega)).trans (hk3.same _ _ hd2 rfl)⟩, fun v hv => ?_⟩
        exact hbx hl3 rfl (hb3 v (hbx hl rfl hv _)) _
      | ret => exact hp.elim
      | exit id => exact hp.elim
      | goto t => exact hp.elim
      | panic ch => exact hp.elim
      | outgrown => exact hp.elim
    · rintro e W2 ⟨⟨v, rfl⟩, hi, hl, hd⟩
      refine ⟨none, _, run_endLoop (P := P) hl (by simp [rec_]), ?_⟩
      exact hdone _ _ (Nat.le_refl _) (hJ.putObj _ hi (by omega) hl rfl) ((World.putObj_heap_other (by omega)).trans hd)

/-- One loop variable: yield's argument comes in slot p and is assigned to slot k. -/
theorem wpIn_range_one {α : Type} {g : Operand} {p : Tmp} (k : Tmp) {assign body : Code} {Q : Exit → Act → World → Prop} {a : Act} {w : World} {n : Nat}
    {gf : Nat} {lb : Array Value} (hg : a.eval g = .func (.func gf) #[] lb) (eg : ∀ args w, (callFunc gf args).run P w = .ok (.enter gf args) w)
    {enc : α → Value} {bS : Nat} {t : TypeId} {v0 : Value} {xs : List α} (hseq : GivesAll P (n - 1) gf lb (fun x => #[enc x]) bS t v0 xs)
    (J : List α → World → Prop) (hJ : OwnFrom w.heap.size J) (hJs : ∀ pre W v, J pre W → J pre (W.setCell ⟨bS, 0, none⟩ v)) (h0 : J [] w) (hbox : Boxed w bS t v0)
    (hassign : ∀ (l : Nat) (x : α) (W : World) (K : Act → World → Prop), K { tmps := (a.tmps.setIfInBounds p (enc x)).setIfInBounds k (enc x), defers := [] } W →
      assign.wpIn (Fence.wide.inRound l) (n - 1 - 1) P (Exit.then K (fun _ _ _ => False)) { tmps := a.tmps.setIfInBounds p (enc x), defers := [] } W)
    (hbody : ∀ (l : Nat) (pre : List α) (x : α) (W : World), (∃ rest, pre ++ x :: rest = xs) → J pre W → body.wpIn (Fence.wide.inRound l) (n - 1 - 1) P (goesOn J bS t (pre ++ [x]) W) { tmps := (a.tmps.setIfInBounds p (enc x)).setIfInBounds k (enc x), defers := [] } W)
    (hdone : ∀ (D : Nat) (W : World), w.heap.size ≤ D → J xs W → W.heap[D]? = some (.deferred (some [])) → Q .normal { a with defers := { target := .collected D, args := #[] } :: a.defers } W) :
    (Code.rangeFunc g #[p] assign body).wpIn Fence.wide n P Q a w :=
  wpIn_range_all hg eg hseq (fun _ => rfl) J hJ hJs h0 hbox (fun x => { tmps := (a.tmps.setIfInBounds p (enc x)).setIfInBounds k (enc x), defers := [] })
    (fun l x W K hK => by simpa using hassign l x W K hK) hbody hdone
end Go.Proofs.YtnjcifppkijanaaGreatDoor
namespace Go.Proofs.YtnjcifppkijanaaGreatDoor
open Go Go.RowKit

variable {P : Program}

/-- What the iterator promises of its rounds: I: between two rounds; Y: where it calls yield; J: where a round has gone on; X: where one has left. T, Tx: what holds of the loop's own records. -/
def Rounds {α : Type} (P : Program) (n : Nat) (gf : Nat) (lb : Array Value) (encs : α → Array Value) (I : Nat → World → Prop) (Y J : Nat → α → World → Prop) (X : World → Prop) (N : Nat) : Prop :=
  ∀ (l : Nat) (T Tx : World → Prop) (W : World), (∀ A B, KeepsOthers A B → T A → T B) → (∀ A B, KeepsOthers A B → Tx A → Tx B) →
    (∀ k x W1, Y k x W1 → T W1 → YieldAt Fence.wide (n - 1) P l (encs x) W1 fun e W' => (e = .returned (.bool true) ∧ J k x W' ∧ T W') ∨ (e = .returned (.bool false) ∧ X W' ∧ Tx W')) →
    I 0 W → T W →
    CallsIn Fence.wide n P gf (#[.func (.yield l) #[] #[]] ++ lb) W fun e W' => (∃ v, e = .returned v) ∧ ((I N W' ∧ T W') ∨ (X W' ∧ Tx W'))

/-- It minds neither a new block that is no cells nor the turn of one. -/
def Steady (B : Nat) (I : World → Prop) : Prop :=
  ∀ (W W' : World) (row : Option Nat), I W → W.grownBy W' row → (∀ r, row = some r → B ≤ r ∧ ∃ o : Obj, W.heap[r]? = some o ∧ o.isCells = false) → I W'
theorem Steady.alloc {B : Nat} {I : World → Prop} (h : Steady B I) {W : World} (o : Obj) (hi : I W) : I (W.alloc o) := h W _ none hi (World.grownBy_alloc W o none) (fun r e => nomatch e)
theorem Steady.putObj {B : Nat} {I : World → Prop} (h : Steady B I) {W : World} {D : Nat} {o : Obj} (o' : Obj) (hi : I W) (hD : B ≤ D) (ho : W.heap[D]? = some o) (hc : o.isCells = false) : I (W.putObj D o') :=
  h W _ (some D) hi (grownBy_putObj' W D o') (fun r e => by cases e; exact ⟨hD, o, ho, hc⟩)

section
variable {ops : Array Oper} {Q : Exit → Act → World → Prop}
end

/-- How the body may end. -/
def leaves {α : Type} (J : Nat → α → World → Prop) (X : World → Prop) (k : Nat) (x : α) (W : World) : Exit → Act → World → Prop
  | .normal, _, W' => KeepsOthers W W' ∧ J k x W'
  | .ret, _, W' => KeepsOthers W W' ∧ X W'
  | _, _, _ => False

theorem wpIn_range_leave {α : Type} {g : Operand} {ps : Array Tmp} {assign body : Code} {Q : Exit → Act → World → Prop} {a : Act} {w : World} {n : Nat}
    {gf : Nat} {lb : Array Value} (hg : a.eval g = .func (.func gf) #[] lb) (eg : ∀ args w, (callFunc gf args).run P w = .ok (.enter gf args) w)
    {encs : α → Array Value} {I : Nat → World → Prop} {Y J : Nat → α → World → Prop} {X : World → Prop} {N : Nat} (hseq : Rounds P (n - 1) gf lb encs I Y J X N) (hps : ∀ x, (encs x).size = ps.size)
    (A : Nat → α → Act → World → Prop)
    (hI : ∀ k, Steady w.heap.size (I k)) (hA : ∀ k x a', Steady w.heap.size (A k x a')) (hJ : ∀ k x, Steady w.heap.size (J k x)) (hX : Steady w.heap.size X) (h0 : I 0 w)
    (hassign : ∀ (l k : Nat) (x : α) (W : World) (K : Act → World → Prop), Y k x W → (∀ a' W', KeepsOthers W W' → A k x a' W' → K a' W') →
      assign.wpIn (Fence.wide.inRound l) (n - 1 - 1) P (Exit.then K (fun _ _ _ => False)) { tmps := (ps.zip (encs x)).foldl (fun t (p, v) => t.setIfInBounds p v) a.tmps, defers := [] } W)
    (hbody : ∀ (l k : Nat) (x : α) (a' : Act) (W : World), A k x a' W → body.wpIn (Fence.wide.inRound l) (n - 1 - 1) P (leaves J X k x W) a' W)
    (hdone : ∀ (D : Nat) (W : World), w.heap.size ≤ D → I N W → W.heap[D]? = some (.deferred (some [])) → Q .normal { a with defers := { target := .collected D, args := #[] } :: a.defers } W)
    (hstop : ∀ (D : Nat) (W : World), w.heap.size ≤ D → X W → W.heap[D]? = some (.deferred (some [])) → Code.ret.wpIn Fence.wide n P Q { a with defers := { target := .collected D, args := #[] } :: a.defers } W) :
    (Code.rangeFunc g ps assign body).wpIn Fence.wide n P Q a w := by
  refine wpIn_rangeFunc fun fn hfn => ?_
  let rec_ : LoopState → Option Code → Loop := fun st pe => { state := st, pending := pe, fn := fn, tmps := a.tmps, params := ps, assign := assign, body := body, defers := w.heap.size }
  let W1 : World := (w.alloc (.deferred (some []))).alloc (.loop (rec_ .ready none))
  have hL1 : W1.heap[w.heap.size + 1]? = some (.loop (rec_ .ready none)) := by
    have := World.alloc_heap_new (w.alloc (.deferred (some []))) (.loop (rec_ .ready none)); rwa [World.size_alloc] at this
  have hD1 : W1.heap[w.heap.size]? = some (.deferred (some [])) := (Below.heap_alloc _ _ _ (by simp)).trans (World.alloc_heap_new w _)
  refine ⟨w.heap.size + 1, [{ target := .collected w.heap.size, args := #[] }], W1, { target := .fn (.func gf) lb, args := #[.func (.yield (w.heap.size + 1)) #[] #[]] }, W1, gf,
    #[.func (.yield (w.heap.size + 1)) #[] #[]] ++ lb, W1, run_enterLoop_outer _ _ _ _ _, ?_, fun f' hf' => trivial, ?_, fun h => (by cases h), ?_⟩
  · simp only [resolve, hg]
    simp [go_sem]
  · simp [invoke, go_sem, eg]
  · refine (hseq (w.heap.size + 1) (fun W => W.heap[w.heap.size + 1]? = some (.loop (rec_ .ready none)) ∧ W.heap[w.heap.size]? = some (.deferred (some [])))
      (fun W => W.heap[w.heap.size + 1]? = some (.loop (rec_ .done (some .ret))) ∧ W.heap[w.heap.size]? = some (.deferred (some []))) W1
      (fun A B hk h => ⟨hk.same _ _ h.1 rfl, hk.same _ _ h.2 rfl⟩) (fun A B hk h => ⟨hk.same _ _ h.1 rfl, hk.same _ _ h.2 rfl⟩) ?_ ((hI 0).alloc _ ((hI 0).alloc _ h0)) ⟨hL1, hD1⟩).mono ?_
    · rintro k x W0 hy0 ⟨hl0, hd0⟩
      have hy := run_yield (P := P) (args := encs x) hl0 (hps x)
      refine ⟨fn, _, assign, body, hy, roundIn_of_wpIn hfn (hassign _ k x W0 _ hy0 fun a' W hkw hax => ⟨_, run_beginRound (hkw.same _ _ hl0 rfl) rfl, ?_⟩)⟩
      have hl := hkw.same _ _ hl0 rfl
      have hd := hkw.same _ _ hd0 rfl
      have hlt : w.heap.size + 1 < W.heap.size := (Array.getElem?_eq_some_iff.1 hl).1
      have hl2 : (W.putObj (w.heap.size + 1) (.loop { rec_ .ready none with state := .busy })).heap[w.heap.size + 1]? = some (.loop { rec_ .ready none with state := .busy }) := World.putObj_heap_same hlt
      have hd2 : (W.putObj (w.heap.size + 1) (.loop { rec_ .ready none with state := .busy })).heap[w.heap.size]? = some (.deferred (some [])) := (World.putObj_heap_other (by omega)).trans hd
      refine wpIn_mono (hbody _ k x a' _ ((hA k x a').putObj _ hax (by omega) hl rfl)) ?_
      rintro e a3 W3 hp
      cases e with
      | normal =>
        obtain ⟨hk3, hj3⟩ := hp
        have hl3 := hk3.same _ _ hl2 rfl
        exact ⟨_, _, run_endRound (P := P) none hl3, .inl ⟨rfl, (hJ k x).putObj _ hj3 (by omega) hl3 rfl, World.putObj_heap_same (Array.getElem?_eq_some_iff.1 hl3).1, (World.putObj_heap_other (by omega)).trans (hk3.same _ _ hd2 rfl)⟩⟩
      | ret =>
        obtain ⟨hk3, hj3⟩ := hp
        have hl3 := hk3.same _ _ hl2 rfl
        exact ⟨_, _, run_endRound (P := P) (some .ret) hl3, .inr ⟨rfl, hX.putObj _ hj3 (by omega) hl3 rfl, World.putObj_heap_same (Array.getElem?_eq_some_iff.1 hl3).1, (World.putObj_heap_other (by omega)).trans (hk3.same _ _ hd2 rfl)⟩⟩
      | exit id => exact hp.elim
      | goto t => exact hp.elim
      | panic ch => exact hp.elim
      | outgrown => exact hp.elim
    · rintro e W2 ⟨⟨v, rfl⟩, (⟨hi, hl, hd⟩ | ⟨hi, hl, hd⟩)⟩
      · exact ⟨none, _, run_endLoop (P := P) hl (by simp [rec_]), hdone _ _ (Nat.le_refl _) ((hI N).putObj _ hi (by omega) hl rfl) ((World.putObj_heap_other (by omega)).trans hd)⟩
      · exact ⟨some .ret, _, run_endLoop (P := P) hl (by simp [rec_]), hstop _ _ (Nat.le_refl _) (hX.putObj _ hi (by omega) hl rfl) ((World.putObj_heap_other (by omega)).trans hd)⟩
end Go.Proofs.YtnjcifppkijanaaGreatDoor
