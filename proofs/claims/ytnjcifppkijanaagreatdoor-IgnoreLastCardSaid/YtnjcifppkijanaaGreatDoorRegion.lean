/- A region that draws its order: all operations but a last few, which come one after the other, hand back one value in every world of a class (a call may leave another world of the class). Then one walk in the order of the text serves every order. Over any program; no condition on it but that mixed orders are followed. -/
import Derived.StillTail
import Derived.Deep.Quiet
import Derived.BigQuiet
import Derived.Below
set_option linter.unusedSimpArgs false
set_option linter.unusedVariables false
namespace Go.Proofs.YtnjcifppkijanaaGreatDoor
open Go Go.RowKit

section
variable {P : Program} {ops : Array Oper} {md : Region.Mode} {C : World → Prop}

/-- The same where every operation is quiet. -/
theorem wp_region_quiet_all {id : Nat} {Q : Exit → Act → World → Prop} {a : Act} {w : World} {l : List Oper} (C : World → Prop) (hm : P.follows .mixedOrders = true)
    (hB : Region.lexB .any l.toArray = true) (hC : C { w with drawn := w.drawn + 1 })
    (h : wpQuiet P l.toArray C (fun a' => ∀ w', C w' → Q .normal a' w') l a) : (Code.region id l.toArray true).wp P Q a w :=
  wp_region_quiet (C := C) hm hB hC (by simpa using h)

end

/-- The class: whatever has come of w by draws and new blocks. -/
def Ext (w w' : World) : Prop := Below w.heap.size w w'
theorem Ext.refl (w : World) : Ext w w := Below.refl _ _
theorem Ext.drew (w : World) : Ext w { w with drawn := w.drawn + 1 } := (Below.refl _ w).drew
theorem Ext.trans {a b c : World} (h : Ext a b) (k : Ext b c) : Ext a c := Below.trans h (Below.mono k (Below.size h))
theorem Ext.cell {w w' : World} (h : Ext w w') {p : Addr} (hp : p.block < w.heap.size) : w'.cell? p = w.cell? p := Below.cell h hp
theorem Ext.frozen {w w' : World} (h : Ext w w') {p : Addr} (hp : p.block < w.heap.size) : w'.frozen? p = w.frozen? p := Below.frozen h hp
theorem Ext.alloc {w w' : World} (h : Ext w w') (o : Obj) : Ext w (w'.alloc o) := Below.alloc h (Below.size h) o
theorem Ext.setCell {w w' : World} (h : Ext w w') {p : Addr} (hp : w.heap.size ≤ p.block) (u : Value) : Ext w (w'.setCell p u) := Below.setCell h hp u
theorem Ext.drewN {w w' : World} (h : Ext w w') (n : Nat) : Ext w (w'.drewN n) := ⟨h.os, h.tape, h.output, h.size, h.block⟩
theorem Ext.drew1 {w w' : World} (h : Ext w w') : Ext w w'.drew := ⟨h.os, h.tape, h.output, h.size, h.block⟩
theorem Ext.size_le {w w' : World} (h : Ext w w') : w.heap.size ≤ w'.heap.size := h.size
/-- A block that is known whole, none of its cells frozen. -/
def Blk (w : World) (g : Nat) (t : TypeId) (cs : Array Value) : Prop := w.heap[g]? = some (.cells cs t (0, 0))
section
variable {w w' : World} {g : Nat} {t : TypeId} {cs : Array Value}
theorem Blk.lt (h : Blk w g t cs) : g < w.heap.size := (Array.getElem?_eq_some_iff.1 h).1
theorem Blk.ne (h : Blk w g t cs) : g ≠ w.heap.size := Nat.ne_of_lt h.lt
theorem Blk.cell (h : Blk w g t cs) : ∀ i, w.cell? ⟨g, i, none⟩ = cs[i]? := fun i => by
  unfold Blk at h
  simp [World.cell?, h]
theorem Blk.frozen (h : Blk w g t cs) : ∀ i, w.frozen? ⟨g, i, none⟩ = false := fun i => by
  unfold Blk at h
  simp [World.frozen?, h]
theorem Blk.new' (h : g = w.heap.size) : Blk (w.alloc (.cells cs t)) g t cs := by
  subst h
  show (w.heap.push _)[w.heap.size]? = _
  simp
theorem Blk.mk (h : w.heap[g]? = some (.cells cs t (0, 0))) : Blk w g t cs := h
theorem Blk.eq (h : Blk w g t cs) : w.heap[g]? = some (.cells cs t (0, 0)) := h
theorem ne_two (n : Nat) : (n = n + 1 + 1) = False := eq_false (by omega)
theorem ne_three (n : Nat) : (n = n + 1 + 1 + 1) = False := eq_false (by omega)
theorem ne_two_left (n : Nat) : (n + 1 + 1 = n) = False := eq_false (by omega)
theorem ne_three_left (n : Nat) : (n + 1 + 1 + 1 = n) = False := eq_false (by omega)
theorem heap_drewN_at (n i : Nat) : (w.drewN n).heap[i]? = w.heap[i]? := rfl
theorem heap_drew_at (i : Nat) : w.drew.heap[i]? = w.heap[i]? := rfl
/-- A block of the heap behind a new one; behind a store. -/
theorem heap_alloc_at (o : Obj) (i : Nat) : (w.alloc o).heap[i]? = if i = w.heap.size then some o else w.heap[i]? := by
  show (w.heap.push o)[i]? = _
  rw [Array.getElem?_push]
theorem heap_set_at (b k i : Nat) (v : Value) : (w.setCell ⟨b, k, none⟩ v).heap[i]? = if i = b then (match w.heap[i]? with | some (.cells cs t fr) => some (.cells (cs.setIfInBounds k v) t fr) | x => x) else w.heap[i]? := by
  by_cases h : i = b
  · subst h
    rw [if_pos rfl]
    simp only [World.setCell, Array.getElem?_modify, if_true]
    cases w.heap[i]? with
    | none => rfl
    | some o => cases o <;> rfl
  · rw [if_neg h]
    exact Below.heap_setCell w ⟨b, k, none⟩ v i h
theorem Blk.drew (h : Blk w g t cs) : Blk w.drew g t cs := h
theorem Blk.drewN (h : Blk w g t cs) (n : Nat) : Blk (w.drewN n) g t cs := h
theorem Blk.alloc (h : Blk w g t cs) (o : Obj) : Blk (w.alloc o) g t cs := (Below.heap_alloc w o g h.lt).trans h
theorem Blk.set_ (h : Blk w g t cs) (i : Nat) (u : Value) : Blk (w.setCell ⟨g, i, none⟩ u) g t (cs.setIfInBounds i u) := by
  unfold Blk at h ⊢
  simp [World.setCell, Array.getElem?_modify, h]
theorem Blk.far (h : Blk w g t cs) {p : Addr} (hp : g ≠ p.block) (u : Value) : Blk (w.setCell p u) g t cs := (Below.heap_setCell w p u g hp).trans h
theorem Blk.ext (hx : Ext w w') (h : Blk w g t cs) : Blk w' g t cs := (Below.block hx g h.lt).trans h
end

/-- One operation of the quiet walk, its value found on the way. -/
theorem quiet_at {P : Program} {o : Oper} {a : Act} {C : World → Prop} {K : Act → Prop} {v : Value} (h1 : ∀ w, C w → Oper.quietUpon P C w v ((execOp a.eval o).run P w)) (h2 : K (a.put o.dst v)) : o.quiet P a C K := ⟨v, h1, h2⟩
theorem wp_region_ext {P : Program} {id : Nat} {Q : Exit → Act → World → Prop} {a : Act} {w : World} {l : List Oper} (hm : P.follows .mixedOrders = true)
    (hB : Region.lexB .any l.toArray = true) (h : wpQuiet P l.toArray (Ext w) (fun a' => ∀ w', Ext w w' → Q .normal a' w') l a) : (Code.region id l.toArray true).wp P Q a w :=
  wp_region_quiet_all (Ext w) hm hB (Ext.drew w) h
/-- What a call owes in the quiet walk. -/
theorem quiet_call {P : Program} {f : FuncId} {args : Array Value} {w w' : World} {v : Value} {R : Ending → World → Prop} (hw : Ext w w') (h : Calls P f args w' R) (hR : ∀ e w'', R e w'' → e = .returned v ∧ Ext w' w'') :
    Calls P f args w' fun e w'' => e = .returned v ∧ Ext w w'' := h.mono fun e w'' hh => ⟨(hR e w'' hh).1, hw.trans (hR e w'' hh).2⟩

/-! ### Short words -/
theorem Blk.all {w : World} {g : Nat} {t : TypeId} {cs : Array Value} (h : Blk w g t cs) : (∀ i, w.cell? ⟨g, i, none⟩ = cs[i]?) ∧ (∀ i, w.frozen? ⟨g, i, none⟩ = false) ∧ g < w.heap.size := ⟨h.cell, h.frozen, h.lt⟩
theorem sA {l : List Value} {i : Nat} {a : Value} : l.toArray.setIfInBounds i a = (l.set i a).toArray := by simp
theorem s0 {x y : Value} {l : List Value} : (x :: l).set 0 y = y :: l := rfl
theorem sS {x y : Value} {l : List Value} {n : Nat} : (x :: l).set (n + 1) y = x :: l.set n y := rfl
/-- Nothing that was there has turned, as the world's own words say. -/
theorem EX {a b : World} (h : Ext a b := by (repeat (first | with_reducible (first | exact hx | exact Ext.refl _ | refine Ext.alloc ?_ _ | refine Ext.drewN ?_ _ | refine Ext.drew1 ?_) | ((with_reducible refine Ext.setCell ?_ ?_ _); rotate_left; (focus (first | (dsimp only; omega) | (simp; done) | (simp; omega))))))) : Ext a b := h
theorem BB {a b : World} (h : Ext a b) (k : Nat) (hk : k < a.heap.size := by first | (simp; done) | (simp; omega) | omega) : b.heap[k]? = a.heap[k]? := Below.block h k hk
end Go.Proofs.YtnjcifppkijanaaGreatDoor
