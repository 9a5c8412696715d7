/- What memory keeps where a block that is no cells turns. No program's function. -/
import Derived.Test.YtnjcifppkijanaaGreatDoorBase
import Derived.Laws.AppendOwn
import Derived.Test.YtnjcifppkijanaaGreatDoorRange
import Derived.Test.YtnjcifppkijanaaGreatDoorF
import Derived.Test.YtnjcifppkijanaaGreatDoorJ
set_option linter.unusedSimpArgs false
set_option linter.unusedVariables false
namespace Go.Proofs.YtnjcifppkijanaaGreatDoor
open Go Go.RowKit
section
variable {w w' : World}
/-! ### A block that is no cells has turned -/
/-- Whatever is cells lies as it lay. -/
def Turned (w w' : World) : Prop := ∃ row : Option Nat, w.grownBy w' row ∧ ∀ r, row = some r → ∃ o : Obj, w.heap[r]? = some o ∧ o.isCells = false
theorem Turned.size (h : Turned w w') : w.heap.size ≤ w'.heap.size := by
  obtain ⟨row, hg, _⟩ := h
  exact hg.size
theorem Turned.cell {p : Addr} {v : Value} (h : Turned w w') (hc : w.cell? p = some v) : w'.cell? p = some v := by
  obtain ⟨row, hg, hr⟩ := h
  exact cell_kept hc hg hr
theorem Blk.turned {g : Nat} {t : TypeId} {cs : Array Value} (h : Blk w g t cs) (ht : Turned w w') : Blk w' g t cs := by
  obtain ⟨row, hg, hr⟩ := ht
  refine (hg.block g h.lt fun e => ?_).trans h
  obtain ⟨o, ho, hc⟩ := hr g e.symm
  have h0 : w.heap[g]? = some (.cells cs t (0, 0)) := h
  rw [h0] at ho
  obtain rfl := Option.some.inj ho
  cases hc
theorem Sl.turned {A : Option Addr} {n c : Nat} {l : List ByteArray} (h : Sl w A n c l) (ht : Turned w w') : Sl w' A n c l := by
  refine ⟨⟨h.1.1, fun hn => ?_⟩, h.2⟩
  obtain ⟨b, o, hA, hlt, hc⟩ := h.1.2 hn
  exact ⟨b, o, hA, Nat.lt_of_lt_of_le hlt ht.size, fun j hj => ht.cell (hc j hj)⟩
theorem Ext.steady (w : World) {B : Nat} (hB : w.heap.size ≤ B) : Steady B (Ext w) := fun W W' row hi hg hr => Below.grown hi hg hi.size_le (fun k e => Nat.le_trans hB (hr k e).1)
theorem Steady.and {B : Nat} {I J : World → Prop} (h : Steady B I) (k : Steady B J) : Steady B (fun W => I W ∧ J W) := fun W W' row hi hg hr => ⟨h W W' row hi.1 hg hr, k W W' row hi.2 hg hr⟩
theorem Ext.keeps (h : Ext w w') : KeepsOthers w w' := ⟨h.size_le, fun k o hk _ => (Below.block h k (Array.getElem?_eq_some_iff.1 hk).1).trans hk⟩
end
end Go.Proofs.YtnjcifppkijanaaGreatDoor
