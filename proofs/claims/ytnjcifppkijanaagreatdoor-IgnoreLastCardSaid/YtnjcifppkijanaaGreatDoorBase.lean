/- Common words: a patch as a value; what later worlds keep. -/
import Derived.Test.YtnjcifppkijanaaGreatDoorRows
import Derived.Test.YtnjcifppkijanaaGreatDoorRegion
import Derived.Test.YtnjcifppkijanaaGreatDoorModel
import Derived.WalkKit
import Derived.WalkSpells
import Derived.WalkLawsBesides
import Derived.Lib.Hide
set_option linter.unusedSimpArgs false
set_option linter.unusedVariables false
namespace Go.Proofs.YtnjcifppkijanaaGreatDoor
open Go.RowKit

/-- A patch as the walk sees it: the lists are slices somewhere. -/
structure Pv where
  kind : Int
  path : ByteArray
  to_ : ByteArray
  ty : Int
  at_ : Int
  A1 : Option Addr
  n1 : Nat
  c1 : Nat
  A2 : Option Addr
  n2 : Nat
  c2 : Nat
  off : Int
  so : ByteArray
  sn : ByteArray
  om : Int
  nm : Int

abbrev Pv.v (p : Pv) : Value :=
  .agg #[.int .i64 p.kind, .string p.path, .string p.to_, .int .i64 p.ty, .int .i64 p.at_, .slice p.A1 p.n1 p.c1, .slice p.A2 p.n2 p.c2, .int .i64 p.off, .string p.so, .string p.sn, .int .i64 p.om, .int .i64 p.nm]

/-- What a later world keeps, as rules of the walk. -/
theorem bcell {W w1 : World} (hb : Ext W w1) : (∀ b o, b < W.heap.size → w1.cell? ⟨b, o, none⟩ = W.cell? ⟨b, o, none⟩) ∧ (∀ b o, b < W.heap.size → w1.frozen? ⟨b, o, none⟩ = W.frozen? ⟨b, o, none⟩) :=
  ⟨fun b o h => hb.cell (p := ⟨b, o, none⟩) h, fun b o h => hb.frozen (p := ⟨b, o, none⟩) h⟩

/-- The call returns v; what lay in memory lies there still. -/
def Ret (v : Value) (w : World) (e : Ending) (w' : World) : Prop := e = .returned v ∧ Ext w w'
theorem Ret.mk {v v' : Value} {w w' : World} (h : v' = v) (hx : Ext w w') : Ret v w (.returned v') w' := ⟨by rw [h], hx⟩
theorem Ret.bcell {v : Value} {w w' : World} {e : Ending} (h : Ret v w e w') : e = .returned v ∧ Ext w w' := h

/-- The variable of the library's own that strings.Split reads holds a number. -/
def Glob (w : World) : Prop := ∃ m : Int, w.cell? ⟨0, 0, none⟩ = some (.int .i64 m)
theorem lt_of_cell {w : World} {a : Addr} {v : Value} (h : w.cell? a = some v) : a.block < w.heap.size := by
  rcases Nat.lt_or_ge a.block w.heap.size with h1 | h1
  · exact h1
  · simp [World.cell?, Array.getElem?_eq_none h1] at h
theorem Glob.ext {w w' : World} (h : Glob w) (hx : Ext w w') : Glob w' := by
  obtain ⟨m, hm⟩ := h
  exact ⟨m, (hx.cell (lt_of_cell hm)).trans hm⟩

/-- A slice of strings that reads as l. -/
def Lst (w : World) (A : Option Addr) (n : Nat) (l : List ByteArray) : Prop :=
  l.length = n ∧ (0 < n → ∃ b o, A = some ⟨b, o, none⟩ ∧ b < w.heap.size ∧ ∀ j, j < n → w.cell? ⟨b, o + j, none⟩ = some (.string (l.getD j ByteArray.empty)))
theorem Lst.ext {w w' : World} {A : Option Addr} {n : Nat} {l : List ByteArray} (h : Lst w A n l) (hx : Ext w w') : Lst w' A n l := by
  refine ⟨h.1, fun hn => ?_⟩
  obtain ⟨b, o, hA, hb, hc⟩ := h.2 hn
  exact ⟨b, o, hA, Nat.lt_of_lt_of_le hb hx.size_le, fun j hj => (hx.cell (p := ⟨b, o + j, none⟩) hb).trans (hc j hj)⟩
theorem Lst.nil (w : World) (A : Option Addr) : Lst w A 0 [] := ⟨rfl, fun h => absurd h (Nat.lt_irrefl 0)⟩

/-- A hunk as the walk sees it. -/
structure Hv where
  at_ : Int
  A1 : Option Addr
  n1 : Nat
  c1 : Nat
  A2 : Option Addr
  n2 : Nat
  c2 : Nat
abbrev Hv.v (h : Hv) : Value := .agg #[.int .i64 h.at_, .slice h.A1 h.n1 h.c1, .slice h.A2 h.n2 h.c2]
/-- Lengths and places that are far from any overflow. -/
def Hv.fair (h : Hv) : Prop := h.n1 ≤ 1152921504606846976 ∧ h.n2 ≤ 1152921504606846976
/-- hunks.Check of one hunk. -/
def Hv.check (h : Hv) : Int := if h.at_ < 0 ∨ 1099511627776 < h.at_ then 2 else if h.n1 + h.n2 = 0 then 1 else 0
def Hv.zero : Hv := ⟨0, none, 0, 0, none, 0, 0⟩
def Hv.shift (h : Hv) (d : Int) : Hv := { h with at_ := h.at_ + d }
def Hv.growth (h : Hv) : Int := (h.n2 : Int) - h.n1

/-- Patch p with the paths that it has behind patch q. -/
def Pv.through (p q : Pv) : Pv × Bool :=
  let x := if Qm.adds p.kind then Qm.newAfter q.kind q.path q.to_ p.path else Qm.after q.kind q.path q.to_ p.path
  let y := if p.kind == 5 then Qm.newAfter q.kind q.path q.to_ p.to_ else (p.to_, true)
  ({ p with path := x.1, to_ := y.1 }, x.2 && y.2)

abbrev slash : ByteArray := { data := #[47] }
end Go.Proofs.YtnjcifppkijanaaGreatDoor
