/- What the functions of layer 12 compute, in plain Lean: plain trees. No program. -/
import Derived.Test.YtnjcifppkijanaaGreatDoorBase
import Derived.Deep.MidRow
set_option linter.unusedSimpArgs false
set_option linter.unusedVariables false
namespace Go.Proofs.YtnjcifppkijanaaGreatDoor
open Go Go.RowKit

/-- A file of a plain tree. -/
structure Pf where
  path : ByteArray
  ty : Int
  mode : Int
  data : ByteArray
abbrev Pf.arr (f : Pf) : Array Value := #[.string f.path, .int .i64 f.ty, .int .i64 f.mode, .string f.data]
abbrev Pf.v (f : Pf) : Value := .agg f.arr
def Pf.zero : Pf := ⟨⟨#[]⟩, 0, 0, ⟨#[]⟩⟩
instance : Inhabited Pf := ⟨Pf.zero⟩

namespace Tr
def lt (s t : ByteArray) : Bool := Op.bytesLess s.toList t.toList
def parent (s : ByteArray) : ByteArray := s.extract 0 (Lib.lastIndexByte s 47).toNat
def element (f : Pf) : Int :=
  if Qm.isPath f.path = false then 5
  else if f.ty < 1 ∨ 4 < f.ty then 8
  else if f.mode < 0 ∨ 511 < f.mode then 2
  else if f.ty = 4 ∧ (f.mode ≠ 0 ∨ Qm.eqB f.data ⟨#[]⟩ = false) then 1
  else Qm.content f.ty f.data
def find (t : List Pf) (s : ByteArray) : Option Pf := t.find? fun f => Qm.eqB f.path s
/-- A directory of t, or the root. -/
def isDir (t : List Pf) (s : ByteArray) : Bool := Qm.eqB s ⟨#[]⟩ || t.any fun f => f.ty == 4 && Qm.eqB f.path s
/-- Whether f may not stand behind the last one of l. -/
def wrong (l : List Pf) (f : Pf) : Bool := match l.getLast? with
  | some g => lt f.path g.path || Qm.eqB f.path g.path
  | none => false
def checkFrom (pre : List Pf) : List Pf → Int
  | [] => 0
  | f :: r => if element f ≠ 0 then element f else if wrong pre f = true then 9 else if isDir pre (parent f.path) = false then 7 else checkFrom (pre ++ [f]) r
def checkTree (t : List Pf) : Int := if 200 < t.length then 4 else checkFrom [] t
def room (t : List Pf) (s : ByteArray) : Int :=
  if (find t s).isSome then 6
  else if Qm.eqB (parent s) ⟨#[]⟩ then 0
  else match find t (parent s) with
    | none => 7
    | some f => if f.ty = 4 then 0 else 8
def shift (path to_ : ByteArray) (f : Pf) : Pf := if Qm.eqB f.path path || Qm.below f.path path then { f with path := to_ ++ f.path.extract path.size f.path.size } else f
/-- The outcomes of looking for something from place k on. -/
theorem find_none_iff {t : List Pf} {s : ByteArray} : find t s = none ↔ ∀ f ∈ t, Qm.eqB f.path s = false := by
  unfold find
  rw [List.find?_eq_none]
  constructor
  · intro h f hf
    have := h f hf
    simpa using this
  · intro h f hf
    simp [h f hf]
theorem find_at {t : List Pf} {s : ByteArray} {k : Nat} {f : Pf} (hk : t[k]? = some f) (hn : ∀ j g, j < k → t[j]? = some g → Qm.eqB g.path s = false) (h : Qm.eqB f.path s = true) : find t s = some f := by
  unfold find
  induction t generalizing k with
  | nil => simp at hk
  | cons x t ih =>
    cases k with
    | zero =>
      simp at hk
      subst hk
      simp [List.find?_cons, h]
    | succ k =>
      have hx := hn 0 x (by omega) rfl
      simp only [List.find?_cons, hx]
      exact ih (by simpa using hk) (fun j g hj hg => hn (j + 1) g (by omega) (by simpa using hg))
end Tr

/-- The cells of a tree. -/
def fl : List Pf → List Value
  | [] => []
  | f :: r => f.arr.toList ++ fl r
theorem fl_append (a b : List Pf) : fl (a ++ b) = fl a ++ fl b := by
  induction a with
  | nil => rfl
  | cons f a ih => rw [List.cons_append, fl, fl, ih, List.append_assoc]
theorem fl_get {l : List Pf} {i : Nat} {f : Pf} (h : l[i]? = some f) {j : Nat} (hj : j < 4) : (fl l)[i * 4 + j]? = f.arr.toList[j]? := by
  induction l generalizing i with
  | nil => simp at h
  | cons g l ih =>
    cases i with
    | zero =>
      simp at h
      subst h
      rw [fl, List.getElem?_append_left (by simp; omega)]
      simp
    | succ i =>
      rw [fl, List.getElem?_append_right (by simp; omega)]
      have := ih (i := i) (by simpa using h)
      rw [← this]
      congr 1
      simp
      omega
/-- In memory: a slice from A on holds the files of l. -/
def Trs (w : World) (A : Option Addr) (l : List Pf) : Prop := 0 < l.length → ∃ b o, A = some ⟨b, o, none⟩ ∧ b < w.heap.size ∧ w.rangeAt b o (fl l)
theorem Trs.ext {w w' : World} {A : Option Addr} {l : List Pf} (h : Trs w A l) (hx : Ext w w') : Trs w' A l := fun h0 => by
  obtain ⟨b, o, hA, hb, hr⟩ := h h0
  exact ⟨b, o, hA, Nat.lt_of_lt_of_le hb hx.size_le, fun j v hv => by rw [hx.cell (p := ⟨b, _, none⟩) hb]; exact hr j v hv⟩
theorem Trs.nil (w : World) (A : Option Addr) : Trs w A [] := fun h => absurd h (Nat.lt_irrefl 0)
theorem Trs.get {w : World} {A : Option Addr} {l : List Pf} (h : Trs w A l) {i : Nat} {f : Pf} (hi : l[i]? = some f) :
    ∃ b o, A = some ⟨b, o, none⟩ ∧ b < w.heap.size ∧ w.cell? ⟨b, o + i * 4, none⟩ = some (.string f.path) ∧ w.cell? ⟨b, o + i * 4 + 1, none⟩ = some (.int .i64 f.ty) ∧ w.cell? ⟨b, o + i * 4 + 2, none⟩ = some (.int .i64 f.mode) ∧ w.cell? ⟨b, o + i * 4 + 3, none⟩ = some (.string f.data) := by
  have hl := (List.getElem?_eq_some_iff.1 hi).1
  obtain ⟨b, o, hA, hb, hr⟩ := h (by omega)
  refine ⟨b, o, hA, hb, ?_, ?_, ?_, ?_⟩
  · exact hr (i * 4) _ (by have := fl_get hi (j := 0) (by omega); simpa using this)
  · have := hr (i * 4 + 1) _ (by have := fl_get hi (j := 1) (by omega); simpa using this)
    rwa [← Nat.add_assoc] at this
  · have := hr (i * 4 + 2) _ (by have := fl_get hi (j := 2) (by omega); simpa using this)
    rwa [← Nat.add_assoc] at this
  · have := hr (i * 4 + 3) _ (by have := fl_get hi (j := 3) (by omega); simpa using this)
    rwa [← Nat.add_assoc] at this
end Go.Proofs.YtnjcifppkijanaaGreatDoor
