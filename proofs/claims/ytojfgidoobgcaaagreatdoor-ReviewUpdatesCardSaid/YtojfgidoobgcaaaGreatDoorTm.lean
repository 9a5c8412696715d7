/- What the functions of layer 12 compute, in plain Lean: plain trees. No program. -/
import Derived.Test.YtojfgidoobgcaaaGreatDoorBase
import Derived.Deep.MidRow
set_option linter.unusedSimpArgs false
set_option linter.unusedVariables false
namespace Go.Proofs.YtojfgidoobgcaaaGreatDoor
open Go Go.RowKit

/-- A file of a plain tree. -/
structure Pf where
  path : ByteArray
  ty : Int
  mode : Int
  data : ByteArray
abbrev Pf.arr (f : Pf) : Array Value := #[.string f.path, .int .i64 f.ty, .int .i64 f.mode, .string f.data]
abbrev Pf.v (f : Pf) : Value := .agg f.arr
def Pf.zero : Pf := ⟨⟨#[]⟩, 0, 0, ⟨#[]⟩⟩
instance : Inhabited Pf := ⟨Pf.zero⟩

namespace Tr
def lt (s t : ByteArray) : Bool := Op.bytesLess s.toList t.toList
def parent (s : ByteArray) : ByteArray := s.extract 0 (Lib.lastIndexByte s 47).toNat
def element (f : Pf) : Int :=
  if Qm.isPath f.path = false then 5
  else if f.ty < 1 ∨ 4 < f.ty then 8
  else if f.mode < 0 ∨ 511 < f.mode then 2
  else if f.ty = 4 ∧ (f.mode ≠ 0 ∨ Qm.eqB f.data ⟨#[]⟩ = false) then 1
  else Qm.content f.ty f.data
def find (t : List Pf) (s : ByteArray) : Option Pf := t.find? fun f => Qm.eqB f.path s
/-- A directory of t, or the root. -/
def isDir (t : List Pf) (s : ByteArray) : Bool := Qm.eqB s ⟨#[]⟩ || t.any fun f => f.ty == 4 && Qm.eqB f.path s
/-- Whether f may not stand behind the last one of l. -/
def wrong (l : List Pf) (f : Pf) : Bool := match l.getLast? with
  | some g => lt f.path g.path || Qm.eqB f.path g.path
  | none => false
def checkFrom (pre : List Pf) : List Pf → Int
  | [] => 0
  | f :: r => if element f ≠ 0 then element f else if wrong pre f = true then 9 else if isDir pre (parent f.path) = false then 7 else checkFrom (pre ++ [f]) r
def checkTree (t : List Pf) : Int := if 200 < t.length then 4 else checkFrom [] t
def room (t : List Pf) (s : ByteArray) : Int :=
  if (find t s).isSome then 6
  else if Qm.eqB (parent s) ⟨#[]⟩ then 0
  else match find t (parent s) with
    | none => 7
    | some f => if f.ty = 4 then 0 else 8
/-- f put into a sorted list, where it may take the place of another one. -/
def putIn (f : Pf) : List Pf → List Pf
  | [] => [f]
  | g :: r => if lt g.path f.path then g :: putIn f r else if Qm.eqB g.path f.path then f :: r else f :: g :: r
def sort (l : List Pf) : List Pf := l.foldl (fun a f => putIn f a) []
/-- The outcomes of looking for something from place k on. -/
theorem find_none_iff {t : List Pf} {s : ByteArray} : find t s = none ↔ ∀ f ∈ t, Qm.eqB f.path s = false := by
  unfold find
  rw [List.find?_eq_none]
  constructor
  · intro h f hf
    have := h f hf
    simpa using this
  · intro h f hf
    simp [h f hf]
end Tr

end Go.Proofs.YtojfgidoobgcaaaGreatDoor
