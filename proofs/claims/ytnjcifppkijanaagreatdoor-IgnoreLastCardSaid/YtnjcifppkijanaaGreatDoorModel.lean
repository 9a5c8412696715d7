/- What the functions compute, in plain Lean: paths. No program. What the functions compute, in plain Lean: lines. No program. -/
import Derived.Lib.Strings
import Derived.Lib.Bytealg
import Derived.Lib.Split
import Derived.Lib.LastIndexByte
import Derived.Laws.Strings
import Derived.Laws.DeepStrings4
set_option linter.unusedSimpArgs false
set_option linter.unusedVariables false
namespace Go.Proofs.YtnjcifppkijanaaGreatDoor
open Go

namespace Qm
def eqB (s t : ByteArray) : Bool := s.toList == t.toList
def below (s t : ByteArray) : Bool := Lib.hasPrefix s.data.toList (t.data.toList ++ [47])
def within (s t : ByteArray) : Bool := eqB s t || below s t
def adds (k : Int) : Bool := k == 1 || k == 3
def frees (k : Int) : Bool := k == 2 || k == 4 || k == 5
def newPath (k : Int) (path to_ : ByteArray) : ByteArray × Bool := if adds k then (path, true) else (to_, k == 5)
/-- Where a path is after a patch of kind k. -/
def after (k : Int) (path to_ s : ByteArray) : ByteArray × Bool :=
  if k == 1 || k == 2 || k == 3 || k == 4 then (s, !within s path)
  else if k == 5 then (if within s path then (to_ ++ s.extract path.size s.size, true) else (s, !within s to_))
  else (s, !below s path)
def newAfter (k : Int) (path to_ s : ByteArray) : ByteArray × Bool :=
  if decide (6 ≤ k) && below s path then (⟨#[]⟩, false)
  else if Lib.lastIndexByte s 47 < 0 then (s, true)
  else ((after k path to_ (s.extract 0 (Lib.lastIndexByte s 47).toNat)).1 ++ s.extract (Lib.lastIndexByte s 47).toNat s.size, (after k path to_ (s.extract 0 (Lib.lastIndexByte s 47).toNat)).2)
def nameChar (c : UInt8) : Bool := (decide (97 ≤ c.toNat) && decide (c.toNat ≤ 122)) || (decide (65 ≤ c.toNat) && decide (c.toNat ≤ 90)) || (decide (48 ≤ c.toNat) && decide (c.toNat ≤ 57)) || c.toNat == 46 || c.toNat == 95 || c.toNat == 45
def isName (s : ByteArray) : Bool := s.data.toList.all nameChar && (!(s.toList == []) && decide (s.size ≤ 40) && !(s.toList == [46]) && !(s.toList == [46, 46]))
def isPath (s : ByteArray) : Bool := decide (s.size ≤ 200) && (Lib.splitB ⟨#[47]⟩ 0 (Lib.countB s ⟨#[47]⟩) s).all isName
def validLine (s : ByteArray) : Bool := decide (s.size ≤ 1000) && decide (Lib.indexByte s.data.toList 10 < 0) && decide (Lib.indexByte s.data.toList 0 < 0)
theorem take_snoc (s : ByteArray) (k : Nat) (h : k < s.size) : s.data.toList.take (k + 1) = s.data.toList.take k ++ [s[k]] := by
  rw [List.take_succ_eq_append_getElem (by simpa using h)]; rfl
theorem all_snoc (s : ByteArray) (k : Nat) (h : k < s.size) (ha : (s.data.toList.take k).all nameChar = true) (hc : nameChar s[k] = true) : (s.data.toList.take (k + 1)).all nameChar = true := by
  rw [take_snoc s k h, List.all_append, ha]; simp [hc]
theorem not_all (s : ByteArray) (k : Nat) (h : k < s.size) (hc : nameChar s[k] = false) : isName s = false := by
  have : s.data.toList.all nameChar = false := by
    rw [List.all_eq_false]
    refine ⟨s[k], ?_, by simp [hc]⟩
    have hm := List.getElem_mem (l := s.data.toList) (n := k) (by simpa using h)
    exact hm
  simp [isName, this]
theorem size_of_below {s t : ByteArray} (h : below s t = true) : t.size < s.size := by
  have := List.IsPrefix.length_le (List.isPrefixOf_iff_prefix.1 h)
  simp at this
  exact this
theorem toList_inj {s t : ByteArray} (h : s.toList = t.toList) : s = t := by
  rw [ByteArray.toList_eq, ByteArray.toList_eq] at h
  exact ByteArray.ext (Array.toList_inj.1 h)
theorem eqB_iff {s t : ByteArray} : eqB s t = true ↔ s = t := by
  unfold eqB
  rw [beq_iff_eq]
  exact ⟨toList_inj, fun h => by rw [h]⟩
theorem lastIdx_lt (s : ByteArray) (c : Int) (n : Nat) : Lib.lastIdx s c n < n := by
  induction n with
  | zero => simp [Lib.lastIdx]
  | succ n ih => unfold Lib.lastIdx; split <;> omega
theorem lastIndex_lt (s : ByteArray) : Lib.lastIndexByte s 47 < s.size := lastIdx_lt s 47 s.size
end Qm
end Go.Proofs.YtnjcifppkijanaaGreatDoor
namespace Go.Proofs.YtnjcifppkijanaaGreatDoor
open Go
namespace Qm
/-- The parts of a string that a line feed follows. -/
def linesFrom : Nat → ByteArray → List ByteArray
  | 0, _ => []
  | n + 1, s => if Lib.indexByte s.data.toList 10 < 0 then [] else s.extract 0 (Lib.indexByte s.data.toList 10).toNat :: linesFrom n (s.extract ((Lib.indexByte s.data.toList 10).toNat + 1) s.size)
def linesOf (s : ByteArray) : List ByteArray := linesFrom (s.size + 1) s
theorem indexByte_lt (l : List UInt8) (c : UInt8) : Lib.indexByte l c < l.length := by
  induction l with
  | nil => simp [Lib.indexByte]
  | cons x l ih =>
    unfold Lib.indexByte
    simp only [List.length_cons]
    split
    · omega
    · split <;> omega
theorem toList_length (s : ByteArray) : s.data.toList.length = s.size := rfl
theorem linesFrom_more (n : Nat) : ∀ (m : Nat) (s : ByteArray), s.size < n → s.size < m → linesFrom n s = linesFrom m s := by
  induction n with
  | zero => intro m s h; omega
  | succ n ih =>
    intro m s h1 h2
    cases m with
    | zero => omega
    | succ m =>
      unfold linesFrom
      split
      · rfl
      · have := indexByte_lt s.data.toList 10
        rw [toList_length] at this
        have hs : (s.extract ((Lib.indexByte s.data.toList 10).toNat + 1) s.size).size = s.size - ((Lib.indexByte s.data.toList 10).toNat + 1) := by rw [ByteArray.size_extract]; omega
        rw [ih m _ (by omega) (by omega)]
theorem linesOf_none {s : ByteArray} (h : Lib.indexByte s.data.toList 10 < 0) : linesOf s = [] := by
  unfold linesOf linesFrom; rw [if_pos h]
theorem linesOf_some {s : ByteArray} {i : Nat} (h : Lib.indexByte s.data.toList 10 = i) : linesOf s = s.extract 0 i :: linesOf (s.extract (i + 1) s.size) := by
  have h1 := indexByte_lt s.data.toList 10
  have hl : s.data.toList.length = s.size := rfl
  unfold linesOf
  rw [show linesFrom (s.size + 1) s = (if Lib.indexByte s.data.toList 10 < 0 then [] else s.extract 0 (Lib.indexByte s.data.toList 10).toNat :: linesFrom s.size (s.extract ((Lib.indexByte s.data.toList 10).toNat + 1) s.size)) from rfl, if_neg (by omega), h, Int.toNat_natCast]
  congr 1
  refine linesFrom_more _ _ _ ?_ ?_ <;> rw [ByteArray.size_extract] <;> omega
theorem linesFrom_length (n : Nat) : ∀ s : ByteArray, (linesFrom n s).length ≤ s.size := by
  induction n with
  | zero => intro s; exact Nat.zero_le _
  | succ n ih =>
    intro s
    unfold linesFrom
    have h := indexByte_lt s.data.toList 10
    rw [toList_length] at h
    split
    · exact Nat.zero_le _
    · have h2 := ih (s.extract ((Lib.indexByte s.data.toList 10).toNat + 1) s.size)
      rw [ByteArray.size_extract] at h2
      simp only [List.length_cons]
      omega
theorem linesOf_length (s : ByteArray) : (linesOf s).length ≤ s.size := linesFrom_length _ s
def longLine (l : List ByteArray) : Bool := l.any fun x => decide (1000 < x.size)
theorem longLine_snoc (l : List ByteArray) (x : ByteArray) : longLine (l ++ [x]) = (longLine l || decide (1000 < x.size)) := by simp [longLine]
/-- lines.Split: its error. -/
def splitErr (s : ByteArray) : Int :=
  if 65536 < s.size then 4
  else if 0 ≤ Lib.indexByte s.data.toList 0 ∨ (eqB s ⟨#[]⟩ = false ∧ Lib.hasSuffix s.data.toList [10] = false) then 3
  else if longLine (linesOf s) = true ∨ 2000 < (linesOf s).length then 4 else 0
theorem splitErr_of {s : ByteArray} (h1 : s.size ≤ 65536) (h2 : Lib.indexByte s.data.toList 0 < 0) (h3 : eqB s ⟨#[]⟩ = true ∨ Lib.hasSuffix s.data.toList [10] = true) :
    splitErr s = if longLine (linesOf s) = true ∨ 2000 < (linesOf s).length then 4 else 0 := by
  unfold splitErr
  rw [if_neg (by omega), if_neg]
  rintro (h | ⟨h4, h5⟩)
  · omega
  · rcases h3 with h | h
    · rw [h] at h4; cases h4
    · rw [h] at h5; cases h5
def isText (s : ByteArray) : Bool := splitErr s == 0
def content (kind : Int) (data : ByteArray) : Int := if 65536 < data.size then 4 else if kind = 1 ∧ isText data = false then 3 else 0
end Qm
end Go.Proofs.YtnjcifppkijanaaGreatDoor
