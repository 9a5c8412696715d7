/- What the functions compute, in plain Lean: lines. No program. -/
import Derived.Test.YtgjphfmpodkgeaaGreatDoorModel
set_option linter.unusedSimpArgs false
set_option linter.unusedVariables false
namespace Go.Proofs.YtgjphfmpodkgeaaGreatDoor
open Go
namespace Qm
/-- The parts of a string that a line feed follows. -/
def linesFrom : Nat → ByteArray → List ByteArray
  | 0, _ => []
  | n + 1, s => if Lib.indexByte s.data.toList 10 < 0 then [] else s.extract 0 (Lib.indexByte s.data.toList 10).toNat :: linesFrom n (s.extract ((Lib.indexByte s.data.toList 10).toNat + 1) s.size)
def linesOf (s : ByteArray) : List ByteArray := linesFrom (s.size + 1) s
theorem indexByte_lt (l : List UInt8) (c : UInt8) : Lib.indexByte l c < l.length := by
  induction l with
  | nil => simp [Lib.indexByte]
  | cons x l ih =>
    unfold Lib.indexByte
    simp only [List.length_cons]
    split
    · omega
    · split <;> omega
theorem toList_length (s : ByteArray) : s.data.toList.length = s.size := rfl
theorem linesFrom_more (n : Nat) : ∀ (m : Nat) (s : ByteArray), s.size < n → s.size < m → linesFrom n s = linesFrom m s := by
  induction n with
  | zero => intro m s h; omega
  | succ n ih =>
    intro m s h1 h2
    cases m with
    | zero => omega
    | succ m =>
      unfold linesFrom
      split
      · rfl
      · have := indexByte_lt s.data.toList 10
        rw [toList_length] at this
        have hs : (s.extract ((Lib.indexByte s.data.toList 10).toNat + 1) s.size).size = s.size - ((Lib.indexByte s.data.toList 10).toNat + 1) := by rw [ByteArray.size_extract]; omega
        rw [ih m _ (by omega) (by omega)]
theorem linesOf_none {s : ByteArray} (h : Lib.indexByte s.data.toList 10 < 0) : linesOf s = [] := by
  unfold linesOf linesFrom; rw [if_pos h]
theorem linesOf_some {s : ByteArray} {i : Nat} (h : Lib.indexByte s.data.toList 10 = i) : linesOf s = s.extract 0 i :: linesOf (s.extract (i + 1) s.size) := by
  have h1 := indexByte_lt s.data.toList 10
  have hl : s.data.toList.length = s.size := rfl
  unfold linesOf
  rw [show linesFrom (s.size + 1) s = (if Lib.indexByte s.data.toList 10 < 0 then [] else s.extract 0 (Lib.indexByte s.data.toList 10).toNat :: linesFrom s.size (s.extract ((Lib.indexByte s.data.toList 10).toNat + 1) s.size)) from rfl, if_neg (by omega), h, Int.toNat_natCast]
  congr 1
  refine linesFrom_more _ _ _ ?_ ?_ <;> rw [ByteArray.size_extract] <;> omega
theorem linesFrom_length (n : Nat) : ∀ s : ByteArray, (linesFrom n s).length ≤ s.size := by
  induction n with
  | zero => intro s; exact Nat.zero_le _
  | succ n ih =>
    intro s
    unfold linesFrom
    have h := indexByte_lt s.data.toList 10
    rw [toList_length] at h
    split
    · exact Nat.zero_le _
    · have h2 := ih (s.extract ((Lib.indexByte s.data.toList 10).toNat + 1) s.size)
      rw [ByteArray.size_extract] at h2
      simp only [List.length_cons]
      omega
theorem linesOf_length (s : ByteArray) : (linesOf s).length ≤ s.size := linesFrom_length _ s
def longLine (l : List ByteArray) : Bool := l.any fun x => decide (1000 < x.size)
theorem longLine_snoc (l : List ByteArray) (x : ByteArray) : longLine (l ++ [x]) = (longLine l || decide (1000 < x.size)) := by simp [longLine]
/-- lines.Split: its error. -/
def splitErr (s : ByteArray) : Int :=
  if 65536 < s.size then 4
  else if 0 ≤ Lib.indexByte s.data.toList 0 ∨ (eqB s ⟨#[]⟩ = false ∧ Lib.hasSuffix s.data.toList [10] = false) then 3
  else if longLine (linesOf s) = true ∨ 2000 < (linesOf s).length then 4 else 0
theorem splitErr_of {s : ByteArray} (h1 : s.size ≤ 65536) (h2 : Lib.indexByte s.data.toList 0 < 0) (h3 : eqB s ⟨#[]⟩ = true ∨ Lib.hasSuffix s.data.toList [10] = true) :
    splitErr s = if longLine (linesOf s) = true ∨ 2000 < (linesOf s).length then 4 else 0 := by
  unfold splitErr
  rw [if_neg (by omega), if_neg]
  rintro (h | ⟨h4, h5⟩)
  · omega
  · rcases h3 with h | h
    · rw [h] at h4; cases h4
    · rw [h] at h5; cases h5
def isText (s : ByteArray) : Bool := splitErr s == 0
def content (kind : Int) (data : ByteArray) : Int := if 65536 < data.size then 4 else if kind = 1 ∧ isText data = false then 3 else 0
end Qm
end Go.Proofs.YtgjphfmpodkgeaaGreatDoor
