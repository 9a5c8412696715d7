/- Sequences of patches in plain Lean: turning a list round, step by step (for slices.Reverse). No program. -/
namespace Go.Proofs.YtgfiddlmeopebaaGreatDoor
namespace Sq
/-- A list with k places at either end exchanged. -/
def turned {α : Type} (z : α) (l : List α) (k : Nat) : List α := (List.range l.length).map fun i => if i < k ∨ l.length - 1 - i < k then l.getD (l.length - 1 - i) z else l.getD i z
theorem turned_length {α : Type} (z : α) (l : List α) (k : Nat) : (turned z l k).length = l.length := by simp [turned]
theorem turned_at {α : Type} (z : α) (l : List α) (k i : Nat) (h : i < l.length) : (turned z l k)[i]? = some (if i < k ∨ l.length - 1 - i < k then l.getD (l.length - 1 - i) z else l.getD i z) := by
  unfold turned
  rw [List.getElem?_map, List.getElem?_range h]
  rfl
theorem turned_zero {α : Type} (z : α) (l : List α) : turned z l 0 = l := by
  apply List.ext_getElem? 
  intro i
  by_cases h : i < l.length
  · rw [turned_at z l 0 i h, if_neg (by omega), List.getD_eq_getElem?_getD, List.getElem?_eq_getElem h]
    rfl
  · rw [List.getElem?_eq_none (by rw [turned_length]; omega), List.getElem?_eq_none (by omega)]
theorem turned_end {α : Type} (z : α) (l : List α) (k : Nat) (h : l.length - 1 - k ≤ k) : turned z l k = l.reverse := by
  apply List.ext_getElem?
  intro i
  by_cases hi : i < l.length
  · rw [turned_at z l k i hi, List.getElem?_reverse hi]
    by_cases hc : i < k ∨ l.length - 1 - i < k
    · rw [if_pos hc, List.getD_eq_getElem?_getD, List.getElem?_eq_getElem (by omega)]
      simp
    · rw [if_neg hc]
      have : i = l.length - 1 - i := by omega
      rw [← this, List.getD_eq_getElem?_getD, List.getElem?_eq_getElem hi]
      simp
  · rw [List.getElem?_eq_none (by rw [turned_length]; omega), List.getElem?_eq_none (by rw [List.length_reverse]; omega)]
theorem turned_next {α : Type} (z : α) (l : List α) (k : Nat) (h : k < l.length - 1 - k) : ((turned z l k).set k (l.getD (l.length - 1 - k) z)).set (l.length - 1 - k) (l.getD k z) = turned z l (k + 1) := by
  apply List.ext_getElem?
  intro i
  by_cases hi : i < l.length
  · rw [turned_at z l (k + 1) i hi, List.getElem?_set, List.getElem?_set, turned_at z l k i hi, List.length_set, turned_length]
    by_cases h1 : l.length - 1 - k = i
    · rw [if_pos h1, if_pos (by omega), if_pos (by omega)]
      have : l.length - 1 - i = k := by omega
      rw [this]
    · rw [if_neg h1]
      by_cases h2 : k = i
      · rw [if_pos h2, if_pos (by omega), if_pos (by omega), ← h2]
      · rw [if_neg h2]
        by_cases h3 : i < k ∨ l.length - 1 - i < k
        · rw [if_pos h3, if_pos (by omega)]
        · rw [if_neg h3, if_neg (by omega)]
  · rw [List.getElem?_eq_none (by simp [turned_length]; omega), List.getElem?_eq_none (by rw [turned_length]; omega)]
theorem turned_low {α : Type} (z : α) (l : List α) (k : Nat) (h : k < l.length - 1 - k) : (turned z l k)[k]? = some (l.getD k z) ∧ (turned z l k)[l.length - 1 - k]? = some (l.getD (l.length - 1 - k) z) := by
  constructor
  · rw [turned_at z l k k (by omega), if_neg (by omega)]
  · rw [turned_at z l k _ (by omega), if_neg (by omega)]
end Sq
end Go.Proofs.YtgfiddlmeopebaaGreatDoor
