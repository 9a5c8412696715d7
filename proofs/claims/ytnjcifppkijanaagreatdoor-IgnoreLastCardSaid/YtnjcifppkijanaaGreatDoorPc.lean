/- The pieces of a path, in plain Lean. -/
import Derived.Test.YtnjcifppkijanaaGreatDoorE
import Derived.Lib.Bytealg
import Derived.Lib.SplitLaws
set_option linter.unusedSimpArgs false
set_option linter.unusedVariables false
namespace Go.Proofs.YtnjcifppkijanaaGreatDoor
open Go.RowKit

theorem indexByte_is {l : List UInt8} {c : UInt8} {k : Nat} (h : l[k]? = some c) (hn : ∀ j, j < k → l[j]? ≠ some c) : Lib.indexByte l c = k := by
  have h0 := Lib.indexByte_ge l c
  by_cases hm : Lib.indexByte l c = -1
  · exact (Lib.indexByte_none hm k h).elim
  · obtain ⟨o, ho⟩ : ∃ o : Nat, Lib.indexByte l c = o := ⟨(Lib.indexByte l c).toNat, by omega⟩
    obtain ⟨h1, h2⟩ := Lib.indexByte_some ho
    rcases Nat.lt_trichotomy o k with hlt | rfl | hlt
    · exact (hn o hlt h1).elim
    · exact ho
    · exact (h2 k hlt h).elim
theorem indexByte_not {l : List UInt8} {c : UInt8} (hn : ∀ j : Nat, l[j]? ≠ some c) : Lib.indexByte l c = -1 := by
  have h0 := Lib.indexByte_ge l c
  by_cases hm : Lib.indexByte l c = -1
  · exact hm
  · obtain ⟨o, ho⟩ : ∃ o : Nat, Lib.indexByte l c = o := ⟨(Lib.indexByte l c).toNat, by omega⟩
    exact (hn o (Lib.indexByte_some ho).1).elim
theorem indexB_slash (u : ByteArray) : Lib.indexB u ⟨#[47]⟩ = Lib.indexByte u.data.toList 47 := Lib.index_one u.data.toList 47
theorem pieces_miss {u : ByteArray} (h : Lib.indexByte u.data.toList 47 = -1) : pieces u = [u] := by
  unfold pieces
  exact Lib.splitB_miss _ _ _ _ (by rw [indexB_slash]; exact h)
theorem pieces_hit {u : ByteArray} {k : Nat} (h : Lib.indexByte u.data.toList 47 = k) : pieces u = u.extract 0 k :: pieces (u.extract (k + 1) u.size) := by
  have hc : Lib.countB u ⟨#[47]⟩ = Lib.countB (u.extract (k + 1) u.size) ⟨#[47]⟩ + 1 := by
    show Lib.count u.data.toList [47] = Lib.count (u.extract (k + 1) u.size).data.toList [47] + 1
    rw [Lib.count_hit (by simp) (by rw [Lib.index_one]; exact h), Nat.add_comm]
    congr 2
    rw [Lib.extract_to_end]
    rfl
  unfold pieces
  rw [hc, Lib.splitB_hit _ _ _ _ k (by rw [indexB_slash]; exact h)]
  rfl
theorem extract_extract_zero (s : ByteArray) (f n k : Nat) (hk : f + k ≤ n) (hn : n ≤ s.size) : (s.extract f n).extract 0 k = s.extract f (f + k) := by
  apply ByteArray.ext
  apply Array.toList_inj.1
  simp only [ByteArray.data_extract, Array.toList_extract]
  simp only [Array.toList_extract, List.extract_eq_take_drop, List.drop_zero, List.take_take, Nat.sub_zero]
  congr 1
  omega
theorem extract_extract_end (s : ByteArray) (f k : Nat) (hf : f + k ≤ s.size) : (s.extract f s.size).extract k (s.extract f s.size).size = s.extract (f + k) s.size := by
  apply ByteArray.ext
  apply Array.toList_inj.1
  simp only [ByteArray.data_extract, Array.toList_extract, ByteArray.size_extract]
  simp [List.drop_take, List.extract_eq_take_drop, List.drop_drop]
  rw [List.take_take, Nat.min_self, Nat.sub_sub]

theorem byte_at {s : ByteArray} {k : Nat} (h : k < s.size) : s.data.toList[k]? = some s[k] := by
  rw [List.getElem?_eq_getElem (by simpa using h)]
  rfl
theorem pall_hit {s : ByteArray} {a k : Nat} (hak : a ≤ k) (hk : k < s.size) (h47 : s[k].toNat = 47) (hno : ∀ j, a ≤ j → j < k → s.data.toList[j]? ≠ some 47) :
    (pieces (s.extract a s.size)).all Qm.isName = (Qm.isName (s.extract a k) && (pieces (s.extract (k + 1) s.size)).all Qm.isName) := by
  have hb : s[k] = 47 := UInt8.toNat_inj.1 h47
  have hi : Lib.indexByte (s.extract a s.size).data.toList 47 = (k - a : Nat) := by
    rw [Lib.extract_to_end]
    refine indexByte_is ?_ fun j hj => ?_
    · rw [List.getElem?_drop, show a + (k - a) = k by omega, byte_at hk, hb]
    · rw [List.getElem?_drop]
      exact hno _ (by omega) (by omega)
  rw [pieces_hit hi, extract_extract_zero _ _ _ _ (by omega) (Nat.le_refl _), extract_extract_end _ _ _ (by omega), show a + (k - a) = k by omega, show a + (k - a + 1) = k + 1 by omega]
  rfl
theorem pall_miss {s : ByteArray} {a : Nat} (hno : ∀ j, a ≤ j → j < s.size → s.data.toList[j]? ≠ some 47) : (pieces (s.extract a s.size)).all Qm.isName = Qm.isName (s.extract a s.size) := by
  have hi : Lib.indexByte (s.extract a s.size).data.toList 47 = -1 := by
    rw [Lib.extract_to_end]
    refine indexByte_not fun j => ?_
    rw [List.getElem?_drop]
    rcases Nat.lt_or_ge (a + j) s.size with h | h
    · exact hno _ (by omega) h
    · rw [List.getElem?_eq_none (by simpa using h)]
      simp
  rw [pieces_miss hi]
  simp

end Go.Proofs.YtnjcifppkijanaaGreatDoor
