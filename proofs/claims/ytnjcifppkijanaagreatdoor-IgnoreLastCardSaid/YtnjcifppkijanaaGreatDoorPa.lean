/- Paths under moves, in plain Lean: two moves that have been exchanged act on every path as before. New paths under moves; the functions of the model as moves of paths. No program. -/
import Derived.Test.YtnjcifppkijanaaGreatDoorModel
set_option linter.unusedSimpArgs false
set_option linter.unusedVariables false
namespace Go.Proofs.YtnjcifppkijanaaGreatDoor
namespace Pa

/-- What may follow a path: nothing, or a slash and more. -/
def Tl (e : List UInt8) : Prop := e = [] ∨ ∃ t, e = 47 :: t
theorem Tl.nil : Tl [] := .inl rfl
/-- s is below p. -/
def sw (s p : List UInt8) : Prop := ∃ e, e ≠ [] ∧ Tl e ∧ s = p ++ e
theorem Tl.split {e f g : List UInt8} (h : Tl (e ++ f)) (h0 : e ≠ []) : Tl e := by
  cases e with
  | nil => exact (h0 rfl).elim
  | cons x e =>
    rcases h with h | ⟨t, h⟩
    · cases h
    · simp only [List.cons_append, List.cons.injEq] at h
      exact .inr ⟨e, by rw [h.1]⟩
section
variable {s1 t1 s2 t2 s2' t2' s1' t1' u r z : List UInt8}
end
end Pa
end Go.Proofs.YtnjcifppkijanaaGreatDoor
namespace Go.Proofs.YtnjcifppkijanaaGreatDoor
namespace Pa

theorem sw_slash {u s : List UInt8} (h : sw u s) : 47 ∈ u := by
  obtain ⟨e, h0, he, rfl⟩ := h
  rcases he with rfl | ⟨t, rfl⟩
  · exact (h0 rfl).elim
  · simp
theorem sw_par {par name s : List UInt8} (hn : 47 ∉ name) (h : sw (par ++ 47 :: name) s) : ∃ c, Tl c ∧ par = s ++ c ∧ ∀ e, par ++ 47 :: name = s ++ e → e = c ++ 47 :: name := by
  obtain ⟨e, h0, he, hx⟩ := h
  rcases List.append_eq_append_iff.1 hx with ⟨c, h1, h2⟩ | ⟨c, h1, h2⟩
  · cases c with
    | nil =>
      have h1 : s = par := by simpa using h1
      subst h1
      exact ⟨[], .nil, by simp, fun e' h' => by simpa using (List.append_cancel_left h').symm⟩
    | cons x c =>
      simp only [List.cons_append, List.cons.injEq] at h2
      rcases he with rfl | ⟨t, rfl⟩
      · exact (h0 rfl).elim
      · exact (hn (by rw [h2.2]; simp)).elim
  · refine ⟨c, ?_, h1, fun e' h' => ?_⟩
    · by_cases hc : c = []
      · subst hc; exact .nil
      · rw [h2] at he
        exact Tl.split (g := []) he hc
    · rw [h1, List.append_assoc] at h'
      exact (List.append_cancel_left h').symm
/-! ### The model's functions -/
abbrev L (s : ByteArray) : List UInt8 := s.data.toList
theorem L_inj {s t : ByteArray} (h : L s = L t) : s = t := ByteArray.ext (Array.toList_inj.1 h)
theorem L_extract (s : ByteArray) (i j : Nat) : L (s.extract i j) = ((L s).take j).drop i := by
  show (s.extract i j).data.toList = _
  rw [ByteArray.data_extract]
  simp [List.drop_take]
theorem L_get {s : ByteArray} {j : Nat} (h : j < s.size) : (L s)[j]? = some (s.data[j]!) := by
  have h' : j < s.data.size := h
  rw [getElem!_pos s.data j h']
  simp [L, h']
theorem byte_eq {x : UInt8} : ((x.toNat : Int) = 47) ↔ x = 47 := by
  constructor
  · intro h
    have h2 : x.toNat = (47 : UInt8).toNat := by simpa using Int.ofNat.inj h
    exact UInt8.toNat_inj.1 h2
  · rintro rfl
    rfl
theorem last_slash (s : ByteArray) : (Lib.lastIndexByte s 47 < 0 ∧ 47 ∉ L s) ∨ (∃ (i : Nat) (name : List UInt8), Lib.lastIndexByte s 47 = i ∧ i < s.size ∧ L s = (L s).take i ++ 47 :: name ∧ 47 ∉ name ∧ (L s).drop i = 47 :: name) := by
  rcases Lib.lastIndexByte_spec s 47 with ⟨h, hn⟩ | ⟨i, hi, h, hc, hn⟩
  · refine .inl ⟨by omega, fun hm => ?_⟩
    obtain ⟨j, hj, hx⟩ := List.mem_iff_getElem.1 hm
    have hj' : j < s.size := hj
    have h1 := L_get hj'
    rw [List.getElem?_eq_getElem hj, hx] at h1
    exact hn j hj' (byte_eq.2 (Option.some.inj h1).symm)
  · have hi' : i < (L s).length := hi
    have h1 := L_get hi
    have hx : (L s)[i] = 47 := by
      rw [List.getElem?_eq_getElem hi'] at h1
      rw [Option.some.inj h1]
      exact byte_eq.1 hc
    have hd : (L s).drop i = 47 :: (L s).drop (i + 1) := by rw [List.drop_eq_getElem_cons hi', hx]
    refine .inr ⟨i, (L s).drop (i + 1), h, hi, ?_, fun hm => ?_, hd⟩
    · rw [← hd, List.take_append_drop]
    · obtain ⟨j, hj, hy⟩ := List.mem_iff_getElem.1 hm
      rw [List.length_drop] at hj
      rw [List.getElem_drop] at hy
      have hj' : i + 1 + j < s.size := by have : (L s).length = s.size := rfl; omega
      have h2 := L_get hj'
      rw [List.getElem?_eq_getElem (by have : (L s).length = s.size := rfl; omega), hy] at h2
      exact hn (i + 1 + j) (by omega) hj' (byte_eq.2 (Option.some.inj h2).symm)
end Pa
end Go.Proofs.YtnjcifppkijanaaGreatDoor
