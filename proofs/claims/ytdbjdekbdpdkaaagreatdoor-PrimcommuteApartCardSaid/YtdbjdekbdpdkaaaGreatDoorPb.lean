/- New paths under moves; the functions of the model as moves of paths. Plain Lean, no program. -/
import Derived.Test.YtdbjdekbdpdkaaaGreatDoorPa
set_option linter.unusedSimpArgs false
set_option linter.unusedVariables false
namespace Go.Proofs.YtdbjdekbdpdkaaaGreatDoor
namespace Pa

theorem parted : ∀ u : List UInt8, (47 ∉ u) ∨ ∃ par name, u = par ++ 47 :: name ∧ 47 ∉ name
  | [] => .inl (by simp)
  | x :: u => by
    rcases parted u with h | ⟨par, name, rfl, h⟩
    · by_cases hx : x = 47
      · subst hx
        exact .inr ⟨[], u, rfl, h⟩
      · exact .inl (by simp only [List.mem_cons, not_or]; exact ⟨fun e => hx e.symm, h⟩)
    · exact .inr ⟨x :: par, name, rfl, h⟩
theorem sw_slash {u s : List UInt8} (h : sw u s) : 47 ∈ u := by
  obtain ⟨e, h0, he, rfl⟩ := h
  rcases he with rfl | ⟨t, rfl⟩
  · exact (h0 rfl).elim
  · simp
theorem sw_par {par name s : List UInt8} (hn : 47 ∉ name) (h : sw (par ++ 47 :: name) s) : ∃ c, Tl c ∧ par = s ++ c ∧ ∀ e, par ++ 47 :: name = s ++ e → e = c ++ 47 :: name := by
  obtain ⟨e, h0, he, hx⟩ := h
  rcases List.append_eq_append_iff.1 hx with ⟨c, h1, h2⟩ | ⟨c, h1, h2⟩
  · cases c with
    | nil =>
      have h1 : s = par := by simpa using h1
      subst h1
      exact ⟨[], .nil, by simp, fun e' h' => by simpa using (List.append_cancel_left h').symm⟩
    | cons x c =>
      simp only [List.cons_append, List.cons.injEq] at h2
      rcases he with rfl | ⟨t, rfl⟩
      · exact (h0 rfl).elim
      · exact (hn (by rw [h2.2]; simp)).elim
  · refine ⟨c, ?_, h1, fun e' h' => ?_⟩
    · by_cases hc : c = []
      · subst hc; exact .nil
      · rw [h2] at he
        exact Tl.split (g := []) he hc
    · rw [h1, List.append_assoc] at h'
      exact (List.append_cancel_left h').symm
theorem nv_none {s t u v : List UInt8} (h : 47 ∉ u) : Nv s t u v ↔ v = u := by
  constructor
  · rintro (⟨e, h0, he, rfl, rfl⟩ | ⟨_, _, h⟩)
    · exact (h (sw_slash ⟨e, h0, he, rfl⟩)).elim
    · exact h
  · rintro rfl
    exact .inr ⟨fun w => h (sw_slash w), fun w => h (sw_slash w), rfl⟩
theorem nv_par {s t par name v : List UInt8} (hn : 47 ∉ name) : Nv s t (par ++ 47 :: name) v ↔ ∃ par', Mv s t par par' ∧ v = par' ++ 47 :: name := by
  have hT : Tl (47 :: name) := .inr ⟨name, rfl⟩
  constructor
  · rintro (⟨e, h0, he, hu, rfl⟩ | ⟨h1, h2, rfl⟩)
    · obtain ⟨c, hc, hp, hh⟩ := sw_par hn ⟨e, h0, he, hu⟩
      rw [hh e hu]
      exact ⟨t ++ c, .inl ⟨c, hc, hp, rfl⟩, by simp⟩
    · refine ⟨par, .inr ⟨?_, ?_, rfl⟩, rfl⟩
      · rintro ⟨c, hc, rfl⟩
        exact h1 ⟨c ++ 47 :: name, by simp, hc.app hT, by simp⟩
      · rintro ⟨c, hc, rfl⟩
        exact h2 ⟨c ++ 47 :: name, by simp, hc.app hT, by simp⟩
  · rintro ⟨par', (⟨c, hc, rfl, rfl⟩ | ⟨h1, h2, rfl⟩), rfl⟩
    · exact .inl ⟨c ++ 47 :: name, by simp, hc.app hT, by simp, by simp⟩
    · refine .inr ⟨fun w => ?_, fun w => ?_, rfl⟩
      · obtain ⟨c, hc, hp, _⟩ := sw_par hn w
        exact h1 ⟨c, hc, hp⟩
      · obtain ⟨c, hc, hp, _⟩ := sw_par hn w
        exact h2 ⟨c, hc, hp⟩
theorem square_new {s1 t1 s2 t2 s2' t2' s1' t1' u r z : List UInt8} (H : Square s1 t1 s2 t2 s2' t2' s1' t1') (h1 : Nv s1 t1 u r) (h2 : Nv s2 t2 r z) : ∃ r', Nv s2' t2' u r' ∧ Nv s1' t1' r' z := by
  rcases parted u with h | ⟨par, name, rfl, h⟩
  · obtain rfl := (nv_none h).1 h1
    obtain rfl := (nv_none h).1 h2
    exact ⟨z, (nv_none h).2 rfl, (nv_none h).2 rfl⟩
  · obtain ⟨p1, k1, rfl⟩ := (nv_par h).1 h1
    obtain ⟨p2, k2, rfl⟩ := (nv_par h).1 h2
    obtain ⟨p', c1, c2⟩ := square H k1 k2
    exact ⟨p' ++ 47 :: name, (nv_par h).2 ⟨p', c1, rfl⟩, (nv_par h).2 ⟨p2, c2, rfl⟩⟩

/-! ### The model's functions -/
abbrev L (s : ByteArray) : List UInt8 := s.data.toList
theorem L_inj {s t : ByteArray} (h : L s = L t) : s = t := ByteArray.ext (Array.toList_inj.1 h)
theorem below_iff {s p : ByteArray} : Qm.below s p = true ↔ sw (L s) (L p) := by
  unfold Qm.below Lib.hasPrefix
  rw [List.isPrefixOf_iff_prefix]
  constructor
  · rintro ⟨x, hx⟩
    exact ⟨47 :: x, by simp, .inr ⟨x, rfl⟩, by show s.data.toList = _; rw [← hx]; simp⟩
  · rintro ⟨e, h0, he, hx⟩
    rcases he with rfl | ⟨t, rfl⟩
    · exact (h0 rfl).elim
    · exact ⟨t, by rw [show s.data.toList = _ from hx]; simp⟩
theorem within_iff {s p : ByteArray} : Qm.within s p = true ↔ wi (L s) (L p) := by
  unfold Qm.within
  rw [Bool.or_eq_true, Qm.eqB_iff, below_iff]
  constructor
  · rintro (rfl | h)
    · exact wi.refl _
    · exact h.wi
  · intro h
    rcases h.eq_or with h | h
    · exact .inl (L_inj h)
    · exact .inr h
theorem L_append (s t : ByteArray) : L (s ++ t) = L s ++ L t := by
  show (s ++ t).data.toList = _
  rw [ByteArray.data_append]
  simp
theorem L_extract (s : ByteArray) (i j : Nat) : L (s.extract i j) = ((L s).take j).drop i := by
  show (s.extract i j).data.toList = _
  rw [ByteArray.data_extract]
  simp [List.drop_take]
theorem after_move {path to_ s : ByteArray} (h : (Qm.after 5 path to_ s).2 = true) : Mv (L path) (L to_) (L s) (L (Qm.after 5 path to_ s).1) := by
  unfold Qm.after at h ⊢
  rw [if_neg (by decide), if_pos (by decide)] at h ⊢
  split at h
  · rename_i hw
    rw [if_pos hw]
    obtain ⟨e, he, hx⟩ := within_iff.1 hw
    refine .inl ⟨e, he, hx, ?_⟩
    show L (to_ ++ s.extract path.size s.size) = _
    rw [L_append, L_extract, hx]
    have hl : (L path).length = path.size := rfl
    have hs : s.size = (L path ++ e).length := by rw [← hx]; rfl
    rw [hs, List.take_length, ← hl, List.drop_left]
  · rename_i hw
    rw [if_neg hw]
    exact .inr ⟨fun w => hw (within_iff.2 w), (fun w => by rw [within_iff.2 w] at h; cases h), rfl⟩
theorem after_same {k : Int} {path to_ s : ByteArray} (hk : k ≠ 5) : (Qm.after k path to_ s).1 = s := by
  unfold Qm.after
  repeat' split
  all_goals first | rfl | (exfalso; simp_all)
theorem L_get {s : ByteArray} {j : Nat} (h : j < s.size) : (L s)[j]? = some (s.data[j]!) := by
  have h' : j < s.data.size := h
  rw [getElem!_pos s.data j h']
  simp [L, h']
theorem byte_eq {x : UInt8} : ((x.toNat : Int) = 47) ↔ x = 47 := by
  constructor
  · intro h
    have h2 : x.toNat = (47 : UInt8).toNat := by simpa using Int.ofNat.inj h
    exact UInt8.toNat_inj.1 h2
  · rintro rfl
    rfl
theorem last_slash (s : ByteArray) : (Lib.lastIndexByte s 47 < 0 ∧ 47 ∉ L s) ∨ (∃ (i : Nat) (name : List UInt8), Lib.lastIndexByte s 47 = i ∧ i < s.size ∧ L s = (L s).take i ++ 47 :: name ∧ 47 ∉ name ∧ (L s).drop i = 47 :: name) := by
  rcases Lib.lastIndexByte_spec s 47 with ⟨h, hn⟩ | ⟨i, hi, h, hc, hn⟩
  · refine .inl ⟨by omega, fun hm => ?_⟩
    obtain ⟨j, hj, hx⟩ := List.mem_iff_getElem.1 hm
    have hj' : j < s.size := hj
    have h1 := L_get hj'
    rw [List.getElem?_eq_getElem hj, hx] at h1
    exact hn j hj' (byte_eq.2 (Option.some.inj h1).symm)
  · have hi' : i < (L s).length := hi
    have h1 := L_get hi
    have hx : (L s)[i] = 47 := by
      rw [List.getElem?_eq_getElem hi'] at h1
      rw [Option.some.inj h1]
      exact byte_eq.1 hc
    have hd : (L s).drop i = 47 :: (L s).drop (i + 1) := by rw [List.drop_eq_getElem_cons hi', hx]
    refine .inr ⟨i, (L s).drop (i + 1), h, hi, ?_, fun hm => ?_, hd⟩
    · rw [← hd, List.take_append_drop]
    · obtain ⟨j, hj, hy⟩ := List.mem_iff_getElem.1 hm
      rw [List.length_drop] at hj
      rw [List.getElem_drop] at hy
      have hj' : i + 1 + j < s.size := by have : (L s).length = s.size := rfl; omega
      have h2 := L_get hj'
      rw [List.getElem?_eq_getElem (by have : (L s).length = s.size := rfl; omega), hy] at h2
      exact hn (i + 1 + j) (by omega) hj' (byte_eq.2 (Option.some.inj h2).symm)
theorem newAfter_move {path to_ s : ByteArray} (h : (Qm.newAfter 5 path to_ s).2 = true) : Nv (L path) (L to_) (L s) (L (Qm.newAfter 5 path to_ s).1) := by
  unfold Qm.newAfter at h ⊢
  rw [if_neg (by simp)] at h ⊢
  rcases last_slash s with ⟨h0, hn⟩ | ⟨i, name, hi, hlt, hs, hn, hd⟩
  · rw [if_pos h0] at h ⊢
    exact (nv_none hn).2 rfl
  · rw [if_neg (by omega), hi] at h ⊢
    dsimp only [Int.toNat_natCast] at h ⊢
    have hm := after_move h
    have hp : L (s.extract 0 i) = (L s).take i := by rw [L_extract]; rfl
    have hr : L (s.extract i s.size) = 47 :: name := by
      rw [L_extract, ← hd]
      congr 1
      exact List.take_length (l := L s)
    rw [hp] at hm
    rw [L_append, hr, hs]
    exact (nv_par hn).2 ⟨_, hm, rfl⟩
theorem newAfter_same {k : Int} {path to_ s : ByteArray} (hk : k ≠ 5) (h : (Qm.newAfter k path to_ s).2 = true) : (Qm.newAfter k path to_ s).1 = s := by
  unfold Qm.newAfter at h ⊢
  split at h
  · cases h
  rename_i h1
  rw [if_neg h1]
  rcases last_slash s with ⟨h0, hn⟩ | ⟨i, name, hi, hlt, hs, hn, hd⟩
  · rw [if_pos h0]
  · rw [if_neg (by omega), hi]
    dsimp only [Int.toNat_natCast]
    rw [after_same hk]
    refine L_inj ?_
    rw [L_append, L_extract, L_extract]
    show List.take i (L s) ++ List.drop i (List.take (L s).length (L s)) = L s
    rw [List.take_length, List.take_append_drop]
end Pa
end Go.Proofs.YtdbjdekbdpdkaaaGreatDoor
