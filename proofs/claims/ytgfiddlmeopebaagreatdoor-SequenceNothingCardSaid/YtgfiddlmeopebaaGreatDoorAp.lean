/- Paths under moves, in plain Lean: two moves that have been exchanged act on every path as before. No program. New paths under moves; the functions of the model as moves of paths. Plain Lean, no program. Patches exchanged: what the exchange does to the paths. Plain Lean. Patches exchanged: paths and places. Plain Lean. Three patches brought into the opposite order in both ways: the results are equal. Plain Lean. Patches that touch nothing in common; the inverse of a valid patch. Plain Lean. -/
import Derived.Test.YtgfiddlmeopebaaGreatDoorModel
import Derived.Test.YtgfiddlmeopebaaGreatDoorV
set_option linter.unusedSimpArgs false
set_option linter.unusedVariables false
namespace Go.Proofs.YtgfiddlmeopebaaGreatDoor
namespace Pa

/-- What may follow a path: nothing, or a slash and more. -/
def Tl (e : List UInt8) : Prop := e = [] ∨ ∃ t, e = 47 :: t
theorem Tl.nil : Tl [] := .inl rfl
theorem Tl.app {e f : List UInt8} (h : Tl e) (k : Tl f) : Tl (e ++ f) := by
  rcases h with rfl | ⟨t, rfl⟩
  · exact k
  · exact .inr ⟨t ++ f, rfl⟩
/-- s is p, or below p. -/
def wi (s p : List UInt8) : Prop := ∃ e, Tl e ∧ s = p ++ e
/-- s is below p. -/
def sw (s p : List UInt8) : Prop := ∃ e, e ≠ [] ∧ Tl e ∧ s = p ++ e
theorem wi.refl (s : List UInt8) : wi s s := ⟨[], .nil, by simp⟩
theorem wi.mk {p e : List UInt8} (h : Tl e) : wi (p ++ e) p := ⟨e, h, rfl⟩
theorem wi.trans {r s p : List UInt8} (h : wi r s) (k : wi s p) : wi r p := by
  obtain ⟨e, he, rfl⟩ := h
  obtain ⟨f, hf, rfl⟩ := k
  exact ⟨f ++ e, hf.app he, by simp⟩
theorem wi.eq_or {s p : List UInt8} (h : wi s p) : s = p ∨ sw s p := by
  obtain ⟨e, he, rfl⟩ := h
  by_cases h0 : e = []
  · left; simp [h0]
  · exact .inr ⟨e, h0, he, rfl⟩
theorem sw.wi {s p : List UInt8} (h : sw s p) : wi s p := ⟨h.choose, h.choose_spec.2.1, h.choose_spec.2.2⟩
theorem Tl.split {e f g : List UInt8} (h : Tl (e ++ f)) (h0 : e ≠ []) : Tl e := by
  cases e with
  | nil => exact (h0 rfl).elim
  | cons x e =>
    rcases h with h | ⟨t, h⟩
    · cases h
    · simp only [List.cons_append, List.cons.injEq] at h
      exact .inr ⟨e, by rw [h.1]⟩
theorem wi.chain {r a b : List UInt8} (h : wi r a) (k : wi r b) : wi a b ∨ wi b a := by
  obtain ⟨e, he, rfl⟩ := h
  obtain ⟨f, hf, hk⟩ := k
  rcases List.append_eq_append_iff.1 hk with ⟨c, h1, h2⟩ | ⟨c, h1, h2⟩
  · right
    by_cases h0 : c = []
    · subst h0; rw [h1]; simpa using wi.refl a
    · refine ⟨c, ?_, h1⟩
      rw [h2] at he
      exact Tl.split (g := []) he h0
  · left
    by_cases h0 : c = []
    · subst h0; rw [h1]; simpa using wi.refl b
    · refine ⟨c, ?_, h1⟩
      rw [h2] at hf
      exact Tl.split (g := []) hf h0

/-- An existing path under the move from s to t. -/
def Mv (s t u v : List UInt8) : Prop := (∃ e, Tl e ∧ u = s ++ e ∧ v = t ++ e) ∨ (¬ wi u s ∧ ¬ wi u t ∧ v = u)
/-- A new path under it. -/
def Nv (s t u v : List UInt8) : Prop := (∃ e, e ≠ [] ∧ Tl e ∧ u = s ++ e ∧ v = t ++ e) ∨ (¬ sw u s ∧ ¬ sw u t ∧ v = u)
theorem Mv.symm {s t u v : List UInt8} (h : Mv s t u v) : Mv t s v u := by
  rcases h with ⟨e, he, rfl, rfl⟩ | ⟨h1, h2, rfl⟩
  · exact .inl ⟨e, he, rfl, rfl⟩
  · exact .inr ⟨h2, h1, rfl⟩
theorem Nv.symm {s t u v : List UInt8} (h : Nv s t u v) : Nv t s v u := by
  rcases h with ⟨e, h0, he, rfl, rfl⟩ | ⟨h1, h2, rfl⟩
  · exact .inl ⟨e, h0, he, rfl, rfl⟩
  · exact .inr ⟨h2, h1, rfl⟩
theorem Mv.uniq {s t u v v' : List UInt8} (h : Mv s t u v) (k : Mv s t u v') : v = v' := by
  rcases h with ⟨e, he, rfl, rfl⟩ | ⟨h1, h2, rfl⟩ <;> rcases k with ⟨f, hf, h, rfl⟩ | ⟨k1, k2, rfl⟩
  · rw [List.append_cancel_left h]
  · exact (k1 (wi.mk he)).elim
  · exact (h1 ⟨f, hf, h⟩).elim
  · rfl
theorem Nv.uniq {s t u v v' : List UInt8} (h : Nv s t u v) (k : Nv s t u v') : v = v' := by
  rcases h with ⟨e, h0, he, rfl, rfl⟩ | ⟨h1, h2, rfl⟩ <;> rcases k with ⟨f, f0, hf, h, rfl⟩ | ⟨k1, k2, rfl⟩
  · rw [List.append_cancel_left h]
  · exact (k1 ⟨e, h0, he, rfl⟩).elim
  · exact (h1 ⟨f, f0, hf, h⟩).elim
  · rfl

/-- The moves p: s1 to t1, then q: s2 to t2; exchanged: q', then p'. -/
structure Square (s1 t1 s2 t2 s2' t2' s1' t1' : List UInt8) : Prop where
  v1 : ¬ wi t1 s1
  v2 : ¬ wi s2 t2
  v3 : ¬ wi t2 s2
  v4 : ¬ wi t2' s2'
  x1 : t1 ≠ s2
  x2 : t2' ≠ s1
  x3 : t1 ≠ t2
  e1 : Mv t1 s1 s2 s2'
  e2 : Nv t1 s1 t2 t2'
  e3 : Mv s2' t2' s1 s1'
  e4 : Nv s2' t2' t1 t1'

section
variable {s1 t1 s2 t2 s2' t2' s1' t1' u r z : List UInt8}
theorem app_ne {s f : List UInt8} (h : f ≠ []) : ¬ wi s (s ++ f) := by
  rintro ⟨e, _, h1⟩
  have := congrArg List.length h1
  simp only [List.length_append] at this
  have : f.length = 0 := by omega
  exact h (List.length_eq_zero_iff.1 this)

theorem square (H : Square s1 t1 s2 t2 s2' t2' s1' t1') (h1 : Mv s1 t1 u r) (h2 : Mv s2 t2 r z) : ∃ r', Mv s2' t2' u r' ∧ Mv s1' t1' r' z := by
  obtain ⟨v1, v2, v3, v4, x1, x2, x3, e1, e2, e3, e4⟩ := H
  -- t2 is not s1, not below it, where it has not been moved
  have n2 : t2' = t2 → ¬ sw t2 s1 → ¬ wi t2 s1 := fun h k w => by
    rcases w.eq_or with w | w
    · exact x2 (h.trans w)
    · exact k w
  have n1 : ¬ sw t2 t1 → ¬ wi t2 t1 := fun k w => by
    rcases w.eq_or with w | w
    · exact x3 w.symm
    · exact k w
  rcases e1 with ⟨f, hf, rfl, rfl⟩ | ⟨b1, b2, rfl⟩
  · -- q's source lies within what p has moved
    have f0 : f ≠ [] := fun h => x1 (by simp [h])
    have d3 : s1' = s1 ∧ ¬ wi s1 t2' := by
      rcases e3 with ⟨f', hf', h, _⟩ | ⟨_, k2, k3⟩
      · exact (app_ne (s := s1) (f := f) f0 ⟨f', hf', h⟩).elim
      · exact ⟨k3, k2⟩
    have d4 : t1' = t1 := by
      rcases e4 with ⟨h', _, ht, h, _⟩ | ⟨_, _, k3⟩
      · exact (v1 ⟨f ++ h', hf.app ht, by rw [h]; simp⟩).elim
      · exact k3
    obtain ⟨rfl, d3⟩ := d3
    subst d4
    rcases h1 with ⟨e, he, rfl, rfl⟩ | ⟨g1, g2, rfl⟩
    · by_cases hw : wi (t1' ++ e) (t1' ++ f)
      · obtain ⟨g, hg, hx⟩ := hw
        obtain rfl : e = f ++ g := by simpa [List.append_assoc] using hx
        have hz : z = t2 ++ g := by
          rcases h2 with ⟨g', _, h, rfl⟩ | ⟨k, _, _⟩
          · have : g = g' := by simpa [List.append_assoc] using h
            rw [this]
          · exact (k ⟨g, hg, by simp⟩).elim
        subst hz
        refine ⟨t2' ++ g, .inl ⟨g, hg, by simp, rfl⟩, ?_⟩
        rcases e2 with ⟨h, h0, hh, rfl, rfl⟩ | ⟨k1, k2, rfl⟩
        · exact .inl ⟨h ++ g, hh.app hg, by simp, by simp⟩
        · refine .inr ⟨fun w => ?_, fun w => ?_, rfl⟩
          · rcases w.chain (wi.mk hg) with w | w
            · exact d3 w
            · exact n2 rfl k2 w
          · rcases w.chain (wi.mk hg) with w | w
            · exact v2 ((wi.mk hf).trans w)
            · exact n1 k1 w
      · have hz : z = t1' ++ e ∧ ¬ wi (t1' ++ e) t2 := by
          rcases h2 with ⟨g', hg, h, rfl⟩ | ⟨_, k, h⟩
          · exact (hw ⟨g', hg, h⟩).elim
          · exact ⟨h, k⟩
        obtain ⟨rfl, hz⟩ := hz
        refine ⟨s1' ++ e, .inr ⟨fun w => ?_, fun w => ?_, rfl⟩, .inl ⟨e, he, rfl, rfl⟩⟩
        · obtain ⟨g, hg, hx⟩ := w
          exact hw ⟨g, hg, by simpa [List.append_assoc] using hx⟩
        · rcases e2 with ⟨h, h0, hh, rfl, rfl⟩ | ⟨k1, k2, rfl⟩
          · obtain ⟨g, hg, hx⟩ := w
            exact hz ⟨g, hg, by simpa [List.append_assoc] using hx⟩
          · rcases w.chain (wi.mk he) with w | w
            · exact n2 rfl k2 w
            · exact d3 w
    · have hz : z = r ∧ ¬ wi r t2 := by
        rcases h2 with ⟨g', hg, h, rfl⟩ | ⟨_, k, h⟩
        · exact (g2 ⟨f ++ g', hf.app hg, by rw [h]; simp⟩).elim
        · exact ⟨h, k⟩
      obtain ⟨rfl, hz⟩ := hz
      refine ⟨z, .inr ⟨fun w => g1 (w.trans (wi.mk hf)), fun w => ?_, rfl⟩, .inr ⟨g1, g2, rfl⟩⟩
      rcases e2 with ⟨h, h0, hh, rfl, rfl⟩ | ⟨k1, k2, rfl⟩
      · exact g1 (w.trans (wi.mk hh))
      · exact hz w
  · -- q's source is where it was
    rcases e2 with ⟨h, h0, hh, rfl, rfl⟩ | ⟨k1, k2, rfl⟩
    · -- q's target lies within what p has moved
      have d3 : s1' = s1 ∧ ¬ wi s1 s2' := by
        rcases e3 with ⟨f', hf', hs, _⟩ | ⟨k1, k2, k3⟩
        · exact (v4 ⟨f' ++ h, hf'.app hh, by rw [hs]; simp⟩).elim
        · exact ⟨k3, k1⟩
      have d4 : t1' = t1 := by
        rcases e4 with ⟨h', _, ht, hs, _⟩ | ⟨_, _, k3⟩
        · exact (v3 ⟨h' ++ h, ht.app hh, by rw [hs]; simp⟩).elim
        · exact k3
      obtain ⟨rfl, d3⟩ := d3
      subst d4
      rcases h1 with ⟨e, he, rfl, rfl⟩ | ⟨g1, g2, rfl⟩
      · have hq : ¬ wi (s1' ++ e) s2' := fun w => by
          rcases w.chain (wi.mk he) with w | w
          · exact b2 w
          · exact d3 w
        have hz : z = t1' ++ e ∧ ¬ wi (t1' ++ e) (t1' ++ h) := by
          rcases h2 with ⟨g', hg, hs, rfl⟩ | ⟨_, k, hs⟩
          · rcases (wi.mk (p := t1') he).chain ⟨g', hg, hs⟩ with w | w
            · exact (v3 ((wi.mk hh).trans w)).elim
            · exact (b1 w).elim
          · exact ⟨hs, k⟩
        obtain ⟨rfl, hz⟩ := hz
        refine ⟨s1' ++ e, .inr ⟨hq, fun w => ?_, rfl⟩, .inl ⟨e, he, rfl, rfl⟩⟩
        obtain ⟨g, hg, hx⟩ := w
        exact hz ⟨g, hg, by simpa [List.append_assoc] using hx⟩
      · rcases h2 with ⟨g, hg, rfl, rfl⟩ | ⟨k1, k2, rfl⟩
        · exact ⟨(s1' ++ h) ++ g, .inl ⟨g, hg, rfl, rfl⟩, .inl ⟨h ++ g, hh.app hg, by simp, by simp⟩⟩
        · exact ⟨z, .inr ⟨k1, fun w => g1 (w.trans (wi.mk hh)), rfl⟩, .inr ⟨g1, g2, rfl⟩⟩
    · -- q is as it was
      have m2 : ¬ wi t2' s1 := n2 rfl k2
      have m1 : ¬ wi t2' t1 := n1 k1
      have y1 : ¬ sw t1 s2' → ¬ wi t1 s2' := fun k w => by
        rcases w.eq_or with w | w
        · exact x1 w
        · exact k w
      rcases h1 with ⟨e, he, rfl, rfl⟩ | ⟨g1, g2, rfl⟩
      · have hz : z = t1' ++ e := by
          rcases e4 with ⟨h', _, ht, rfl, rfl⟩ | ⟨k3, _, rfl⟩
          · exact Mv.uniq h2 (.inl ⟨h' ++ e, ht.app he, by simp, by simp⟩)
          · have hn : ¬ wi (t1' ++ e) s2' := fun w => by
              rcases w.chain (wi.mk he) with w | w
              · exact b1 w
              · exact y1 k3 w
            rcases h2 with ⟨g, hg, h, _⟩ | ⟨_, _, h⟩
            · exact (hn ⟨g, hg, h⟩).elim
            · exact h
        subst hz
        rcases e3 with ⟨f', hf', rfl, rfl⟩ | ⟨k3, k4, rfl⟩
        · exact ⟨t2' ++ f' ++ e, .inl ⟨f' ++ e, hf'.app he, by simp, by simp⟩, .inl ⟨e, he, rfl, rfl⟩⟩
        · refine ⟨s1' ++ e, .inr ⟨fun w => ?_, fun w => ?_, rfl⟩, .inl ⟨e, he, rfl, rfl⟩⟩
          · rcases w.chain (wi.mk he) with w | w
            · exact b2 w
            · exact k3 w
          · rcases w.chain (wi.mk he) with w | w
            · exact m2 w
            · exact k4 w
      · rcases h2 with ⟨g, hg, rfl, rfl⟩ | ⟨c1, c2, rfl⟩
        · refine ⟨t2' ++ g, .inl ⟨g, hg, rfl, rfl⟩, .inr ⟨fun w => ?_, fun w => ?_, rfl⟩⟩
          · rcases e3 with ⟨f', hf', rfl, rfl⟩ | ⟨k3, k4, rfl⟩
            · obtain ⟨k, hk, hx⟩ := w
              exact g1 ⟨k, hk, by have : g = f' ++ k := by simpa [List.append_assoc] using hx
                                  rw [this]; simp⟩
            · rcases w.chain (wi.mk hg) with w | w
              · exact k4 w
              · exact m2 w
          · rcases e4 with ⟨h', _, ht, rfl, rfl⟩ | ⟨k3, k4, rfl⟩
            · obtain ⟨k, hk, hx⟩ := w
              exact g2 ⟨k, hk, by have : g = h' ++ k := by simpa [List.append_assoc] using hx
                                  rw [this]; simp⟩
            · rcases w.chain (wi.mk hg) with w | w
              · rcases w.eq_or with w | w
                · exact x3 w
                · exact k4 w
              · exact m1 w
        · refine ⟨z, .inr ⟨c1, c2, rfl⟩, .inr ⟨fun w => ?_, fun w => ?_, rfl⟩⟩
          · rcases e3 with ⟨f', hf', rfl, rfl⟩ | ⟨k3, k4, rfl⟩
            · exact c2 (w.trans (wi.mk hf'))
            · exact g1 w
          · rcases e4 with ⟨h', _, ht, rfl, rfl⟩ | ⟨k3, k4, rfl⟩
            · exact c2 (w.trans (wi.mk ht))
            · exact g2 w
end
end Pa
end Go.Proofs.YtgfiddlmeopebaaGreatDoor
namespace Go.Proofs.YtgfiddlmeopebaaGreatDoor
namespace Pa

theorem parted : ∀ u : List UInt8, (47 ∉ u) ∨ ∃ par name, u = par ++ 47 :: name ∧ 47 ∉ name
  | [] => .inl (by simp)
  | x :: u => by
    rcases parted u with h | ⟨par, name, rfl, h⟩
    · by_cases hx : x = 47
      · subst hx
        exact .inr ⟨[], u, rfl, h⟩
      · exact .inl (by simp only [List.mem_cons, not_or]; exact ⟨fun e => hx e.symm, h⟩)
    · exact .inr ⟨x :: par, name, rfl, h⟩
theorem sw_slash {u s : List UInt8} (h : sw u s) : 47 ∈ u := by
  obtain ⟨e, h0, he, rfl⟩ := h
  rcases he with rfl | ⟨t, rfl⟩
  · exact (h0 rfl).elim
  · simp
theorem sw_par {par name s : List UInt8} (hn : 47 ∉ name) (h : sw (par ++ 47 :: name) s) : ∃ c, Tl c ∧ par = s ++ c ∧ ∀ e, par ++ 47 :: name = s ++ e → e = c ++ 47 :: name := by
  obtain ⟨e, h0, he, hx⟩ := h
  rcases List.append_eq_append_iff.1 hx with ⟨c, h1, h2⟩ | ⟨c, h1, h2⟩
  · cases c with
    | nil =>
      have h1 : s = par := by simpa using h1
      subst h1
      exact ⟨[], .nil, by simp, fun e' h' => by simpa using (List.append_cancel_left h').symm⟩
    | cons x c =>
      simp only [List.cons_append, List.cons.injEq] at h2
      rcases he with rfl | ⟨t, rfl⟩
      · exact (h0 rfl).elim
      · exact (hn (by rw [h2.2]; simp)).elim
  · refine ⟨c, ?_, h1, fun e' h' => ?_⟩
    · by_cases hc : c = []
      · subst hc; exact .nil
      · rw [h2] at he
        exact Tl.split (g := []) he hc
    · rw [h1, List.append_assoc] at h'
      exact (List.append_cancel_left h').symm
theorem nv_none {s t u v : List UInt8} (h : 47 ∉ u) : Nv s t u v ↔ v = u := by
  constructor
  · rintro (⟨e, h0, he, rfl, rfl⟩ | ⟨_, _, h⟩)
    · exact (h (sw_slash ⟨e, h0, he, rfl⟩)).elim
    · exact h
  · rintro rfl
    exact .inr ⟨fun w => h (sw_slash w), fun w => h (sw_slash w), rfl⟩
theorem nv_par {s t par name v : List UInt8} (hn : 47 ∉ name) : Nv s t (par ++ 47 :: name) v ↔ ∃ par', Mv s t par par' ∧ v = par' ++ 47 :: name := by
  have hT : Tl (47 :: name) := .inr ⟨name, rfl⟩
  constructor
  · rintro (⟨e, h0, he, hu, rfl⟩ | ⟨h1, h2, rfl⟩)
    · obtain ⟨c, hc, hp, hh⟩ := sw_par hn ⟨e, h0, he, hu⟩
      rw [hh e hu]
      exact ⟨t ++ c, .inl ⟨c, hc, hp, rfl⟩, by simp⟩
    · refine ⟨par, .inr ⟨?_, ?_, rfl⟩, rfl⟩
      · rintro ⟨c, hc, rfl⟩
        exact h1 ⟨c ++ 47 :: name, by simp, hc.app hT, by simp⟩
      · rintro ⟨c, hc, rfl⟩
        exact h2 ⟨c ++ 47 :: name, by simp, hc.app hT, by simp⟩
  · rintro ⟨par', (⟨c, hc, rfl, rfl⟩ | ⟨h1, h2, rfl⟩), rfl⟩
    · exact .inl ⟨c ++ 47 :: name, by simp, hc.app hT, by simp, by simp⟩
    · refine .inr ⟨fun w => ?_, fun w => ?_, rfl⟩
      · obtain ⟨c, hc, hp, _⟩ := sw_par hn w
        exact h1 ⟨c, hc, hp⟩
      · obtain ⟨c, hc, hp, _⟩ := sw_par hn w
        exact h2 ⟨c, hc, hp⟩
theorem square_new {s1 t1 s2 t2 s2' t2' s1' t1' u r z : List UInt8} (H : Square s1 t1 s2 t2 s2' t2' s1' t1') (h1 : Nv s1 t1 u r) (h2 : Nv s2 t2 r z) : ∃ r', Nv s2' t2' u r' ∧ Nv s1' t1' r' z := by
  rcases parted u with h | ⟨par, name, rfl, h⟩
  · obtain rfl := (nv_none h).1 h1
    obtain rfl := (nv_none h).1 h2
    exact ⟨z, (nv_none h).2 rfl, (nv_none h).2 rfl⟩
  · obtain ⟨p1, k1, rfl⟩ := (nv_par h).1 h1
    obtain ⟨p2, k2, rfl⟩ := (nv_par h).1 h2
    obtain ⟨p', c1, c2⟩ := square H k1 k2
    exact ⟨p' ++ 47 :: name, (nv_par h).2 ⟨p', c1, rfl⟩, (nv_par h).2 ⟨p2, c2, rfl⟩⟩

/-! ### The model's functions -/
abbrev L (s : ByteArray) : List UInt8 := s.data.toList
theorem L_inj {s t : ByteArray} (h : L s = L t) : s = t := ByteArray.ext (Array.toList_inj.1 h)
theorem below_iff {s p : ByteArray} : Qm.below s p = true ↔ sw (L s) (L p) := by
  unfold Qm.below Lib.hasPrefix
  rw [List.isPrefixOf_iff_prefix]
  constructor
  · rintro ⟨x, hx⟩
    exact ⟨47 :: x, by simp, .inr ⟨x, rfl⟩, by show s.data.toList = _; rw [← hx]; simp⟩
  · rintro ⟨e, h0, he, hx⟩
    rcases he with rfl | ⟨t, rfl⟩
    · exact (h0 rfl).elim
    · exact ⟨t, by rw [show s.data.toList = _ from hx]; simp⟩
theorem within_iff {s p : ByteArray} : Qm.within s p = true ↔ wi (L s) (L p) := by
  unfold Qm.within
  rw [Bool.or_eq_true, Qm.eqB_iff, below_iff]
  constructor
  · rintro (rfl | h)
    · exact wi.refl _
    · exact h.wi
  · intro h
    rcases h.eq_or with h | h
    · exact .inl (L_inj h)
    · exact .inr h
theorem L_append (s t : ByteArray) : L (s ++ t) = L s ++ L t := by
  show (s ++ t).data.toList = _
  rw [ByteArray.data_append]
  simp
theorem L_extract (s : ByteArray) (i j : Nat) : L (s.extract i j) = ((L s).take j).drop i := by
  show (s.extract i j).data.toList = _
  rw [ByteArray.data_extract]
  simp [List.drop_take]
theorem after_move {path to_ s : ByteArray} (h : (Qm.after 5 path to_ s).2 = true) : Mv (L path) (L to_) (L s) (L (Qm.after 5 path to_ s).1) := by
  unfold Qm.after at h ⊢
  rw [if_neg (by decide), if_pos (by decide)] at h ⊢
  split at h
  · rename_i hw
    rw [if_pos hw]
    obtain ⟨e, he, hx⟩ := within_iff.1 hw
    refine .inl ⟨e, he, hx, ?_⟩
    show L (to_ ++ s.extract path.size s.size) = _
    rw [L_append, L_extract, hx]
    have hl : (L path).length = path.size := rfl
    have hs : s.size = (L path ++ e).length := by rw [← hx]; rfl
    rw [hs, List.take_length, ← hl, List.drop_left]
  · rename_i hw
    rw [if_neg hw]
    exact .inr ⟨fun w => hw (within_iff.2 w), (fun w => by rw [within_iff.2 w] at h; cases h), rfl⟩
theorem after_same {k : Int} {path to_ s : ByteArray} (hk : k ≠ 5) : (Qm.after k path to_ s).1 = s := by
  unfold Qm.after
  repeat' split
  all_goals first | rfl | (exfalso; simp_all)
theorem L_get {s : ByteArray} {j : Nat} (h : j < s.size) : (L s)[j]? = some (s.data[j]!) := by
  have h' : j < s.data.size := h
  rw [getElem!_pos s.data j h']
  simp [L, h']
theorem byte_eq {x : UInt8} : ((x.toNat : Int) = 47) ↔ x = 47 := by
  constructor
  · intro h
    have h2 : x.toNat = (47 : UInt8).toNat := by simpa using Int.ofNat.inj h
    exact UInt8.toNat_inj.1 h2
  · rintro rfl
    rfl
theorem last_slash (s : ByteArray) : (Lib.lastIndexByte s 47 < 0 ∧ 47 ∉ L s) ∨ (∃ (i : Nat) (name : List UInt8), Lib.lastIndexByte s 47 = i ∧ i < s.size ∧ L s = (L s).take i ++ 47 :: name ∧ 47 ∉ name ∧ (L s).drop i = 47 :: name) := by
  rcases Lib.lastIndexByte_spec s 47 with ⟨h, hn⟩ | ⟨i, hi, h, hc, hn⟩
  · refine .inl ⟨by omega, fun hm => ?_⟩
    obtain ⟨j, hj, hx⟩ := List.mem_iff_getElem.1 hm
    have hj' : j < s.size := hj
    have h1 := L_get hj'
    rw [List.getElem?_eq_getElem hj, hx] at h1
    exact hn j hj' (byte_eq.2 (Option.some.inj h1).symm)
  · have hi' : i < (L s).length := hi
    have h1 := L_get hi
    have hx : (L s)[i] = 47 := by
      rw [List.getElem?_eq_getElem hi'] at h1
      rw [Option.some.inj h1]
      exact byte_eq.1 hc
    have hd : (L s).drop i = 47 :: (L s).drop (i + 1) := by rw [List.drop_eq_getElem_cons hi', hx]
    refine .inr ⟨i, (L s).drop (i + 1), h, hi, ?_, fun hm => ?_, hd⟩
    · rw [← hd, List.take_append_drop]
    · obtain ⟨j, hj, hy⟩ := List.mem_iff_getElem.1 hm
      rw [List.length_drop] at hj
      rw [List.getElem_drop] at hy
      have hj' : i + 1 + j < s.size := by have : (L s).length = s.size := rfl; omega
      have h2 := L_get hj'
      rw [List.getElem?_eq_getElem (by have : (L s).length = s.size := rfl; omega), hy] at h2
      exact hn (i + 1 + j) (by omega) hj' (byte_eq.2 (Option.some.inj h2).symm)
theorem newAfter_move {path to_ s : ByteArray} (h : (Qm.newAfter 5 path to_ s).2 = true) : Nv (L path) (L to_) (L s) (L (Qm.newAfter 5 path to_ s).1) := by
  unfold Qm.newAfter at h ⊢
  rw [if_neg (by simp)] at h ⊢
  rcases last_slash s with ⟨h0, hn⟩ | ⟨i, name, hi, hlt, hs, hn, hd⟩
  · rw [if_pos h0] at h ⊢
    exact (nv_none hn).2 rfl
  · rw [if_neg (by omega), hi] at h ⊢
    dsimp only [Int.toNat_natCast] at h ⊢
    have hm := after_move h
    have hp : L (s.extract 0 i) = (L s).take i := by rw [L_extract]; rfl
    have hr : L (s.extract i s.size) = 47 :: name := by
      rw [L_extract, ← hd]
      congr 1
      exact List.take_length (l := L s)
    rw [hp] at hm
    rw [L_append, hr, hs]
    exact (nv_par hn).2 ⟨_, hm, rfl⟩
theorem newAfter_same {k : Int} {path to_ s : ByteArray} (hk : k ≠ 5) (h : (Qm.newAfter k path to_ s).2 = true) : (Qm.newAfter k path to_ s).1 = s := by
  unfold Qm.newAfter at h ⊢
  split at h
  · cases h
  rename_i h1
  rw [if_neg h1]
  rcases last_slash s with ⟨h0, hn⟩ | ⟨i, name, hi, hlt, hs, hn, hd⟩
  · rw [if_pos h0]
  · rw [if_neg (by omega), hi]
    dsimp only [Int.toNat_natCast]
    rw [after_same hk]
    refine L_inj ?_
    rw [L_append, L_extract, L_extract]
    show List.take i (L s) ++ List.drop i (List.take (L s).length (L s)) = L s
    rw [List.take_length, List.take_append_drop]
end Pa
end Go.Proofs.YtgfiddlmeopebaaGreatDoor
namespace Go.Proofs.YtgfiddlmeopebaaGreatDoor
open Go.RowKit Pa

/-- An existing path, a new path, under patch q. -/
def Ex (q : Qp) (u v : ByteArray) : Prop := if q.kind = 5 then Mv (L q.path) (L q.to_) (L u) (L v) else v = u
def Nw (q : Qp) (u v : ByteArray) : Prop := if q.kind = 5 then Nv (L q.path) (L q.to_) (L u) (L v) else v = u
theorem Ex.uniq {q : Qp} {u v v' : ByteArray} (h : Ex q u v) (k : Ex q u v') : v = v' := by
  unfold Ex at h k
  split at h
  · rw [if_pos (by assumption)] at k; exact L_inj (h.uniq k)
  · rw [if_neg (by assumption)] at k; rw [h, k]
theorem Nw.uniq {q : Qp} {u v v' : ByteArray} (h : Nw q u v) (k : Nw q u v') : v = v' := by
  unfold Nw at h k
  split at h
  · rw [if_pos (by assumption)] at k; exact L_inj (h.uniq k)
  · rw [if_neg (by assumption)] at k; rw [h, k]
theorem Ex.inj {q : Qp} {u u' v : ByteArray} (h : Ex q u v) (k : Ex q u' v) : u = u' := by
  unfold Ex at h k
  split at h
  · rw [if_pos (by assumption)] at k; exact L_inj (h.symm.uniq k.symm)
  · rw [if_neg (by assumption)] at k; rw [← h, ← k]
theorem Nw.inj {q : Qp} {u u' v : ByteArray} (h : Nw q u v) (k : Nw q u' v) : u = u' := by
  unfold Nw at h k
  split at h
  · rw [if_pos (by assumption)] at k; exact L_inj (h.symm.uniq k.symm)
  · rw [if_neg (by assumption)] at k; rw [← h, ← k]
/-- The same kind and the same paths. -/
def Sh (q q' : Qp) : Prop := q.kind = q'.kind ∧ q.path = q'.path ∧ q.to_ = q'.to_
theorem Sh.refl (q : Qp) : Sh q q := ⟨rfl, rfl, rfl⟩
theorem Sh.symm {q q' : Qp} (h : Sh q q') : Sh q' q := ⟨h.1.symm, h.2.1.symm, h.2.2.symm⟩
theorem Sh.trans {a b c : Qp} (h : Sh a b) (k : Sh b c) : Sh a c := ⟨h.1.trans k.1, h.2.1.trans k.2.1, h.2.2.trans k.2.2⟩
theorem Ex.sh {q q' : Qp} {u v : ByteArray} (h : Ex q u v) (k : Sh q q') : Ex q' u v := by
  unfold Ex at h ⊢
  rwa [← k.1, ← k.2.1, ← k.2.2]
theorem Nw.sh {q q' : Qp} {u v : ByteArray} (h : Nw q u v) (k : Sh q q') : Nw q' u v := by
  unfold Nw at h ⊢
  rwa [← k.1, ← k.2.1, ← k.2.2]

/-- r' is r, its paths taken through q. -/
structure PR (q r r' : Qp) : Prop where
  kind : r'.kind = r.kind
  new : Qm.adds r.kind = true → Nw q r.path r'.path
  old : Qm.adds r.kind = false → Ex q r.path r'.path
  to5 : r.kind = 5 → Nw q r.to_ r'.to_
  to0 : r.kind ≠ 5 → r'.to_ = r.to_
theorem PR.sh {q q' r r' : Qp} (h : PR q r r') (k : Sh q q') : PR q' r r' :=
  ⟨h.kind, fun e => (h.new e).sh k, fun e => (h.old e).sh k, fun e => (h.to5 e).sh k, h.to0⟩
theorem PR.shl {q r r2 r' : Qp} (h : PR q r r') (k : Sh r r2) : PR q r2 r' :=
  ⟨h.kind.trans k.1, fun e => by rw [← k.2.1]; exact h.new (by rw [k.1]; exact e), fun e => by rw [← k.2.1]; exact h.old (by rw [k.1]; exact e), fun e => by rw [← k.2.2]; exact h.to5 (k.1.trans e), fun e => by rw [← k.2.2]; exact h.to0 (fun h => e (k.1.symm.trans h))⟩
theorem PR.shr {q r r' r2 : Qp} (h : PR q r r') (k : Sh r' r2) : PR q r r2 :=
  ⟨k.1.symm.trans h.kind, fun e => by rw [← k.2.1]; exact h.new e, fun e => by rw [← k.2.1]; exact h.old e, fun e => by rw [← k.2.2]; exact h.to5 e, fun e => by rw [← k.2.2]; exact h.to0 e⟩
theorem PR.uniq {q r r' r2 : Qp} (h : PR q r r') (k : PR q r r2) : Sh r' r2 := by
  refine ⟨h.kind.trans k.kind.symm, ?_, ?_⟩
  · cases e : Qm.adds r.kind
    · exact (h.old e).uniq (k.old e)
    · exact (h.new e).uniq (k.new e)
  · by_cases e : r.kind = 5
    · exact (h.to5 e).uniq (k.to5 e)
    · rw [h.to0 e, k.to0 e]
theorem PR.inj {q r r2 r' : Qp} (h : PR q r r') (k : PR q r2 r') : Sh r r2 := by
  have hk : r.kind = r2.kind := h.kind.symm.trans k.kind
  refine ⟨hk, ?_, ?_⟩
  · cases e : Qm.adds r.kind
    · exact (h.old e).inj (k.old (by rw [← hk]; exact e))
    · exact (h.new e).inj (k.new (by rw [← hk]; exact e))
  · by_cases e : r.kind = 5
    · exact (h.to5 e).inj (k.to5 (hk.symm.trans e))
    · rw [← h.to0 e, ← k.to0 (fun h => e (hk.trans h))]
/-- A patch that is no move leaves the paths alone. -/
theorem PR.still {q r r' : Qp} (h : PR q r r') (hq : q.kind ≠ 5) : Sh r' r := by
  refine ⟨h.kind, ?_, ?_⟩
  · cases e : Qm.adds r.kind
    · have := h.old e; unfold Ex at this; rwa [if_neg hq] at this
    · have := h.new e; unfold Nw at this; rwa [if_neg hq] at this
  · by_cases e : r.kind = 5
    · have := h.to5 e; unfold Nw at this; rwa [if_neg hq] at this
    · exact h.to0 e
theorem PR.of_still {q r : Qp} (hq : q.kind ≠ 5) : PR q r r :=
  ⟨rfl, fun _ => by unfold Nw; rw [if_neg hq], fun _ => by unfold Ex; rw [if_neg hq], fun _ => by unfold Nw; rw [if_neg hq], fun _ => rfl⟩

theorem after_ex {q : Qp} {s : ByteArray} (h : (Qm.after q.kind q.path q.to_ s).2 = true) : Ex q s (Qm.after q.kind q.path q.to_ s).1 := by
  unfold Ex
  split
  · rename_i hk; rw [hk] at h ⊢; exact after_move h
  · rename_i hk; exact after_same hk
theorem newAfter_nw {q : Qp} {s : ByteArray} (h : (Qm.newAfter q.kind q.path q.to_ s).2 = true) : Nw q s (Qm.newAfter q.kind q.path q.to_ s).1 := by
  unfold Nw
  split
  · rename_i hk; rw [hk] at h ⊢; exact newAfter_move h
  · rename_i hk; exact newAfter_same hk h
theorem through_pr {r q : Qp} (h : (Qp.through r q).2 = true) : PR q r (Qp.through r q).1 := by
  unfold Qp.through Pv.through at h ⊢
  dsimp only at h ⊢
  rw [Bool.and_eq_true] at h
  obtain ⟨h1, h2⟩ := h
  refine ⟨rfl, fun e => ?_, fun e => ?_, fun e => ?_, fun e => ?_⟩
  · simp only [e, if_true] at h1 ⊢; exact newAfter_nw h1
  · simp only [e, Bool.false_eq_true, if_false] at h1 ⊢; exact after_ex h1
  · have e' : (r.kind == 5) = true := by simpa using e
    simp only [e', if_true] at h2 ⊢; exact newAfter_nw h2
  · have e' : (r.kind == 5) = false := by simpa using e
    simp only [e', Bool.false_eq_true, if_false]
theorem inv_kind5 {q : Qp} : q.inv.kind = 5 ↔ q.kind = 5 := by
  unfold Qp.inv
  repeat' split
  all_goals simp_all [Qp.zero]
theorem inv_paths {q : Qp} (h : q.kind = 5) : q.inv.path = q.to_ ∧ q.inv.to_ = q.path := by
  unfold Qp.inv
  rw [if_neg (by omega), if_neg (by omega), if_neg (by omega), if_neg (by omega), if_pos h]
  exact ⟨rfl, rfl⟩
theorem ex_inv {q : Qp} {u v : ByteArray} (h : Ex q.inv u v) : Ex q v u := by
  unfold Ex at h ⊢
  by_cases hk : q.kind = 5
  · rw [if_pos (inv_kind5.2 hk), (inv_paths hk).1, (inv_paths hk).2] at h
    rw [if_pos hk]
    exact h.symm
  · rw [if_neg (fun e => hk (inv_kind5.1 e))] at h
    rw [if_neg hk, h]
theorem nw_inv {q : Qp} {u v : ByteArray} (h : Nw q.inv u v) : Nw q v u := by
  unfold Nw at h ⊢
  by_cases hk : q.kind = 5
  · rw [if_pos (inv_kind5.2 hk), (inv_paths hk).1, (inv_paths hk).2] at h
    rw [if_pos hk]
    exact h.symm
  · rw [if_neg (fun e => hk (inv_kind5.1 e))] at h
    rw [if_neg hk, h]
theorem pr_inv {q r r' : Qp} (h : PR q.inv r r') : PR q r' r :=
  ⟨h.kind.symm, fun e => nw_inv (h.new (by rw [← h.kind]; exact e)), fun e => ex_inv (h.old (by rw [← h.kind]; exact e)), fun e => nw_inv (h.to5 (h.kind.symm.trans e)), fun e => (h.to0 (fun k => e (h.kind.trans k))).symm⟩
end Go.Proofs.YtgfiddlmeopebaaGreatDoor
namespace Go.Proofs.YtgfiddlmeopebaaGreatDoor
open Go.RowKit Pa

/-- Two edits at one file exchanged: their places. -/
def Cross (p l1 l2 q m1 m2 q' p' : Int) : Prop := (p + l2 < q ∧ q' = q - (l2 - l1) ∧ p' = p) ∨ (q + m1 < p ∧ ¬ p + l2 < q ∧ q' = q ∧ p' = p + (m2 - m1))
/-- What does not turn. -/
def Core (q q' : Qp) : Prop := q'.kind = q.kind ∧ q'.ty = q.ty ∧ q'.old = q.old ∧ q'.new = q.new ∧ q'.so = q.so ∧ q'.sn = q.sn ∧ q'.om = q.om ∧ q'.nm = q.nm
theorem Core.refl (q : Qp) : Core q q := ⟨rfl, rfl, rfl, rfl, rfl, rfl, rfl, rfl⟩
theorem Core.trans {a b c : Qp} (h : Core a b) (k : Core b c) : Core a c :=
  ⟨k.1.trans h.1, k.2.1.trans h.2.1, k.2.2.1.trans h.2.2.1, k.2.2.2.1.trans h.2.2.2.1, k.2.2.2.2.1.trans h.2.2.2.2.1, k.2.2.2.2.2.1.trans h.2.2.2.2.2.1, k.2.2.2.2.2.2.1.trans h.2.2.2.2.2.2.1, k.2.2.2.2.2.2.2.trans h.2.2.2.2.2.2.2⟩
theorem Core.eq {q q' r : Qp} (h : Core r q) (k : Core r q') (s : Sh q q') (ha : q.at_ = q'.at_) (ho : q.off = q'.off) : q = q' := by
  obtain ⟨k1, k2, k3, k4, k5, k6, k7, k8⟩ := h
  obtain ⟨l1, l2, l3, l4, l5, l6, l7, l8⟩ := k
  obtain ⟨s1, s2, s3⟩ := s
  cases q
  cases q'
  simp_all
/-- a, b exchanged: c, d. -/
structure Cm (a b c d : Qp) : Prop where
  cc : Core b c
  cd : Core a d
  pc : PR a c b
  pd : PR c a d
  x1 : a.kind = 5 → b.kind = 5 → a.to_ ≠ b.path
  x2 : a.kind = 5 → b.kind = 5 → c.to_ ≠ a.path
  x3 : a.kind = 5 → b.kind = 5 → a.to_ ≠ b.to_
  va : a.kind = 5 → ¬ wi (L a.to_) (L a.path)
  vb : b.kind = 5 → ¬ wi (L b.path) (L b.to_) ∧ ¬ wi (L b.to_) (L b.path)
  vc : c.kind = 5 → ¬ wi (L c.to_) (L c.path)
  at6 : a.kind = 6 → b.kind = 6 → a.path = c.path → Cross a.at_ a.old.length a.new.length b.at_ b.old.length b.new.length c.at_ d.at_
  atN : ¬ (a.kind = 6 ∧ b.kind = 6 ∧ a.path = c.path) → c.at_ = b.at_ ∧ d.at_ = a.at_
  of7 : a.kind = 7 → b.kind = 7 → a.path = c.path → Cross a.off a.so.size a.sn.size b.off b.so.size b.sn.size c.off d.off
  ofN : ¬ (a.kind = 7 ∧ b.kind = 7 ∧ a.path = c.path) → c.off = b.off ∧ d.off = a.off

theorem check_move {q : Qp} (h : q.check = 0) (hk : q.kind = 5) : ¬ wi (L q.path) (L q.to_) ∧ ¬ wi (L q.to_) (L q.path) := by
  unfold Qp.check Pv.check at h
  split at h
  · cases h
  split at h
  · cases h
  split at h
  · cases h
  unfold Pv.actCheck at h
  rw [if_neg (by show ¬ (q.kind = 1 ∨ q.kind = 3); omega), if_neg (by show ¬ (q.kind = 2 ∨ q.kind = 4); omega), if_pos (by exact hk)] at h
  unfold Pv.movCheck at h
  split at h
  · cases h
  rename_i hn
  simp only [not_or] at hn
  obtain ⟨h1, h2, h3⟩ := hn
  constructor
  · intro w
    rcases w.eq_or with w | w
    · exact h1 (Qm.eqB_iff.2 (L_inj w).symm)
    · exact h3 (below_iff.2 w)
  · intro w
    rcases w.eq_or with w | w
    · exact h1 (Qm.eqB_iff.2 (L_inj w))
    · exact h2 (below_iff.2 w)

/-- The contents leave all but the places alone. -/
theorem contents_core (a b c d : Qp) : Core c (Qp.contents a b c d).1 ∧ Core d (Qp.contents a b c d).2.1 ∧ Sh c (Qp.contents a b c d).1 ∧ Sh d (Qp.contents a b c d).2.1 := by
  unfold Qp.contents
  repeat' split
  all_goals exact ⟨⟨rfl, rfl, rfl, rfl, rfl, rfl, rfl, rfl⟩, ⟨rfl, rfl, rfl, rfl, rfl, rfl, rfl, rfl⟩, ⟨rfl, rfl, rfl⟩, ⟨rfl, rfl, rfl⟩⟩
theorem contents_at {a b c d : Qp} (hc : c.at_ = b.at_) (hd : d.at_ = a.at_) (h : (Qp.contents a b c d).2.2 = true) :
    (a.kind = 6 → b.kind = 6 → a.path = c.path → Cross a.at_ a.old.length a.new.length b.at_ b.old.length b.new.length (Qp.contents a b c d).1.at_ (Qp.contents a b c d).2.1.at_) ∧
    (¬ (a.kind = 6 ∧ b.kind = 6 ∧ a.path = c.path) → (Qp.contents a b c d).1.at_ = b.at_ ∧ (Qp.contents a b c d).2.1.at_ = a.at_) := by
  unfold Qp.contents at h ⊢
  split
  · rename_i h0
    refine ⟨fun ha hb hp => ?_, fun _ => ⟨hc, hd⟩⟩
    rw [ha, hb, hp] at h0
    simp [Qm.adds, Qm.eqB_iff.2] at h0
  · rename_i h0
    rw [if_neg h0] at h
    split
    · rename_i h1
      rw [if_pos h1] at h
      cases h
    · rename_i h1
      rw [if_neg h1] at h
      split
      · rename_i h2
        rw [if_pos h2] at h
        split
        · rename_i h3
          refine ⟨fun _ _ _ => ?_, fun hn => ?_⟩
          · unfold Hv.commute at h3 ⊢
            split at h3
            · cases h3
            rename_i g0
            rw [if_neg g0]
            split at h3
            · rename_i g1
              rw [if_pos g1]
              split at h3
              · rename_i g2
                rw [if_pos g2]
                exact .inl ⟨g1, by simp only [Hv.shift, Hv.growth, Pv.hunk]; omega, rfl⟩
              · cases h3
            · rename_i g1
              rw [if_neg g1]
              split at h3
              · rename_i g2
                rw [if_pos g2]
                split at h3
                · rename_i g3
                  rw [if_pos g3]
                  exact .inr ⟨g2, g1, rfl, by simp only [Hv.shift, Hv.growth, Pv.hunk]⟩
                · cases h3
              · cases h3
          · refine (hn ⟨h2.1, h2.2, ?_⟩).elim
            simp only [not_or] at h0
            exact Qm.eqB_iff.1 (by simpa using h0.2.2)
        · rename_i h3
          rw [if_neg h3] at h
          cases h
      · rename_i h2
        repeat' split
        all_goals exact ⟨fun ha hb _ => (h2 ⟨ha, hb⟩).elim, fun _ => ⟨hc, hd⟩⟩
theorem contents_off {a b c d : Qp} (hc : c.off = b.off) (hd : d.off = a.off) (h : (Qp.contents a b c d).2.2 = true) :
    (a.kind = 7 → b.kind = 7 → a.path = c.path → Cross a.off a.so.size a.sn.size b.off b.so.size b.sn.size (Qp.contents a b c d).1.off (Qp.contents a b c d).2.1.off) ∧
    (¬ (a.kind = 7 ∧ b.kind = 7 ∧ a.path = c.path) → (Qp.contents a b c d).1.off = b.off ∧ (Qp.contents a b c d).2.1.off = a.off) := by
  unfold Qp.contents at h ⊢
  split
  · rename_i h0
    refine ⟨fun ha hb hp => ?_, fun _ => ⟨hc, hd⟩⟩
    rw [ha, hb, hp] at h0
    simp [Qm.adds, Qm.eqB_iff.2] at h0
  · rename_i h0
    rw [if_neg h0] at h
    split
    · rename_i h1
      rw [if_pos h1] at h
      cases h
    · rename_i h1
      rw [if_neg h1] at h
      split
      · rename_i h2
        split
        all_goals exact ⟨fun ha _ _ => by omega, fun _ => ⟨hc, hd⟩⟩
      · rename_i h2
        rw [if_neg h2] at h
        split
        · rename_i h3
          rw [if_pos h3] at h
          refine ⟨fun _ _ _ => ?_, fun hn => ?_⟩
          · dsimp only at h ⊢
            unfold Pv.xbytes at h ⊢
            split at h
            · rename_i g1
              rw [if_pos g1]
              exact .inl ⟨g1, rfl, hd⟩
            · rename_i g1
              rw [if_neg g1]
              split at h
              · rename_i g2
                rw [if_pos g2]
                refine .inr ⟨g2, g1, hc, ?_⟩
                dsimp only
                omega
              · cases h
          · refine (hn ⟨h3.1, h3.2, ?_⟩).elim
            simp only [not_or] at h0
            exact Qm.eqB_iff.1 (by simpa using h0.2.2)
        · rename_i h3
          repeat' split
          all_goals exact ⟨fun ha hb _ => (h3 ⟨ha, hb⟩).elim, fun _ => ⟨hc, hd⟩⟩

theorem run_cm {a b c d : Qp} (h : a.run b = (c, d, true)) (ha : a.check = 0) (hb : b.check = 0) : Cm a b c d := by
  unfold Qp.run Qp.runOf at h
  split at h
  rotate_left
  · simp only [Prod.mk.injEq] at h
    exact absurd h.2.2 (by decide)
  rename_i hh
  simp only [Bool.and_eq_true, decide_eq_true_eq] at hh
  obtain ⟨⟨k1, k2⟩, hf, he, hm, hc, z1, z2⟩ := hh
  simp only [Prod.mk.injEq, and_true] at h
  obtain ⟨rfl, rfl⟩ := h
  have p1 := through_pr k1
  have p2 := through_pr k2
  have hcore := contents_core a b (Qp.through b a.inv).1 (Qp.through a (Qp.through b a.inv).1).1
  have hat := contents_at (a := a) (b := b) (c := (Qp.through b a.inv).1) (d := (Qp.through a (Qp.through b a.inv).1).1) rfl rfl hc
  have hof := contents_off (a := a) (b := b) (c := (Qp.through b a.inv).1) (d := (Qp.through a (Qp.through b a.inv).1).1) rfl rfl hc
  have c1 : Core b (Qp.through b a.inv).1 := ⟨rfl, rfl, rfl, rfl, rfl, rfl, rfl, rfl⟩
  have c2 : Core a (Qp.through a (Qp.through b a.inv).1).1 := ⟨rfl, rfl, rfl, rfl, rfl, rfl, rfl, rfl⟩
  generalize hC : (Qp.through b a.inv).1 = C at *
  generalize hD : (Qp.through a C).1 = D at *
  generalize hE : Qp.contents a b C D = E at *
  obtain ⟨g1, g2, g3, g4⟩ := hcore
  refine ⟨c1.trans g1, c2.trans g2, (pr_inv p1).shl g3, (p2.sh g3).shr g4, ?_, ?_, ?_, fun k => (check_move ha k).2, fun k => check_move hb k, fun k => (check_move z1 k).2, ?_, ?_, ?_, ?_⟩
  · intro ka kb e
    unfold Qp.moves Qm.xmoves at hm
    rw [ka, kb, Qm.eqB_iff.2 e] at hm
    simp at hm
  · intro ka kb e
    unfold Qp.free Qm.xfree at hf
    simp only [Bool.and_eq_true] at hf
    have h1 := hf.1
    have kC : C.kind = 5 := by rw [← hC]; exact kb
    have e' : C.to_ = a.path := by rw [← g3.2.2] at e; exact e
    simp only [Qm.newPath, Qm.frees, Qm.adds, kC, ka, e'] at h1
    simp [Qm.eqB_iff.2] at h1
  · intro ka kb e
    unfold Qp.free Qm.xfree at hf
    simp only [Bool.and_eq_true] at hf
    have h1 := hf.2.1
    unfold Qm.news at h1
    simp only [Qm.newPath, Qm.adds, ka, kb, e] at h1
    simp [Qm.eqB_iff.2] at h1
  · rw [← g3.2.1]; exact hat.1
  · rw [← g3.2.1]; exact hat.2
  · rw [← g3.2.1]; exact hof.1
  · rw [← g3.2.1]; exact hof.2
end Go.Proofs.YtgfiddlmeopebaaGreatDoor
namespace Go.Proofs.YtgfiddlmeopebaaGreatDoor
open Go.RowKit Pa

theorem L_of (l : List UInt8) : ∃ s : ByteArray, L s = l := ⟨⟨l.toArray⟩, by simp⟩
theorem Cm.square {a b c d : Qp} (h : Cm a b c d) (ka : a.kind = 5) (kb : b.kind = 5) : Square (L a.path) (L a.to_) (L b.path) (L b.to_) (L c.path) (L c.to_) (L d.path) (L d.to_) := by
  have kc : c.kind = 5 := h.cc.1.trans kb
  have n5 : ∀ k : Int, k = 5 → Qm.adds k = false := fun k hk => by rw [hk]; rfl
  refine ⟨h.va ka, (h.vb kb).1, (h.vb kb).2, h.vc kc, fun e => h.x1 ka kb (L_inj e), fun e => h.x2 ka kb (L_inj e), fun e => h.x3 ka kb (L_inj e), ?_, ?_, ?_, ?_⟩
  · have := h.pc.old (n5 _ kc)
    unfold Ex at this
    rw [if_pos ka] at this
    exact this.symm
  · have := h.pc.to5 kc
    unfold Nw at this
    rw [if_pos ka] at this
    exact this.symm
  · have := h.pd.old (n5 _ ka)
    unfold Ex at this
    rwa [if_pos kc] at this
  · have := h.pd.to5 ka
    unfold Nw at this
    rwa [if_pos kc] at this
theorem Cm.ex {a b c d : Qp} (h : Cm a b c d) {u m z : ByteArray} (h1 : Ex a u m) (h2 : Ex b m z) : ∃ u', Ex c u u' ∧ Ex d u' z := by
  have kc := h.cc.1
  have kd := h.cd.1
  by_cases ka : a.kind = 5 <;> by_cases kb : b.kind = 5
  · unfold Ex at h1 h2
    rw [if_pos ka] at h1
    rw [if_pos kb] at h2
    obtain ⟨l, q1, q2⟩ := Pa.square (h.square ka kb) h1 h2
    obtain ⟨u', rfl⟩ := L_of l
    refine ⟨u', ?_, ?_⟩
    · unfold Ex; rw [if_pos (kc.trans kb)]; exact q1
    · unfold Ex; rw [if_pos (kd.trans ka)]; exact q2
  · have hz : z = m := by unfold Ex at h2; rwa [if_neg kb] at h2
    subst hz
    have hs := h.pd.still (by rw [kc]; exact kb)
    exact ⟨u, by unfold Ex; rw [if_neg (by rw [kc]; exact kb)], h1.sh hs.symm⟩
  · have hz : m = u := by unfold Ex at h1; rwa [if_neg ka] at h1
    subst hz
    have hs := h.pc.still ka
    exact ⟨z, h2.sh hs, by unfold Ex; rw [if_neg (by rw [kd]; exact ka)]⟩
  · have hz : z = m := by unfold Ex at h2; rwa [if_neg kb] at h2
    have hz2 : m = u := by unfold Ex at h1; rwa [if_neg ka] at h1
    subst hz hz2
    exact ⟨z, by unfold Ex; rw [if_neg (by rw [kc]; exact kb)], by unfold Ex; rw [if_neg (by rw [kd]; exact ka)]⟩
theorem Cm.nw {a b c d : Qp} (h : Cm a b c d) {u m z : ByteArray} (h1 : Nw a u m) (h2 : Nw b m z) : ∃ u', Nw c u u' ∧ Nw d u' z := by
  have kc := h.cc.1
  have kd := h.cd.1
  by_cases ka : a.kind = 5 <;> by_cases kb : b.kind = 5
  · unfold Nw at h1 h2
    rw [if_pos ka] at h1
    rw [if_pos kb] at h2
    obtain ⟨l, q1, q2⟩ := Pa.square_new (h.square ka kb) h1 h2
    obtain ⟨u', rfl⟩ := L_of l
    refine ⟨u', ?_, ?_⟩
    · unfold Nw; rw [if_pos (kc.trans kb)]; exact q1
    · unfold Nw; rw [if_pos (kd.trans ka)]; exact q2
  · have hz : z = m := by unfold Nw at h2; rwa [if_neg kb] at h2
    subst hz
    have hs := h.pd.still (by rw [kc]; exact kb)
    exact ⟨u, by unfold Nw; rw [if_neg (by rw [kc]; exact kb)], h1.sh hs.symm⟩
  · have hz : m = u := by unfold Nw at h1; rwa [if_neg ka] at h1
    subst hz
    have hs := h.pc.still ka
    exact ⟨z, h2.sh hs, by unfold Nw; rw [if_neg (by rw [kd]; exact ka)]⟩
  · have hz : z = m := by unfold Nw at h2; rwa [if_neg kb] at h2
    have hz2 : m = u := by unfold Nw at h1; rwa [if_neg ka] at h1
    subst hz hz2
    exact ⟨z, by unfold Nw; rw [if_neg (by rw [kc]; exact kb)], by unfold Nw; rw [if_neg (by rw [kd]; exact ka)]⟩
theorem Cm.pr {a b c d : Qp} (h : Cm a b c d) {r r1 z : Qp} (h1 : PR a r r1) (h2 : PR b r1 z) : ∃ r', PR c r r' ∧ PR d r' z := by
  have k1 := h1.kind
  have hx : ∃ s, (Qm.adds r.kind = true → Nw c r.path s ∧ Nw d s z.path) ∧ (Qm.adds r.kind = false → Ex c r.path s ∧ Ex d s z.path) := by
    cases e : Qm.adds r.kind
    · obtain ⟨s, q1, q2⟩ := h.ex (h1.old e) (h2.old (by rw [k1]; exact e))
      exact ⟨s, (fun h => nomatch h), fun _ => ⟨q1, q2⟩⟩
    · obtain ⟨s, q1, q2⟩ := h.nw (h1.new e) (h2.new (by rw [k1]; exact e))
      exact ⟨s, fun _ => ⟨q1, q2⟩, (fun h => nomatch h)⟩
  have hy : ∃ t, (r.kind = 5 → Nw c r.to_ t ∧ Nw d t z.to_) ∧ (r.kind ≠ 5 → t = r.to_ ∧ z.to_ = r.to_) := by
    by_cases e : r.kind = 5
    · obtain ⟨t, q1, q2⟩ := h.nw (h1.to5 e) (h2.to5 (k1.trans e))
      exact ⟨t, fun _ => ⟨q1, q2⟩, fun h => (h e).elim⟩
    · exact ⟨r.to_, fun h => (e h).elim, fun _ => ⟨rfl, by rw [h2.to0 (by rw [k1]; exact e), h1.to0 e]⟩⟩
  obtain ⟨s, s1, s2⟩ := hx
  obtain ⟨t, t1, t2⟩ := hy
  refine ⟨{ r with path := s, to_ := t }, ⟨rfl, fun e => (s1 e).1, fun e => (s2 e).1, fun e => (t1 e).1, fun e => (t2 e).1⟩, ⟨h2.kind.trans k1, fun e => (s1 e).2, fun e => (s2 e).2, fun e => (t1 e).2, fun e => ?_⟩⟩
  show z.to_ = t
  rw [(t2 e).1, (t2 e).2]

/-- The places of three edits. -/
theorem places {P Q R : Prop} {A B C a1 b1 c1 a2 b2 c2 x1 y1 x2 z1 y2 z2 : Int} {l1 l2 m1 m2 n1 n2 : Nat} (t1 : P → Q → R) (t2 : P → R → Q) (t3 : Q → R → P)
    (e1 : P → Cross A l1 l2 B m1 m2 b1 a1) (f1 : ¬ P → b1 = B ∧ a1 = A) (e2 : Q → Cross a1 l1 l2 C n1 n2 c1 a2) (f2 : ¬ Q → c1 = C ∧ a2 = a1) (e3 : R → Cross b1 m1 m2 c1 n1 n2 c2 b2) (f3 : ¬ R → c2 = c1 ∧ b2 = b1)
    (e4 : R → Cross B m1 m2 C n1 n2 x1 y1) (f4 : ¬ R → x1 = C ∧ y1 = B) (e5 : Q → Cross A l1 l2 x1 n1 n2 x2 z1) (f5 : ¬ Q → x2 = x1 ∧ z1 = A) (e6 : P → Cross z1 l1 l2 y1 m1 m2 y2 z2) (f6 : ¬ P → y2 = y1 ∧ z2 = z1) :
    c2 = x2 ∧ b2 = y2 ∧ a2 = z2 := by
  by_cases p : P <;> by_cases q : Q <;> by_cases r : R
  · have e1 := e1 p
    have e2 := e2 q
    have e3 := e3 r
    have e4 := e4 r
    have e5 := e5 q
    have e6 := e6 p
    unfold Cross at e1 e2 e3 e4 e5 e6
    rcases e1 with e1 | e1 <;> rcases e4 with e4 | e4 <;> rcases e2 with e2 | e2 <;> rcases e3 with e3 | e3 <;> rcases e5 with e5 | e5 <;> rcases e6 with e6 | e6 <;> omega
  · exact (r (t1 p q)).elim
  · exact (q (t2 p r)).elim
  · have e1 := e1 p
    have e6 := e6 p
    have f2 := f2 q
    have f3 := f3 r
    have f4 := f4 r
    have f5 := f5 q
    unfold Cross at e1 e6
    omega
  · exact (p (t3 q r)).elim
  · have e2 := e2 q
    have e5 := e5 q
    have f1 := f1 p
    have f3 := f3 r
    have f4 := f4 r
    have f6 := f6 p
    unfold Cross at e2 e5
    omega
  · have e3 := e3 r
    have e4 := e4 r
    have f1 := f1 p
    have f2 := f2 q
    have f5 := f5 q
    have f6 := f6 p
    unfold Cross at e3 e4
    omega
  · have f1 := f1 p
    have f2 := f2 q
    have f3 := f3 r
    have f4 := f4 r
    have f5 := f5 q
    have f6 := f6 p
    omega

theorem permute_at {a b c b1 a1 c1 a2 c2 b2 x1 y1 x2 z1 y2 z2 : Qp} (h1 : Cm a b b1 a1) (h2 : Cm a1 c c1 a2) (h3 : Cm b1 c1 c2 b2) (h4 : Cm b c x1 y1) (h5 : Cm a x1 x2 z1) (h6 : Cm z1 y1 y2 z2) (sc : Sh c2 x2) (sb : Sh b2 y2) :
    c2.at_ = x2.at_ ∧ b2.at_ = y2.at_ ∧ a2.at_ = z2.at_ := by
  have n0 : ∀ k : Int, k = 6 → Qm.adds k = false := fun k hk => by rw [hk]; rfl
  have ka1 := h1.cd.1
  have kb1 := h1.cc.1
  have kc1 := h2.cc.1
  have kc2 := h3.cc.1
  have kx1 := h4.cc.1
  have ky1 := h4.cd.1
  have kx2 := h5.cc.1
  have kz1 := h5.cd.1
  have i1 : a.kind = 6 → b.kind = 6 → (a.path = b1.path ↔ z1.path = y2.path) := fun ha hb => by
    have q1 := h5.pd.old (n0 _ ha)
    have q2 := (h3.pd.old (n0 _ (kb1.trans hb))).sh sc
    rw [sb.2.1] at q2
    constructor
    · intro e; rw [e] at q1; exact q1.uniq q2
    · intro e; rw [e] at q1; exact q1.inj q2
  have i2 : a.kind = 6 → c.kind = 6 → (a.path = x2.path ↔ a1.path = c1.path) := fun ha hc => by
    have q1 := h1.pd.old (n0 _ ha)
    have q2 := h3.pc.old (n0 _ (kc2.trans (kc1.trans hc)))
    rw [sc.2.1] at q2
    constructor
    · intro e; rw [e] at q1; exact q1.uniq q2
    · intro e; rw [e] at q1; exact q1.inj q2
  have i3 : b.kind = 6 → c.kind = 6 → (b1.path = c2.path ↔ b.path = x1.path) := fun hb hc => by
    have q1 := h1.pc.old (n0 _ (kb1.trans hb))
    have q2 := h5.pc.old (n0 _ (kx2.trans (kx1.trans hc)))
    rw [← sc.2.1] at q2
    constructor
    · intro e; rw [e] at q1; exact q1.uniq q2
    · intro e; rw [e] at q1; exact q1.inj q2
  have ft : a.kind = 6 → b.kind = 6 → c.kind = 6 → (a.path = b1.path ↔ a.path = b.path) ∧ (a1.path = c1.path ↔ a.path = c.path) ∧ (b1.path = c2.path ↔ b.path = c.path) := fun ha hb hc => by
    have r1 := (h1.pc.still (by omega)).2.1
    have r2 := (h1.pd.still (by omega)).2.1
    have r3 := (h2.pc.still (by omega)).2.1
    have r4 := (h3.pc.still (by omega)).2.1
    rw [r2, ← r3, ← r1, ← r4, ← r3]
    exact ⟨Iff.rfl, Iff.rfl, Iff.rfl⟩
  have g1 := h1.cd
  have g2 := h1.cc
  have g3 := h2.cc
  have g4 := h4.cc
  have g5 := h4.cd
  have g6 := h5.cd
  refine places (P := a.kind = 6 ∧ b.kind = 6 ∧ a.path = b1.path) (Q := a.kind = 6 ∧ c.kind = 6 ∧ a1.path = c1.path) (R := b.kind = 6 ∧ c.kind = 6 ∧ b1.path = c2.path) (l1 := a.old.length) (l2 := a.new.length) (m1 := b.old.length) (m2 := b.new.length) (n1 := c.old.length) (n2 := c.new.length) (A := a.at_) (B := b.at_) (C := c.at_) (a1 := a1.at_) (b1 := b1.at_) (c1 := c1.at_) (x1 := x1.at_) (y1 := y1.at_) (z1 := z1.at_) ?_ ?_ ?_ ?_ ?_ ?_ ?_ ?_ ?_ ?_ ?_ ?_ ?_ ?_ ?_
  · rintro ⟨ha, hb, p⟩ ⟨_, hc, q⟩
    obtain ⟨f1, f2, f3⟩ := ft ha hb hc
    exact ⟨hb, hc, f3.2 ((f1.1 p).symm.trans (f2.1 q))⟩
  · rintro ⟨ha, hb, p⟩ ⟨_, hc, r⟩
    obtain ⟨f1, f2, f3⟩ := ft ha hb hc
    exact ⟨ha, hc, f2.2 ((f1.1 p).trans (f3.1 r))⟩
  · rintro ⟨ha, hc, q⟩ ⟨hb, _, r⟩
    obtain ⟨f1, f2, f3⟩ := ft ha hb hc
    exact ⟨ha, hb, f1.2 ((f2.1 q).trans (f3.1 r).symm)⟩
  · rintro ⟨ha, hb, p⟩
    exact h1.at6 ha hb p
  · exact h1.atN
  · rintro ⟨ha, hc, q⟩
    have := h2.at6 (ka1.trans ha) hc q
    simp only [g1.2.2.1, g1.2.2.2.1, g1.2.2.2.2.1, g1.2.2.2.2.2.1] at this
    exact this
  · rw [← ka1]; exact h2.atN
  · rintro ⟨hb, hc, r⟩
    have := h3.at6 (kb1.trans hb) (kc1.trans hc) r
    simp only [g2.2.2.1, g2.2.2.2.1, g2.2.2.2.2.1, g2.2.2.2.2.2.1, g3.2.2.1, g3.2.2.2.1, g3.2.2.2.2.1, g3.2.2.2.2.2.1] at this
    exact this
  · rw [← kb1, ← kc1]; exact h3.atN
  · rintro ⟨hb, hc, r⟩
    exact h4.at6 hb hc ((i3 hb hc).1 r)
  · intro hn
    exact h4.atN (fun ⟨hb, hc, r⟩ => hn ⟨hb, hc, (i3 hb hc).2 r⟩)
  · rintro ⟨ha, hc, q⟩
    have := h5.at6 ha (kx1.trans hc) ((i2 ha hc).2 q)
    simp only [g4.2.2.1, g4.2.2.2.1, g4.2.2.2.2.1, g4.2.2.2.2.2.1] at this
    exact this
  · intro hn
    exact h5.atN (fun ⟨ha, hc, q⟩ => hn ⟨ha, kx1.symm.trans hc, (i2 ha (kx1.symm.trans hc)).1 q⟩)
  · rintro ⟨ha, hb, p⟩
    have := h6.at6 (kz1.trans ha) (ky1.trans hb) ((i1 ha hb).1 p)
    simp only [g5.2.2.1, g5.2.2.2.1, g5.2.2.2.2.1, g5.2.2.2.2.2.1, g6.2.2.1, g6.2.2.2.1, g6.2.2.2.2.1, g6.2.2.2.2.2.1] at this
    exact this
  · intro hn
    exact h6.atN (fun ⟨ha, hb, p⟩ => hn ⟨kz1.symm.trans ha, ky1.symm.trans hb, (i1 (kz1.symm.trans ha) (ky1.symm.trans hb)).2 p⟩)

theorem permute_off {a b c b1 a1 c1 a2 c2 b2 x1 y1 x2 z1 y2 z2 : Qp} (h1 : Cm a b b1 a1) (h2 : Cm a1 c c1 a2) (h3 : Cm b1 c1 c2 b2) (h4 : Cm b c x1 y1) (h5 : Cm a x1 x2 z1) (h6 : Cm z1 y1 y2 z2) (sc : Sh c2 x2) (sb : Sh b2 y2) :
    c2.off = x2.off ∧ b2.off = y2.off ∧ a2.off = z2.off := by
  have n0 : ∀ k : Int, k = 7 → Qm.adds k = false := fun k hk => by rw [hk]; rfl
  have ka1 := h1.cd.1
  have kb1 := h1.cc.1
  have kc1 := h2.cc.1
  have kc2 := h3.cc.1
  have kx1 := h4.cc.1
  have ky1 := h4.cd.1
  have kx2 := h5.cc.1
  have kz1 := h5.cd.1
  have i1 : a.kind = 7 → b.kind = 7 → (a.path = b1.path ↔ z1.path = y2.path) := fun ha hb => by
    have q1 := h5.pd.old (n0 _ ha)
    have q2 := (h3.pd.old (n0 _ (kb1.trans hb))).sh sc
    rw [sb.2.1] at q2
    constructor
    · intro e; rw [e] at q1; exact q1.uniq q2
    · intro e; rw [e] at q1; exact q1.inj q2
  have i2 : a.kind = 7 → c.kind = 7 → (a.path = x2.path ↔ a1.path = c1.path) := fun ha hc => by
    have q1 := h1.pd.old (n0 _ ha)
    have q2 := h3.pc.old (n0 _ (kc2.trans (kc1.trans hc)))
    rw [sc.2.1] at q2
    constructor
    · intro e; rw [e] at q1; exact q1.uniq q2
    · intro e; rw [e] at q1; exact q1.inj q2
  have i3 : b.kind = 7 → c.kind = 7 → (b1.path = c2.path ↔ b.path = x1.path) := fun hb hc => by
    have q1 := h1.pc.old (n0 _ (kb1.trans hb))
    have q2 := h5.pc.old (n0 _ (kx2.trans (kx1.trans hc)))
    rw [← sc.2.1] at q2
    constructor
    · intro e; rw [e] at q1; exact q1.uniq q2
    · intro e; rw [e] at q1; exact q1.inj q2
  have ft : a.kind = 7 → b.kind = 7 → c.kind = 7 → (a.path = b1.path ↔ a.path = b.path) ∧ (a1.path = c1.path ↔ a.path = c.path) ∧ (b1.path = c2.path ↔ b.path = c.path) := fun ha hb hc => by
    have r1 := (h1.pc.still (by omega)).2.1
    have r2 := (h1.pd.still (by omega)).2.1
    have r3 := (h2.pc.still (by omega)).2.1
    have r4 := (h3.pc.still (by omega)).2.1
    rw [r2, ← r3, ← r1, ← r4, ← r3]
    exact ⟨Iff.rfl, Iff.rfl, Iff.rfl⟩
  have g1 := h1.cd
  have g2 := h1.cc
  have g3 := h2.cc
  have g4 := h4.cc
  have g5 := h4.cd
  have g6 := h5.cd
  refine places (P := a.kind = 7 ∧ b.kind = 7 ∧ a.path = b1.path) (Q := a.kind = 7 ∧ c.kind = 7 ∧ a1.path = c1.path) (R := b.kind = 7 ∧ c.kind = 7 ∧ b1.path = c2.path) (l1 := a.so.size) (l2 := a.sn.size) (m1 := b.so.size) (m2 := b.sn.size) (n1 := c.so.size) (n2 := c.sn.size) (A := a.off) (B := b.off) (C := c.off) (a1 := a1.off) (b1 := b1.off) (c1 := c1.off) (x1 := x1.off) (y1 := y1.off) (z1 := z1.off) ?_ ?_ ?_ ?_ ?_ ?_ ?_ ?_ ?_ ?_ ?_ ?_ ?_ ?_ ?_
  · rintro ⟨ha, hb, p⟩ ⟨_, hc, q⟩
    obtain ⟨f1, f2, f3⟩ := ft ha hb hc
    exact ⟨hb, hc, f3.2 ((f1.1 p).symm.trans (f2.1 q))⟩
  · rintro ⟨ha, hb, p⟩ ⟨_, hc, r⟩
    obtain ⟨f1, f2, f3⟩ := ft ha hb hc
    exact ⟨ha, hc, f2.2 ((f1.1 p).trans (f3.1 r))⟩
  · rintro ⟨ha, hc, q⟩ ⟨hb, _, r⟩
    obtain ⟨f1, f2, f3⟩ := ft ha hb hc
    exact ⟨ha, hb, f1.2 ((f2.1 q).trans (f3.1 r).symm)⟩
  · rintro ⟨ha, hb, p⟩
    exact h1.of7 ha hb p
  · exact h1.ofN
  · rintro ⟨ha, hc, q⟩
    have := h2.of7 (ka1.trans ha) hc q
    simp only [g1.2.2.1, g1.2.2.2.1, g1.2.2.2.2.1, g1.2.2.2.2.2.1] at this
    exact this
  · rw [← ka1]; exact h2.ofN
  · rintro ⟨hb, hc, r⟩
    have := h3.of7 (kb1.trans hb) (kc1.trans hc) r
    simp only [g2.2.2.1, g2.2.2.2.1, g2.2.2.2.2.1, g2.2.2.2.2.2.1, g3.2.2.1, g3.2.2.2.1, g3.2.2.2.2.1, g3.2.2.2.2.2.1] at this
    exact this
  · rw [← kb1, ← kc1]; exact h3.ofN
  · rintro ⟨hb, hc, r⟩
    exact h4.of7 hb hc ((i3 hb hc).1 r)
  · intro hn
    exact h4.ofN (fun ⟨hb, hc, r⟩ => hn ⟨hb, hc, (i3 hb hc).2 r⟩)
  · rintro ⟨ha, hc, q⟩
    have := h5.of7 ha (kx1.trans hc) ((i2 ha hc).2 q)
    simp only [g4.2.2.1, g4.2.2.2.1, g4.2.2.2.2.1, g4.2.2.2.2.2.1] at this
    exact this
  · intro hn
    exact h5.ofN (fun ⟨ha, hc, q⟩ => hn ⟨ha, kx1.symm.trans hc, (i2 ha (kx1.symm.trans hc)).1 q⟩)
  · rintro ⟨ha, hb, p⟩
    have := h6.of7 (kz1.trans ha) (ky1.trans hb) ((i1 ha hb).1 p)
    simp only [g5.2.2.1, g5.2.2.2.1, g5.2.2.2.2.1, g5.2.2.2.2.2.1, g6.2.2.1, g6.2.2.2.1, g6.2.2.2.2.1, g6.2.2.2.2.2.1] at this
    exact this
  · intro hn
    exact h6.ofN (fun ⟨ha, hb, p⟩ => hn ⟨kz1.symm.trans ha, ky1.symm.trans hb, (i1 (kz1.symm.trans ha) (ky1.symm.trans hb)).2 p⟩)

/-- Both ways lead to the same three patches. -/
theorem permute {a b c b1 a1 c1 a2 c2 b2 x1 y1 x2 z1 y2 z2 : Qp} (h1 : Cm a b b1 a1) (h2 : Cm a1 c c1 a2) (h3 : Cm b1 c1 c2 b2) (h4 : Cm b c x1 y1) (h5 : Cm a x1 x2 z1) (h6 : Cm z1 y1 y2 z2) : c2 = x2 ∧ b2 = y2 ∧ a2 = z2 := by
  have sc : Sh c2 x2 := by
    obtain ⟨m, q1, q2⟩ := h1.pr h5.pc h4.pc
    have e := q2.inj h2.pc
    exact h3.pc.inj (q1.shr e)
  have sb : Sh b2 y2 := by
    obtain ⟨m, q1, q2⟩ := h5.pr h1.pc h4.pd
    have e := q2.inj h6.pc
    exact (h3.pd.uniq (q1.sh sc.symm)).trans e
  have sa : Sh a2 z2 := by
    obtain ⟨m, q1, q2⟩ := h3.pr h1.pd h2.pd
    have e := q1.uniq (h5.pd.sh sc.symm)
    exact (q2.shl e).uniq (h6.pd.sh sb.symm)
  obtain ⟨t1, t2, t3⟩ := permute_at h1 h2 h3 h4 h5 h6 sc sb
  obtain ⟨o1, o2, o3⟩ := permute_off h1 h2 h3 h4 h5 h6 sc sb
  exact ⟨Core.eq (h2.cc.trans h3.cc) (h4.cc.trans h5.cc) sc t1 o1, Core.eq (h1.cc.trans h3.cd) (h4.cd.trans h6.cc) sb t2 o2, Core.eq (h1.cd.trans h2.cd) (h5.cd.trans h6.cd) sa t3 o3⟩
end Go.Proofs.YtgfiddlmeopebaaGreatDoor
namespace Go.Proofs.YtgfiddlmeopebaaGreatDoor
open Go.RowKit Pa

/-- Neither path is the other one, or below it. -/
def Dj (s t : ByteArray) : Prop := ¬ wi (L s) (L t) ∧ ¬ wi (L t) (L s)
theorem Dj.ne {s t : ByteArray} (h : Dj s t) : s ≠ t := fun e => h.1 (by rw [e]; exact wi.refl _)
/-- The paths that a patch touches. -/
def Tc (q : Qp) (s : ByteArray) : Prop := s = q.path ∨ (q.kind = 5 ∧ s = q.to_)
def Apart (a b : Qp) : Prop := ∀ s t, Tc a s → Tc b t → Dj s t
theorem Apart.symm {a b : Qp} (h : Apart a b) : Apart b a := fun s t hs ht => ⟨(h t s ht hs).2, (h t s ht hs).1⟩
theorem inv_tc {q : Qp} {s : ByteArray} (h : Tc q.inv s) : Tc q s := by
  by_cases hk : q.kind = 5
  · have hp := inv_paths hk
    rcases h with rfl | ⟨_, rfl⟩
    · exact .inr ⟨hk, hp.1⟩
    · exact .inl hp.2
  · have hp : q.inv.path = q.path := by
      unfold Qp.inv
      repeat' split
      all_goals first | rfl | (exfalso; omega)
    rcases h with rfl | ⟨h5, _⟩
    · exact .inl hp
    · exact (hk (inv_kind5.1 h5)).elim
theorem Apart.inv {a b : Qp} (h : Apart a b) : Apart a.inv b := fun s t hs ht => h s t (inv_tc hs) ht

theorem after_apart {k : Int} {path to_ s : ByteArray} (h1 : ¬ wi (L s) (L path)) (h2 : k = 5 → ¬ wi (L s) (L to_)) : Qm.after k path to_ s = (s, true) := by
  have w1 : Qm.within s path = false := by
    cases e : Qm.within s path
    · rfl
    · exact (h1 (Pa.within_iff.1 e)).elim
  have w2 : Qm.below s path = false := by
    cases e : Qm.below s path
    · rfl
    · exact (h1 (below_iff.1 e).wi).elim
  unfold Qm.after
  split
  · rw [w1]; rfl
  · split
    · rename_i h5
      have w3 : Qm.within s to_ = false := by
        cases e : Qm.within s to_
        · rfl
        · exact (h2 (by simpa using h5) (Pa.within_iff.1 e)).elim
      rw [w1, w3]; rfl
    · rw [w2]; rfl
theorem newAfter_apart {k : Int} {path to_ s : ByteArray} (h1 : ¬ wi (L s) (L path)) (h2 : k = 5 → ¬ wi (L s) (L to_)) : Qm.newAfter k path to_ s = (s, true) := by
  have w2 : Qm.below s path = false := by
    cases e : Qm.below s path
    · rfl
    · exact (h1 (below_iff.1 e).wi).elim
  unfold Qm.newAfter
  rw [w2, Bool.and_false, if_neg (by decide)]
  rcases last_slash s with ⟨h0, hn⟩ | ⟨i, name, hi, hlt, hs, hn, hd⟩
  · rw [if_pos h0]
  · rw [if_neg (by omega), hi]
    dsimp only [Int.toNat_natCast]
    have hp : L (s.extract 0 i) = (L s).take i := by rw [L_extract]; rfl
    have hw : wi (L s) (L (s.extract 0 i)) := ⟨47 :: name, .inr ⟨name, rfl⟩, by rw [hp]; exact hs⟩
    rw [after_apart (fun w => h1 (hw.trans w)) (fun h5 w => h2 h5 (hw.trans w))]
    have e : s.extract 0 i ++ s.extract i s.size = s := by
      refine L_inj ?_
      rw [L_append, L_extract, L_extract]
      show List.take i (L s) ++ List.drop i (List.take (L s).length (L s)) = L s
      rw [List.take_length, List.take_append_drop]
    rw [e]
theorem through_apart {q r : Qp} (h : Apart q r) : Qp.through r q = (r, true) := by
  have h1 := (h q.path r.path (.inl rfl) (.inl rfl)).2
  have h2 : q.kind = 5 → ¬ wi (L r.path) (L q.to_) := fun hk => (h q.to_ r.path (.inr ⟨hk, rfl⟩) (.inl rfl)).2
  unfold Qp.through Pv.through
  dsimp only
  rw [after_apart h1 h2, newAfter_apart h1 h2]
  by_cases hk : r.kind = 5
  · have h3 := (h q.path r.to_ (.inl rfl) (.inr ⟨hk, rfl⟩)).2
    have h4 : q.kind = 5 → ¬ wi (L r.to_) (L q.to_) := fun hq => (h q.to_ r.to_ (.inr ⟨hq, rfl⟩) (.inr ⟨hk, rfl⟩)).2
    rw [newAfter_apart h3 h4]
    cases r
    simp
  · have e : (r.kind == 5) = false := by simpa using hk
    simp only [e, Bool.false_eq_true, if_false]
    cases r
    simp
theorem newPath_tc {q : Qp} (h : (Qm.newPath q.kind q.path q.to_).2 = true) : Tc q (Qm.newPath q.kind q.path q.to_).1 := by
  unfold Qm.newPath at h ⊢
  split
  · exact .inl rfl
  · rename_i ha
    rw [if_neg ha] at h
    exact .inr ⟨by simpa using h, rfl⟩
theorem news_apart {a b : Qp} (h : Apart a b) : Qm.news a.kind a.path a.to_ b.kind b.path b.to_ = true := by
  unfold Qm.news
  cases e1 : (Qm.newPath a.kind a.path a.to_).2
  · rfl
  cases e2 : (Qm.newPath b.kind b.path b.to_).2
  · rfl
  have hne := (h _ _ (newPath_tc e1) (newPath_tc e2)).ne
  cases e3 : Qm.eqB (Qm.newPath a.kind a.path a.to_).1 (Qm.newPath b.kind b.path b.to_).1
  · rfl
  · exact (hne (Qm.eqB_iff.1 e3)).elim
theorem run_apart {a b : Qp} (h : Apart a b) (ha : a.check = 0) (hb : b.check = 0) : a.run b = (b, a, true) := by
  have pp := h a.path b.path (.inl rfl) (.inl rfl)
  have hf : Qp.free a b b a = true := by
    unfold Qp.free Qm.xfree
    have h1 : ((Qm.newPath b.kind b.path b.to_).2 && Qm.frees a.kind && Qm.eqB (Qm.newPath b.kind b.path b.to_).1 a.path) = false := by
      cases e2 : (Qm.newPath b.kind b.path b.to_).2
      · rfl
      have hne := (h _ _ (.inl rfl) (newPath_tc e2)).ne
      cases e3 : Qm.eqB (Qm.newPath b.kind b.path b.to_).1 a.path
      · simp
      · exact (hne (Qm.eqB_iff.1 e3).symm).elim
    dsimp only
    rw [h1, news_apart h]
    rfl
  have he : Qp.empty a b b = true := by
    unfold Qp.empty Qm.xempty
    cases e : Qm.below a.path b.path
    · simp
    · exact (pp.1 (below_iff.1 e).wi).elim
  have hm : Qp.moves a b = true := by
    unfold Qp.moves Qm.xmoves
    cases e5 : (a.kind != 5)
    · have k5 : a.kind = 5 := by simpa using e5
      cases e : Qm.eqB a.to_ b.path
      · simp
      · exact ((h a.to_ b.path (.inr ⟨k5, rfl⟩) (.inl rfl)).ne (Qm.eqB_iff.1 e)).elim
    · rfl
  have hc : Qp.contents a b b a = (b, a, true) := by
    have e : Qm.eqB a.path b.path = false := by
      cases e : Qm.eqB a.path b.path
      · rfl
      · exact (pp.ne (Qm.eqB_iff.1 e)).elim
    unfold Qp.contents
    rw [if_pos (.inr (.inr e))]
  unfold Qp.run Qp.runOf
  rw [through_apart h.inv]
  dsimp only
  rw [through_apart h.symm]
  dsimp only
  rw [hf, he, hm, hc]
  simp [ha, hb]
theorem commute_apart {a b : Qp} (h : Apart a b) (ha : a.check = 0) (hb : b.check = 0) : a.commute b = (b, a, true) := by
  unfold Qp.commute
  rw [if_neg (by simp [ha, hb]), run_apart h ha hb]
  dsimp only
  rw [if_neg (by simp), run_apart h.symm hb ha]
  dsimp only
  rw [if_pos (by simp [Qp.same_iff.2 rfl])]

/-! ### The inverse -/
theorem empty_list {s : ByteArray} (h : s.toList.isEmpty = true) : s = ⟨#[]⟩ := by
  have hs := size_of_empty h
  refine L_inj ?_
  exact List.length_eq_zero_iff.1 hs
/-- What a valid patch has no use for is empty. -/
structure Qp.Lean' (q : Qp) : Prop where
  to_ : q.kind ≠ 5 → q.to_ = ⟨#[]⟩
  ty : q.kind ≠ 1 → q.kind ≠ 2 → q.ty = 0
  at_ : q.kind ≠ 6 → q.at_ = 0
  old : q.kind ≠ 6 → q.old = []
  new : q.kind ≠ 6 → q.new = []
  off : q.kind ≠ 7 → q.off = 0
  so : q.kind ≠ 2 → q.kind ≠ 7 → q.so = ⟨#[]⟩
  sn : q.kind ≠ 1 → q.kind ≠ 7 → q.sn = ⟨#[]⟩
  om : q.kind ≠ 2 → q.kind ≠ 8 → q.om = 0
  nm : q.kind ≠ 1 → q.kind ≠ 8 → q.nm = 0
theorem check_parts {q : Qp} (h : q.check = 0) : (1 ≤ q.kind ∧ q.kind ≤ 8) ∧ (q.pv none 0 none 0).tidy = true ∧ (q.pv none 0 none 0).pathsOk = true ∧ (q.pv none 0 none 0).actCheck q.old q.new = 0 := by
  unfold Qp.check Pv.check at h
  cases hk : (q.pv none 0 none 0).known
  · rw [if_pos hk] at h; cases h
  rw [if_neg (by rw [hk]; exact Bool.noConfusion)] at h
  cases ht : (q.pv none 0 none 0).tidy
  · rw [if_pos ht] at h; cases h
  rw [if_neg (by rw [ht]; exact Bool.noConfusion)] at h
  cases hp : (q.pv none 0 none 0).pathsOk
  · rw [if_pos hp] at h; cases h
  rw [if_neg (by rw [hp]; exact Bool.noConfusion)] at h
  exact ⟨by simpa [Pv.known] using hk, rfl, rfl, h⟩
theorem check_of_parts {q : Qp} (hk : 1 ≤ q.kind ∧ q.kind ≤ 8) (ht : (q.pv none 0 none 0).tidy = true) (hp : (q.pv none 0 none 0).pathsOk = true) (h : (q.pv none 0 none 0).actCheck q.old q.new = 0) : q.check = 0 := by
  unfold Qp.check Pv.check
  have hk' : (q.pv none 0 none 0).known = true := by simpa [Pv.known] using hk
  rw [if_neg (by rw [hk']; exact Bool.noConfusion), if_neg (by rw [ht]; exact Bool.noConfusion), if_neg (by rw [hp]; exact Bool.noConfusion)]
  exact h
theorem check_lean {q : Qp} (h : q.check = 0) : q.Lean' := by
  have ht := (check_parts h).2.1
  unfold Pv.tidy Pv.strip at ht
  have fin : ∀ {n m : Nat}, (n : Int) + m = 0 → n = 0 ∧ m = 0 := fun h => by omega
  by_cases k1 : q.kind = 1
  · rw [if_pos (by exact k1)] at ht
    simp only [Pv.bare, Bool.and_eq_true, beq_iff_eq] at ht
    obtain ⟨⟨⟨⟨⟨⟨⟨⟨t1, t2⟩, t3⟩, t4⟩, t5⟩, t6⟩, t7⟩, t8⟩, t9⟩ := ht
    have f := fin t4
    exact ⟨fun _ => empty_list t1, fun h => (h k1).elim, fun _ => t3, fun _ => List.length_eq_zero_iff.1 f.1, fun _ => List.length_eq_zero_iff.1 f.2, fun _ => t5, fun _ _ => empty_list t6, fun h => (h k1).elim, fun _ _ => t8, fun h => (h k1).elim⟩
  rw [if_neg (by exact k1)] at ht
  by_cases k2 : q.kind = 2
  · rw [if_pos (by exact k2)] at ht
    simp only [Pv.bare, Bool.and_eq_true, beq_iff_eq] at ht
    obtain ⟨⟨⟨⟨⟨⟨⟨⟨t1, t2⟩, t3⟩, t4⟩, t5⟩, t6⟩, t7⟩, t8⟩, t9⟩ := ht
    have f := fin t4
    exact ⟨fun _ => empty_list t1, fun _ h => (h k2).elim, fun _ => t3, fun _ => List.length_eq_zero_iff.1 f.1, fun _ => List.length_eq_zero_iff.1 f.2, fun _ => t5, fun h => (h k2).elim, fun _ _ => empty_list t7, fun h => (h k2).elim, fun _ _ => t9⟩
  rw [if_neg (by exact k2)] at ht
  by_cases k5 : q.kind = 5
  · rw [if_pos (by exact k5)] at ht
    simp only [Pv.bare, Bool.and_eq_true, beq_iff_eq] at ht
    obtain ⟨⟨⟨⟨⟨⟨⟨⟨t1, t2⟩, t3⟩, t4⟩, t5⟩, t6⟩, t7⟩, t8⟩, t9⟩ := ht
    have f := fin t4
    exact ⟨fun h => (h k5).elim, fun _ _ => t2, fun _ => t3, fun _ => List.length_eq_zero_iff.1 f.1, fun _ => List.length_eq_zero_iff.1 f.2, fun _ => t5, fun _ _ => empty_list t6, fun _ _ => empty_list t7, fun _ _ => t8, fun _ _ => t9⟩
  rw [if_neg (by exact k5)] at ht
  by_cases k6 : q.kind = 6
  · rw [if_pos (by exact k6)] at ht
    simp only [Pv.bare, Bool.and_eq_true, beq_iff_eq] at ht
    obtain ⟨⟨⟨⟨⟨⟨⟨⟨t1, t2⟩, t3⟩, t4⟩, t5⟩, t6⟩, t7⟩, t8⟩, t9⟩ := ht
    exact ⟨fun _ => empty_list t1, fun _ _ => t2, fun h => (h k6).elim, fun h => (h k6).elim, fun h => (h k6).elim, fun _ => t5, fun _ _ => empty_list t6, fun _ _ => empty_list t7, fun _ _ => t8, fun _ _ => t9⟩
  rw [if_neg (by exact k6)] at ht
  by_cases k7 : q.kind = 7
  · rw [if_pos (by exact k7)] at ht
    simp only [Pv.bare, Bool.and_eq_true, beq_iff_eq] at ht
    obtain ⟨⟨⟨⟨⟨⟨⟨⟨t1, t2⟩, t3⟩, t4⟩, t5⟩, t6⟩, t7⟩, t8⟩, t9⟩ := ht
    have f := fin t4
    exact ⟨fun _ => empty_list t1, fun _ _ => t2, fun _ => t3, fun _ => List.length_eq_zero_iff.1 f.1, fun _ => List.length_eq_zero_iff.1 f.2, fun h => (h k7).elim, fun _ h => (h k7).elim, fun _ h => (h k7).elim, fun _ _ => t8, fun _ _ => t9⟩
  rw [if_neg (by exact k7)] at ht
  by_cases k8 : q.kind = 8
  · rw [if_pos (by exact k8)] at ht
    simp only [Pv.bare, Bool.and_eq_true, beq_iff_eq] at ht
    obtain ⟨⟨⟨⟨⟨⟨⟨⟨t1, t2⟩, t3⟩, t4⟩, t5⟩, t6⟩, t7⟩, t8⟩, t9⟩ := ht
    have f := fin t4
    exact ⟨fun _ => empty_list t1, fun _ _ => t2, fun _ => t3, fun _ => List.length_eq_zero_iff.1 f.1, fun _ => List.length_eq_zero_iff.1 f.2, fun _ => t5, fun _ _ => empty_list t6, fun _ _ => empty_list t7, fun _ h => (h k8).elim, fun _ h => (h k8).elim⟩
  rw [if_neg (by exact k8)] at ht
  simp only [Pv.bare, Bool.and_eq_true, beq_iff_eq] at ht
  obtain ⟨⟨⟨⟨⟨⟨⟨⟨t1, t2⟩, t3⟩, t4⟩, t5⟩, t6⟩, t7⟩, t8⟩, t9⟩ := ht
  have f := fin t4
  exact ⟨fun _ => empty_list t1, fun _ _ => t2, fun _ => t3, fun _ => List.length_eq_zero_iff.1 f.1, fun _ => List.length_eq_zero_iff.1 f.2, fun _ => t5, fun _ _ => empty_list t6, fun _ _ => empty_list t7, fun _ _ => t8, fun _ _ => t9⟩
theorem inv_inv {q : Qp} (h : q.check = 0) : q.inv.inv = q := by
  have l := check_lean h
  obtain ⟨g1, g2, g3, g4, g5, g6, g7, g8, g9, g10⟩ := l
  have hk := (check_parts h).1
  cases q
  rename_i kind path to_ ty at_ old new off so sn om nm
  dsimp only at *
  unfold Qp.inv
  by_cases k1 : kind = 1
  · subst k1; simp_all [Qp.zero]
  by_cases k2 : kind = 2
  · subst k2; simp_all [Qp.zero]
  by_cases k3 : kind = 3
  · subst k3; simp_all [Qp.zero]
  by_cases k4 : kind = 4
  · subst k4; simp_all [Qp.zero]
  by_cases k5 : kind = 5
  · subst k5; simp_all [Qp.zero]
  simp [k1, k2, k3, k4, k5]

theorem empty_isEmpty : (⟨#[]⟩ : ByteArray).toList.isEmpty = true := by rw [ByteArray.toList_eq]; rfl
theorem path_ok {q : Qp} (h : (q.pv none 0 none 0).pathsOk = true) : Qm.isPath q.path = true ∧ (q.kind = 5 → Qm.isPath q.to_ = true) := by
  unfold Pv.pathsOk at h
  rw [Bool.and_eq_true] at h
  refine ⟨h.1, fun hk => ?_⟩
  have h2 := h.2
  have e5 : (q.kind == 5) = true := by simpa using hk
  rw [e5] at h2
  simpa using h2
theorem paths_ok {q : Qp} (h1 : Qm.isPath q.path = true) (h2 : q.kind = 5 → Qm.isPath q.to_ = true) : (q.pv none 0 none 0).pathsOk = true := by
  unfold Pv.pathsOk
  rw [Bool.and_eq_true]
  refine ⟨h1, ?_⟩
  by_cases hk : q.kind = 5
  · simp [h2 hk]
  · simp [hk]
theorem inv_check {q : Qp} (h : q.check = 0) : q.inv.check = 0 := by
  have l := check_lean h
  obtain ⟨hk, ht, hp, ha⟩ := check_parts h
  obtain ⟨p1, p2⟩ := path_ok hp
  have e0 := empty_isEmpty
  unfold Pv.actCheck at ha
  by_cases k1 : q.kind = 1
  · have ei : q.inv = { Qp.zero with kind := 2, path := q.path, ty := q.ty, om := q.nm, so := q.sn } := by unfold Qp.inv; rw [if_pos k1]
    rw [if_pos (by exact .inl k1)] at ha
    unfold Pv.addCheck at ha
    rw [if_neg (by show ¬ q.kind = 3; omega)] at ha
    rw [ei]
    refine check_of_parts ⟨by simp, by simp⟩ (by simp [Pv.tidy, Pv.strip, Pv.bare, Qp.zero, e0]) (paths_ok p1 (fun h => by simp at h)) ?_
    unfold Pv.actCheck Pv.remCheck
    rw [if_neg (by simp), if_pos (by simp), if_neg (by simp)]
    exact ha
  by_cases k3 : q.kind = 3
  · have ei : q.inv = { Qp.zero with kind := 4, path := q.path } := by unfold Qp.inv; rw [if_neg k1, if_pos k3]
    rw [ei]
    refine check_of_parts ⟨by simp, by simp⟩ (by simp [Pv.tidy, Pv.strip, Pv.bare, Qp.zero, e0]) (paths_ok p1 (fun h => by simp at h)) ?_
    unfold Pv.actCheck Pv.remCheck
    rw [if_neg (by simp), if_pos (by simp), if_pos (by simp)]
  rw [if_neg (by show ¬ (q.kind = 1 ∨ q.kind = 3); omega)] at ha
  by_cases k2 : q.kind = 2
  · have ei : q.inv = { Qp.zero with kind := 1, path := q.path, ty := q.ty, nm := q.om, sn := q.so } := by unfold Qp.inv; rw [if_neg k1, if_neg k3, if_pos k2]
    rw [if_pos (by exact .inl k2)] at ha
    unfold Pv.remCheck at ha
    rw [if_neg (by show ¬ q.kind = 4; omega)] at ha
    rw [ei]
    refine check_of_parts ⟨by simp, by simp⟩ (by simp [Pv.tidy, Pv.strip, Pv.bare, Qp.zero, e0]) (paths_ok p1 (fun h => by simp at h)) ?_
    unfold Pv.actCheck Pv.addCheck
    rw [if_pos (by simp), if_neg (by simp)]
    exact ha
  by_cases k4 : q.kind = 4
  · have ei : q.inv = { Qp.zero with kind := 3, path := q.path } := by unfold Qp.inv; rw [if_neg k1, if_neg k3, if_neg k2, if_pos k4]
    rw [ei]
    refine check_of_parts ⟨by simp, by simp⟩ (by simp [Pv.tidy, Pv.strip, Pv.bare, Qp.zero, e0]) (paths_ok p1 (fun h => by simp at h)) ?_
    unfold Pv.actCheck Pv.addCheck
    rw [if_pos (by simp), if_pos (by simp)]
  rw [if_neg (by show ¬ (q.kind = 2 ∨ q.kind = 4); omega)] at ha
  by_cases k5 : q.kind = 5
  · have ei : q.inv = { Qp.zero with kind := 5, path := q.to_, to_ := q.path } := by unfold Qp.inv; rw [if_neg k1, if_neg k3, if_neg k2, if_neg k4, if_pos k5]
    rw [if_pos (by exact k5)] at ha
    rw [ei]
    refine check_of_parts ⟨by simp, by simp⟩ (by simp [Pv.tidy, Pv.strip, Pv.bare, Qp.zero, e0]) (paths_ok (p2 k5) (fun _ => p1)) ?_
    unfold Pv.actCheck
    rw [if_neg (by simp), if_neg (by simp), if_pos (by simp)]
    unfold Pv.movCheck at ha ⊢
    split at ha
    · cases ha
    rename_i hn
    rw [if_neg]
    rintro (w | w | w)
    · exact hn (.inl (Qm.eqB_iff.2 (Qm.eqB_iff.1 w).symm))
    · exact hn (.inr (.inr w))
    · exact hn (.inr (.inl w))
  rw [if_neg (by exact k5)] at ha
  have ei : q.inv = { q with old := q.new, new := q.old, so := q.sn, sn := q.so, om := q.nm, nm := q.om } := by unfold Qp.inv; rw [if_neg k1, if_neg k3, if_neg k2, if_neg k4, if_neg k5]
  obtain ⟨g1, g2, g3, g4, g5, g6, g7, g8, g9, g10⟩ := l
  rw [ei]
  refine check_of_parts hk ?_ (paths_ok p1 p2) ?_
  · have c1 := g1 k5
    have c2 := g2 k1 k2
    by_cases k6 : q.kind = 6
    · simp [Pv.tidy, Pv.strip, Pv.bare, k6, c1, c2, g6 (by omega), g7 k2 (by omega), g8 k1 (by omega), g9 k2 (by omega), g10 k1 (by omega), e0]
    by_cases k7 : q.kind = 7
    · simp [Pv.tidy, Pv.strip, Pv.bare, k7, c1, c2, g3 k6, g4 k6, g5 k6, g9 k2 (by omega), g10 k1 (by omega), e0]
    have k8 : q.kind = 8 := by omega
    simp [Pv.tidy, Pv.strip, Pv.bare, k8, c1, c2, g3 k6, g4 k6, g5 k6, g6 k7, g7 k2 k7, g8 k1 k7, e0]
  · unfold Pv.actCheck
    rw [if_neg (by show ¬ (q.kind = 1 ∨ q.kind = 3); omega), if_neg (by show ¬ (q.kind = 2 ∨ q.kind = 4); omega), if_neg (by exact k5)]
    unfold Pv.edCheck6 at ha ⊢
    by_cases k6 : q.kind = 6
    · rw [if_pos (by exact k6)] at ha ⊢
      unfold Pv.linesCheck at ha ⊢
      split at ha
      · rename_i h6; exact (h6 ha).elim
      rename_i h6
      split at ha
      · cases ha
      rename_i h7
      split at ha
      · cases ha
      rename_i h8
      split at ha
      · cases ha
      rename_i h9
      have hh : Hv.check (Pv.hunk (Qp.pv { q with old := q.new, new := q.old, so := q.sn, sn := q.so, om := q.nm, nm := q.om } none 0 none 0)) = 0 := by
        simp only [ne_eq, Decidable.not_not] at h6
        unfold Hv.check Pv.hunk at h6 ⊢
        dsimp only at h6 ⊢
        split at h6
        · cases h6
        rename_i c1
        rw [if_neg c1]
        split at h6
        · cases h6
        rename_i c2
        rw [if_neg (by omega)]
      rw [if_neg (by rw [hh]; simp), if_neg (by dsimp only at h7 ⊢; omega), if_neg ?_, if_neg (fun e => h9 e.symm)]
      rw [List.all_append, Bool.and_comm, ← List.all_append]
      exact h8
    · rw [if_neg (by exact k6)] at ha ⊢
      unfold Pv.edCheck at ha ⊢
      dsimp only at ha ⊢
      by_cases k7 : q.kind = 7
      · rw [if_pos k7] at ha ⊢
        split at ha
        · cases ha
        rename_i c1
        rw [if_neg c1]
        split at ha
        · cases ha
        rename_i c2
        rw [if_neg (by omega)]
        split at ha
        · cases ha
        rename_i c3
        rw [if_neg (fun w => c3 (Qm.eqB_iff.2 (Qm.eqB_iff.1 w).symm))]
      · rw [if_neg k7] at ha ⊢
        split at ha
        · cases ha
        rename_i c1
        rw [if_neg (by omega)]
        split at ha
        · cases ha
        rename_i c2
        rw [if_neg (fun w => c2 w.symm)]
/-- Merging patches that touch nothing in common. -/
theorem merge_apart {a b : Qp} (h : Apart a b) (ha : a.check = 0) (hb : b.check = 0) : a.inv.commute b = (b, a.inv, true) := commute_apart h.inv (inv_check ha) hb
end Go.Proofs.YtgfiddlmeopebaaGreatDoor
