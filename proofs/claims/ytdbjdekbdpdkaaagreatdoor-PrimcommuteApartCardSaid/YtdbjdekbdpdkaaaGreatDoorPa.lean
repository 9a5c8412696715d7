/- Paths under moves, in plain Lean: two moves that have been exchanged act on every path as before. No program. -/
import Derived.Test.YtdbjdekbdpdkaaaGreatDoorModel
set_option linter.unusedSimpArgs false
set_option linter.unusedVariables false
namespace Go.Proofs.YtdbjdekbdpdkaaaGreatDoor
namespace Pa

/-- What may follow a path: nothing, or a slash and more. -/
def Tl (e : List UInt8) : Prop := e = [] ∨ ∃ t, e = 47 :: t
theorem Tl.nil : Tl [] := .inl rfl
theorem Tl.app {e f : List UInt8} (h : Tl e) (k : Tl f) : Tl (e ++ f) := by
  rcases h with rfl | ⟨t, rfl⟩
  · exact k
  · exact .inr ⟨t ++ f, rfl⟩
/-- s is p, or below p. -/
def wi (s p : List UInt8) : Prop := ∃ e, Tl e ∧ s = p ++ e
/-- s is below p. -/
def sw (s p : List UInt8) : Prop := ∃ e, e ≠ [] ∧ Tl e ∧ s = p ++ e
theorem wi.refl (s : List UInt8) : wi s s := ⟨[], .nil, by simp⟩
theorem wi.mk {p e : List UInt8} (h : Tl e) : wi (p ++ e) p := ⟨e, h, rfl⟩
theorem wi.trans {r s p : List UInt8} (h : wi r s) (k : wi s p) : wi r p := by
  obtain ⟨e, he, rfl⟩ := h
  obtain ⟨f, hf, rfl⟩ := k
  exact ⟨f ++ e, hf.app he, by simp⟩
theorem wi.eq_or {s p : List UInt8} (h : wi s p) : s = p ∨ sw s p := by
  obtain ⟨e, he, rfl⟩ := h
  by_cases h0 : e = []
  · left; simp [h0]
  · exact .inr ⟨e, h0, he, rfl⟩
theorem sw.wi {s p : List UInt8} (h : sw s p) : wi s p := ⟨h.choose, h.choose_spec.2.1, h.choose_spec.2.2⟩
theorem Tl.split {e f g : List UInt8} (h : Tl (e ++ f)) (h0 : e ≠ []) : Tl e := by
  cases e with
  | nil => exact (h0 rfl).elim
  | cons x e =>
    rcases h with h | ⟨t, h⟩
    · cases h
    · simp only [List.cons_append, List.cons.injEq] at h
      exact .inr ⟨e, by rw [h.1]⟩
theorem wi.chain {r a b : List UInt8} (h : wi r a) (k : wi r b) : wi a b ∨ wi b a := by
  obtain ⟨e, he, rfl⟩ := h
  obtain ⟨f, hf, hk⟩ := k
  rcases List.append_eq_append_iff.1 hk with ⟨c, h1, h2⟩ | ⟨c, h1, h2⟩
  · right
    by_cases h0 : c = []
    · subst h0; rw [h1]; simpa using wi.refl a
    · refine ⟨c, ?_, h1⟩
      rw [h2] at he
      exact Tl.split (g := []) he h0
  · left
    by_cases h0 : c = []
    · subst h0; rw [h1]; simpa using wi.refl b
    · refine ⟨c, ?_, h1⟩
      rw [h2] at hf
      exact Tl.split (g := []) hf h0

/-- An existing path under the move from s to t. -/
def Mv (s t u v : List UInt8) : Prop := (∃ e, Tl e ∧ u = s ++ e ∧ v = t ++ e) ∨ (¬ wi u s ∧ ¬ wi u t ∧ v = u)
/-- A new path under it. -/
def Nv (s t u v : List UInt8) : Prop := (∃ e, e ≠ [] ∧ Tl e ∧ u = s ++ e ∧ v = t ++ e) ∨ (¬ sw u s ∧ ¬ sw u t ∧ v = u)
theorem Mv.symm {s t u v : List UInt8} (h : Mv s t u v) : Mv t s v u := by
  rcases h with ⟨e, he, rfl, rfl⟩ | ⟨h1, h2, rfl⟩
  · exact .inl ⟨e, he, rfl, rfl⟩
  · exact .inr ⟨h2, h1, rfl⟩
theorem Nv.symm {s t u v : List UInt8} (h : Nv s t u v) : Nv t s v u := by
  rcases h with ⟨e, h0, he, rfl, rfl⟩ | ⟨h1, h2, rfl⟩
  · exact .inl ⟨e, h0, he, rfl, rfl⟩
  · exact .inr ⟨h2, h1, rfl⟩
theorem Mv.uniq {s t u v v' : List UInt8} (h : Mv s t u v) (k : Mv s t u v') : v = v' := by
  rcases h with ⟨e, he, rfl, rfl⟩ | ⟨h1, h2, rfl⟩ <;> rcases k with ⟨f, hf, h, rfl⟩ | ⟨k1, k2, rfl⟩
  · rw [List.append_cancel_left h]
  · exact (k1 (wi.mk he)).elim
  · exact (h1 ⟨f, hf, h⟩).elim
  · rfl
theorem Nv.uniq {s t u v v' : List UInt8} (h : Nv s t u v) (k : Nv s t u v') : v = v' := by
  rcases h with ⟨e, h0, he, rfl, rfl⟩ | ⟨h1, h2, rfl⟩ <;> rcases k with ⟨f, f0, hf, h, rfl⟩ | ⟨k1, k2, rfl⟩
  · rw [List.append_cancel_left h]
  · exact (k1 ⟨e, h0, he, rfl⟩).elim
  · exact (h1 ⟨f, f0, hf, h⟩).elim
  · rfl

/-- The moves p: s1 to t1, then q: s2 to t2; exchanged: q', then p'. -/
structure Square (s1 t1 s2 t2 s2' t2' s1' t1' : List UInt8) : Prop where
  v1 : ¬ wi t1 s1
  v2 : ¬ wi s2 t2
  v3 : ¬ wi t2 s2
  v4 : ¬ wi t2' s2'
  x1 : t1 ≠ s2
  x2 : t2' ≠ s1
  x3 : t1 ≠ t2
  e1 : Mv t1 s1 s2 s2'
  e2 : Nv t1 s1 t2 t2'
  e3 : Mv s2' t2' s1 s1'
  e4 : Nv s2' t2' t1 t1'

section
variable {s1 t1 s2 t2 s2' t2' s1' t1' u r z : List UInt8}
theorem app_ne {s f : List UInt8} (h : f ≠ []) : ¬ wi s (s ++ f) := by
  rintro ⟨e, _, h1⟩
  have := congrArg List.length h1
  simp only [List.length_append] at this
  have : f.length = 0 := by omega
  exact h (List.length_eq_zero_iff.1 this)

theorem square (H : Square s1 t1 s2 t2 s2' t2' s1' t1') (h1 : Mv s1 t1 u r) (h2 : Mv s2 t2 r z) : ∃ r', Mv s2' t2' u r' ∧ Mv s1' t1' r' z := by
  obtain ⟨v1, v2, v3, v4, x1, x2, x3, e1, e2, e3, e4⟩ := H
  -- t2 is not s1, not below it, where it has not been moved
  have n2 : t2' = t2 → ¬ sw t2 s1 → ¬ wi t2 s1 := fun h k w => by
    rcases w.eq_or with w | w
    · exact x2 (h.trans w)
    · exact k w
  have n1 : ¬ sw t2 t1 → ¬ wi t2 t1 := fun k w => by
    rcases w.eq_or with w | w
    · exact x3 w.symm
    · exact k w
  rcases e1 with ⟨f, hf, rfl, rfl⟩ | ⟨b1, b2, rfl⟩
  · -- q's source lies within what p has moved
    have f0 : f ≠ [] := fun h => x1 (by simp [h])
    have d3 : s1' = s1 ∧ ¬ wi s1 t2' := by
      rcases e3 with ⟨f', hf', h, _⟩ | ⟨_, k2, k3⟩
      · exact (app_ne (s := s1) (f := f) f0 ⟨f', hf', h⟩).elim
      · exact ⟨k3, k2⟩
    have d4 : t1' = t1 := by
      rcases e4 with ⟨h', _, ht, h, _⟩ | ⟨_, _, k3⟩
      · exact (v1 ⟨f ++ h', hf.app ht, by rw [h]; simp⟩).elim
      · exact k3
    obtain ⟨rfl, d3⟩ := d3
    subst d4
    rcases h1 with ⟨e, he, rfl, rfl⟩ | ⟨g1, g2, rfl⟩
    · by_cases hw : wi (t1' ++ e) (t1' ++ f)
      · obtain ⟨g, hg, hx⟩ := hw
        obtain rfl : e = f ++ g := by simpa [List.append_assoc] using hx
        have hz : z = t2 ++ g := by
          rcases h2 with ⟨g', _, h, rfl⟩ | ⟨k, _, _⟩
          · have : g = g' := by simpa [List.append_assoc] using h
            rw [this]
          · exact (k ⟨g, hg, by simp⟩).elim
        subst hz
        refine ⟨t2' ++ g, .inl ⟨g, hg, by simp, rfl⟩, ?_⟩
        rcases e2 with ⟨h, h0, hh, rfl, rfl⟩ | ⟨k1, k2, rfl⟩
        · exact .inl ⟨h ++ g, hh.app hg, by simp, by simp⟩
        · refine .inr ⟨fun w => ?_, fun w => ?_, rfl⟩
          · rcases w.chain (wi.mk hg) with w | w
            · exact d3 w
            · exact n2 rfl k2 w
          · rcases w.chain (wi.mk hg) with w | w
            · exact v2 ((wi.mk hf).trans w)
            · exact n1 k1 w
      · have hz : z = t1' ++ e ∧ ¬ wi (t1' ++ e) t2 := by
          rcases h2 with ⟨g', hg, h, rfl⟩ | ⟨_, k, h⟩
          · exact (hw ⟨g', hg, h⟩).elim
          · exact ⟨h, k⟩
        obtain ⟨rfl, hz⟩ := hz
        refine ⟨s1' ++ e, .inr ⟨fun w => ?_, fun w => ?_, rfl⟩, .inl ⟨e, he, rfl, rfl⟩⟩
        · obtain ⟨g, hg, hx⟩ := w
          exact hw ⟨g, hg, by simpa [List.append_assoc] using hx⟩
        · rcases e2 with ⟨h, h0, hh, rfl, rfl⟩ | ⟨k1, k2, rfl⟩
          · obtain ⟨g, hg, hx⟩ := w
            exact hz ⟨g, hg, by simpa [List.append_assoc] using hx⟩
          · rcases w.chain (wi.mk he) with w | w
            · exact n2 rfl k2 w
            · exact d3 w
    · have hz : z = r ∧ ¬ wi r t2 := by
        rcases h2 with ⟨g', hg, h, rfl⟩ | ⟨_, k, h⟩
        · exact (g2 ⟨f ++ g', hf.app hg, by rw [h]; simp⟩).elim
        · exact ⟨h, k⟩
      obtain ⟨rfl, hz⟩ := hz
      refine ⟨z, .inr ⟨fun w => g1 (w.trans (wi.mk hf)), fun w => ?_, rfl⟩, .inr ⟨g1, g2, rfl⟩⟩
      rcases e2 with ⟨h, h0, hh, rfl, rfl⟩ | ⟨k1, k2, rfl⟩
      · exact g1 (w.trans (wi.mk hh))
      · exact hz w
  · -- q's source is where it was
    rcases e2 with ⟨h, h0, hh, rfl, rfl⟩ | ⟨k1, k2, rfl⟩
    · -- q's target lies within what p has moved
      have d3 : s1' = s1 ∧ ¬ wi s1 s2' := by
        rcases e3 with ⟨f', hf', hs, _⟩ | ⟨k1, k2, k3⟩
        · exact (v4 ⟨f' ++ h, hf'.app hh, by rw [hs]; simp⟩).elim
        · exact ⟨k3, k1⟩
      have d4 : t1' = t1 := by
        rcases e4 with ⟨h', _, ht, hs, _⟩ | ⟨_, _, k3⟩
        · exact (v3 ⟨h' ++ h, ht.app hh, by rw [hs]; simp⟩).elim
        · exact k3
      obtain ⟨rfl, d3⟩ := d3
      subst d4
      rcases h1 with ⟨e, he, rfl, rfl⟩ | ⟨g1, g2, rfl⟩
      · have hq : ¬ wi (s1' ++ e) s2' := fun w => by
          rcases w.chain (wi.mk he) with w | w
          · exact b2 w
          · exact d3 w
        have hz : z = t1' ++ e ∧ ¬ wi (t1' ++ e) (t1' ++ h) := by
          rcases h2 with ⟨g', hg, hs, rfl⟩ | ⟨_, k, hs⟩
          · rcases (wi.mk (p := t1') he).chain ⟨g', hg, hs⟩ with w | w
            · exact (v3 ((wi.mk hh).trans w)).elim
            · exact (b1 w).elim
          · exact ⟨hs, k⟩
        obtain ⟨rfl, hz⟩ := hz
        refine ⟨s1' ++ e, .inr ⟨hq, fun w => ?_, rfl⟩, .inl ⟨e, he, rfl, rfl⟩⟩
        obtain ⟨g, hg, hx⟩ := w
        exact hz ⟨g, hg, by simpa [List.append_assoc] using hx⟩
      · rcases h2 with ⟨g, hg, rfl, rfl⟩ | ⟨k1, k2, rfl⟩
        · exact ⟨(s1' ++ h) ++ g, .inl ⟨g, hg, rfl, rfl⟩, .inl ⟨h ++ g, hh.app hg, by simp, by simp⟩⟩
        · exact ⟨z, .inr ⟨k1, fun w => g1 (w.trans (wi.mk hh)), rfl⟩, .inr ⟨g1, g2, rfl⟩⟩
    · -- q is as it was
      have m2 : ¬ wi t2' s1 := n2 rfl k2
      have m1 : ¬ wi t2' t1 := n1 k1
      have y1 : ¬ sw t1 s2' → ¬ wi t1 s2' := fun k w => by
        rcases w.eq_or with w | w
        · exact x1 w
        · exact k w
      rcases h1 with ⟨e, he, rfl, rfl⟩ | ⟨g1, g2, rfl⟩
      · have hz : z = t1' ++ e := by
          rcases e4 with ⟨h', _, ht, rfl, rfl⟩ | ⟨k3, _, rfl⟩
          · exact Mv.uniq h2 (.inl ⟨h' ++ e, ht.app he, by simp, by simp⟩)
          · have hn : ¬ wi (t1' ++ e) s2' := fun w => by
              rcases w.chain (wi.mk he) with w | w
              · exact b1 w
              · exact y1 k3 w
            rcases h2 with ⟨g, hg, h, _⟩ | ⟨_, _, h⟩
            · exact (hn ⟨g, hg, h⟩).elim
            · exact h
        subst hz
        rcases e3 with ⟨f', hf', rfl, rfl⟩ | ⟨k3, k4, rfl⟩
        · exact ⟨t2' ++ f' ++ e, .inl ⟨f' ++ e, hf'.app he, by simp, by simp⟩, .inl ⟨e, he, rfl, rfl⟩⟩
        · refine ⟨s1' ++ e, .inr ⟨fun w => ?_, fun w => ?_, rfl⟩, .inl ⟨e, he, rfl, rfl⟩⟩
          · rcases w.chain (wi.mk he) with w | w
            · exact b2 w
            · exact k3 w
          · rcases w.chain (wi.mk he) with w | w
            · exact m2 w
            · exact k4 w
      · rcases h2 with ⟨g, hg, rfl, rfl⟩ | ⟨c1, c2, rfl⟩
        · refine ⟨t2' ++ g, .inl ⟨g, hg, rfl, rfl⟩, .inr ⟨fun w => ?_, fun w => ?_, rfl⟩⟩
          · rcases e3 with ⟨f', hf', rfl, rfl⟩ | ⟨k3, k4, rfl⟩
            · obtain ⟨k, hk, hx⟩ := w
              exact g1 ⟨k, hk, by have : g = f' ++ k := by simpa [List.append_assoc] using hx
                                  rw [this]; simp⟩
            · rcases w.chain (wi.mk hg) with w | w
              · exact k4 w
              · exact m2 w
          · rcases e4 with ⟨h', _, ht, rfl, rfl⟩ | ⟨k3, k4, rfl⟩
            · obtain ⟨k, hk, hx⟩ := w
              exact g2 ⟨k, hk, by have : g = h' ++ k := by simpa [List.append_assoc] using hx
                                  rw [this]; simp⟩
            · rcases w.chain (wi.mk hg) with w | w
              · rcases w.eq_or with w | w
                · exact x3 w
                · exact k4 w
              · exact m1 w
        · refine ⟨z, .inr ⟨c1, c2, rfl⟩, .inr ⟨fun w => ?_, fun w => ?_, rfl⟩⟩
          · rcases e3 with ⟨f', hf', rfl, rfl⟩ | ⟨k3, k4, rfl⟩
            · exact c2 (w.trans (wi.mk hf'))
            · exact g1 w
          · rcases e4 with ⟨h', _, ht, rfl, rfl⟩ | ⟨k3, k4, rfl⟩
            · exact c2 (w.trans (wi.mk ht))
            · exact g2 w
end
end Pa
end Go.Proofs.YtdbjdekbdpdkaaaGreatDoor
