/- Paths under moves, in plain Lean: two moves that have been exchanged act on every path as before. New paths under moves; the functions of the model as moves of paths. No program. -/
import Derived.Test.YtdbokolbheileaaGreatDoorModel
set_option linter.unusedSimpArgs false
set_option linter.unusedVariables false
namespace Go.Proofs.YtdbokolbheileaaGreatDoor
namespace Pa

/-- What may follow a path: nothing, or a slash and more. -/
def Tl (e : List UInt8) : Prop := e = [] ∨ ∃ t, e = 47 :: t
theorem Tl.nil : Tl [] := .inl rfl
theorem Tl.app {e f : List UInt8} (h : Tl e) (k : Tl f) : Tl (e ++ f) := by
  rcases h with rfl | ⟨t, rfl⟩
  · exact k
  · exact .inr ⟨t ++ f, rfl⟩
/-- s is p, or below p. -/
def wi (s p : List UInt8) : Prop := ∃ e, Tl e ∧ s = p ++ e
/-- s is below p. -/
def sw (s p : List UInt8) : Prop := ∃ e, e ≠ [] ∧ Tl e ∧ s = p ++ e
theorem wi.refl (s : List UInt8) : wi s s := ⟨[], .nil, by simp⟩
theorem wi.mk {p e : List UInt8} (h : Tl e) : wi (p ++ e) p := ⟨e, h, rfl⟩
theorem wi.trans {r s p : List UInt8} (h : wi r s) (k : wi s p) : wi r p := by
  obtain ⟨e, he, rfl⟩ := h
  obtain ⟨f, hf, rfl⟩ := k
  exact ⟨f ++ e, hf.app he, by simp⟩
theorem wi.eq_or {s p : List UInt8} (h : wi s p) : s = p ∨ sw s p := by
  obtain ⟨e, he, rfl⟩ := h
  by_cases h0 : e = []
  · left; simp [h0]
  · exact .inr ⟨e, h0, he, rfl⟩
theorem sw.wi {s p : List UInt8} (h : sw s p) : wi s p := ⟨h.choose, h.choose_spec.2.1, h.choose_spec.2.2⟩
theorem Tl.split {e f g : List UInt8} (h : Tl (e ++ f)) (h0 : e ≠ []) : Tl e := by
  cases e with
  | nil => exact (h0 rfl).elim
  | cons x e =>
    rcases h with h | ⟨t, h⟩
    · cases h
    · simp only [List.cons_append, List.cons.injEq] at h
      exact .inr ⟨e, by rw [h.1]⟩
theorem wi.chain {r a b : List UInt8} (h : wi r a) (k : wi r b) : wi a b ∨ wi b a := by
  obtain ⟨e, he, rfl⟩ := h
  obtain ⟨f, hf, hk⟩ := k
  rcases List.append_eq_append_iff.1 hk with ⟨c, h1, h2⟩ | ⟨c, h1, h2⟩
  · right
    by_cases h0 : c = []
    · subst h0; rw [h1]; simpa using wi.refl a
    · refine ⟨c, ?_, h1⟩
      rw [h2] at he
      exact Tl.split (g := []) he h0
  · left
    by_cases h0 : c = []
    · subst h0; rw [h1]; simpa using wi.refl b
    · refine ⟨c, ?_, h1⟩
      rw [h2] at hf
      exact Tl.split (g := []) hf h0

/-- An existing path under the move from s to t. -/
def Mv (s t u v : List UInt8) : Prop := (∃ e, Tl e ∧ u = s ++ e ∧ v = t ++ e) ∨ (¬ wi u s ∧ ¬ wi u t ∧ v = u)
/-- A new path under it. -/
def Nv (s t u v : List UInt8) : Prop := (∃ e, e ≠ [] ∧ Tl e ∧ u = s ++ e ∧ v = t ++ e) ∨ (¬ sw u s ∧ ¬ sw u t ∧ v = u)
theorem Mv.symm {s t u v : List UInt8} (h : Mv s t u v) : Mv t s v u := by
  rcases h with ⟨e, he, rfl, rfl⟩ | ⟨h1, h2, rfl⟩
  · exact .inl ⟨e, he, rfl, rfl⟩
  · exact .inr ⟨h2, h1, rfl⟩
theorem Nv.symm {s t u v : List UInt8} (h : Nv s t u v) : Nv t s v u := by
  rcases h with ⟨e, h0, he, rfl, rfl⟩ | ⟨h1, h2, rfl⟩
  · exact .inl ⟨e, h0, he, rfl, rfl⟩
  · exact .inr ⟨h2, h1, rfl⟩
theorem Mv.uniq {s t u v v' : List UInt8} (h : Mv s t u v) (k : Mv s t u v') : v = v' := by
  rcases h with ⟨e, he, rfl, rfl⟩ | ⟨h1, h2, rfl⟩ <;> rcases k with ⟨f, hf, h, rfl⟩ | ⟨k1, k2, rfl⟩
  · rw [List.append_cancel_left h]
  · exact (k1 (wi.mk he)).elim
  · exact (h1 ⟨f, hf, h⟩).elim
  · rfl
theorem Nv.uniq {s t u v v' : List UInt8} (h : Nv s t u v) (k : Nv s t u v') : v = v' := by
  rcases h with ⟨e, h0, he, rfl, rfl⟩ | ⟨h1, h2, rfl⟩ <;> rcases k with ⟨f, f0, hf, h, rfl⟩ | ⟨k1, k2, rfl⟩
  · rw [List.append_cancel_left h]
  · exact (k1 ⟨e, h0, he, rfl⟩).elim
  · exact (h1 ⟨f, f0, hf, h⟩).elim
  · rfl

/-- The moves p: s1 to t1, then q: s2 to t2; exchanged: q', then p'. -/
structure Square (s1 t1 s2 t2 s2' t2' s1' t1' : List UInt8) : Prop where
  v1 : ¬ wi t1 s1
  v2 : ¬ wi s2 t2
  v3 : ¬ wi t2 s2
  v4 : ¬ wi t2' s2'
  x1 : t1 ≠ s2
  x2 : t2' ≠ s1
  x3 : t1 ≠ t2
  e1 : Mv t1 s1 s2 s2'
  e2 : Nv t1 s1 t2 t2'
  e3 : Mv s2' t2' s1 s1'
  e4 : Nv s2' t2' t1 t1'

section
variable {s1 t1 s2 t2 s2' t2' s1' t1' u r z : List UInt8}
theorem app_ne {s f : List UInt8} (h : f ≠ []) : ¬ wi s (s ++ f) := by
  rintro ⟨e, _, h1⟩
  have := congrArg List.length h1
  simp only [List.length_append] at this
  have : f.length = 0 := by omega
  exact h (List.length_eq_zero_iff.1 this)

theorem square (H : Square s1 t1 s2 t2 s2' t2' s1' t1') (h1 : Mv s1 t1 u r) (h2 : Mv s2 t2 r z) : ∃ r', Mv s2' t2' u r' ∧ Mv s1' t1' r' z := by
  obtain ⟨v1, v2, v3, v4, x1, x2, x3, e1, e2, e3, e4⟩ := H
  -- t2 is not s1, not below it, where it has not been moved
  have n2 : t2' = t2 → ¬ sw t2 s1 → ¬ wi t2 s1 := fun h k w => by
    rcases w.eq_or with w | w
    · exact x2 (h.trans w)
    · exact k w
  have n1 : ¬ sw t2 t1 → ¬ wi t2 t1 := fun k w => by
    rcases w.eq_or with w | w
    · exact x3 w.symm
    · exact k w
  rcases e1 with ⟨f, hf, rfl, rfl⟩ | ⟨b1, b2, rfl⟩
  · -- q's source lies within what p has moved
    have f0 : f ≠ [] := fun h => x1 (by simp [h])
    have d3 : s1' = s1 ∧ ¬ wi s1 t2' := by
      rcases e3 with ⟨f', hf', h, _⟩ | ⟨_, k2, k3⟩
      · exact (app_ne (s := s1) (f := f) f0 ⟨f', hf', h⟩).elim
      · exact ⟨k3, k2⟩
    have d4 : t1' = t1 := by
      rcases e4 with ⟨h', _, ht, h, _⟩ | ⟨_, _, k3⟩
      · exact (v1 ⟨f ++ h', hf.app ht, by rw [h]; simp⟩).elim
      · exact k3
    obtain ⟨rfl, d3⟩ := d3
    subst d4
    rcases h1 with ⟨e, he, rfl, rfl⟩ | ⟨g1, g2, rfl⟩
    · by_cases hw : wi (t1' ++ e) (t1' ++ f)
      · obtain ⟨g, hg, hx⟩ := hw
        obtain rfl : e = f ++ g := by simpa [List.append_assoc] using hx
        have hz : z = t2 ++ g := by
          rcases h2 with ⟨g', _, h, rfl⟩ | ⟨k, _, _⟩
          · have : g = g' := by simpa [List.append_assoc] using h
            rw [this]
          · exact (k ⟨g, hg, by simp⟩).elim
        subst hz
        refine ⟨t2' ++ g, .inl ⟨g, hg, by simp, rfl⟩, ?_⟩
        rcases e2 with ⟨h, h0, hh, rfl, rfl⟩ | ⟨k1, k2, rfl⟩
        · exact .inl ⟨h ++ g, hh.app hg, by simp, by simp⟩
        · refine .inr ⟨fun w => ?_, fun w => ?_, rfl⟩
          · rcases w.chain (wi.mk hg) with w | w
            · exact d3 w
            · exact n2 rfl k2 w
          · rcases w.chain (wi.mk hg) with w | w
            · exact v2 ((wi.mk hf).trans w)
            · exact n1 k1 w
      · have hz : z = t1' ++ e ∧ ¬ wi (t1' ++ e) t2 := by
          rcases h2 with ⟨g', hg, h, rfl⟩ | ⟨_, k, h⟩
          · exact (hw ⟨g', hg, h⟩).elim
          · exact ⟨h, k⟩
        obtain ⟨rfl, hz⟩ := hz
        refine ⟨s1' ++ e, .inr ⟨fun w => ?_, fun w => ?_, rfl⟩, .inl ⟨e, he, rfl, rfl⟩⟩
        · obtain ⟨g, hg, hx⟩ := w
          exact hw ⟨g, hg, by simpa [List.append_assoc] using hx⟩
        · rcases e2 with ⟨h, h0, hh, rfl, rfl⟩ | ⟨k1, k2, rfl⟩
          · obtain ⟨g, hg, hx⟩ := w
            exact hz ⟨g, hg, by simpa [List.append_assoc] using hx⟩
          · rcases w.chain (wi.mk he) with w | w
            · exact n2 rfl k2 w
            · exact d3 w
    · have hz : z = r ∧ ¬ wi r t2 := by
        rcases h2 with ⟨g', hg, h, rfl⟩ | ⟨_, k, h⟩
        · exact (g2 ⟨f ++ g', hf.app hg, by rw [h]; simp⟩).elim
        · exact ⟨h, k⟩
      obtain ⟨rfl, hz⟩ := hz
      refine ⟨z, .inr ⟨fun w => g1 (w.trans (wi.mk hf)), fun w => ?_, rfl⟩, .inr ⟨g1, g2, rfl⟩⟩
      rcases e2 with ⟨h, h0, hh, rfl, rfl⟩ | ⟨k1, k2, rfl⟩
      · exact g1 (w.trans (wi.mk hh))
      · exact hz w
  · -- q's source is where it was
    rcases e2 with ⟨h, h0, hh, rfl, rfl⟩ | ⟨k1, k2, rfl⟩
    · -- q's target lies within what p has moved
      have d3 : s1' = s1 ∧ ¬ wi s1 s2' := by
        rcases e3 with ⟨f', hf', hs, _⟩ | ⟨k1, k2, k3⟩
        · exact (v4 ⟨f' ++ h, hf'.app hh, by rw [hs]; simp⟩).elim
        · exact ⟨k3, k1⟩
      have d4 : t1' = t1 := by
        rcases e4 with ⟨h', _, ht, hs, _⟩ | ⟨_, _, k3⟩
        · exact (v3 ⟨h' ++ h, ht.app hh, by rw [hs]; simp⟩).elim
        · exact k3
      obtain ⟨rfl, d3⟩ := d3
      subst d4
      rcases h1 with ⟨e, he, rfl, rfl⟩ | ⟨g1, g2, rfl⟩
      · have hq : ¬ wi (s1' ++ e) s2' := fun w => by
          rcases w.chain (wi.mk he) with w | w
          · exact b2 w
          · exact d3 w
        have hz : z = t1' ++ e ∧ ¬ wi (t1' ++ e) (t1' ++ h) := by
          rcases h2 with ⟨g', hg, hs, rfl⟩ | ⟨_, k, hs⟩
          · rcases (wi.mk (p := t1') he).chain ⟨g', hg, hs⟩ with w | w
            · exact (v3 ((wi.mk hh).trans w)).elim
            · exact (b1 w).elim
          · exact ⟨hs, k⟩
        obtain ⟨rfl, hz⟩ := hz
        refine ⟨s1' ++ e, .inr ⟨hq, fun w => ?_, rfl⟩, .inl ⟨e, he, rfl, rfl⟩⟩
        obtain ⟨g, hg, hx⟩ := w
        exact hz ⟨g, hg, by simpa [List.append_assoc] using hx⟩
      · rcases h2 with ⟨g, hg, rfl, rfl⟩ | ⟨k1, k2, rfl⟩
        · exact ⟨(s1' ++ h) ++ g, .inl ⟨g, hg, rfl, rfl⟩, .inl ⟨h ++ g, hh.app hg, by simp, by simp⟩⟩
        · exact ⟨z, .inr ⟨k1, fun w => g1 (w.trans (wi.mk hh)), rfl⟩, .inr ⟨g1, g2, rfl⟩⟩
    · -- q is as it was
      have m2 : ¬ wi t2' s1 := n2 rfl k2
      have m1 : ¬ wi t2' t1 := n1 k1
      have y1 : ¬ sw t1 s2' → ¬ wi t1 s2' := fun k w => by
        rcases w.eq_or with w | w
        · exact x1 w
        · exact k w
      rcases h1 with ⟨e, he, rfl, rfl⟩ | ⟨g1, g2, rfl⟩
      · have hz : z = t1' ++ e := by
          rcases e4 with ⟨h', _, ht, rfl, rfl⟩ | ⟨k3, _, rfl⟩
          · exact Mv.uniq h2 (.inl ⟨h' ++ e, ht.app he, by simp, by simp⟩)
          · have hn : ¬ wi (t1' ++ e) s2' := fun w => by
              rcases w.chain (wi.mk he) with w | w
              · exact b1 w
              · exact y1 k3 w
            rcases h2 with ⟨g, hg, h, _⟩ | ⟨_, _, h⟩
            · exact (hn ⟨g, hg, h⟩).elim
            · exact h
        subst hz
        rcases e3 with ⟨f', hf', rfl, rfl⟩ | ⟨k3, k4, rfl⟩
        · exact ⟨t2' ++ f' ++ e, .inl ⟨f' ++ e, hf'.app he, by simp, by simp⟩, .inl ⟨e, he, rfl, rfl⟩⟩
        · refine ⟨s1' ++ e, .inr ⟨fun w => ?_, fun w => ?_, rfl⟩, .inl ⟨e, he, rfl, rfl⟩⟩
          · rcases w.chain (wi.mk he) with w | w
            · exact b2 w
            · exact k3 w
          · rcases w.chain (wi.mk he) with w | w
            · exact m2 w
            · exact k4 w
      · rcases h2 with ⟨g, hg, rfl, rfl⟩ | ⟨c1, c2, rfl⟩
        · refine ⟨t2' ++ g, .inl ⟨g, hg, rfl, rfl⟩, .inr ⟨fun w => ?_, fun w => ?_, rfl⟩⟩
          · rcases e3 with ⟨f', hf', rfl, rfl⟩ | ⟨k3, k4, rfl⟩
            · obtain ⟨k, hk, hx⟩ := w
              exact g1 ⟨k, hk, by have : g = f' ++ k := by simpa [List.append_assoc] using hx
                                  rw [this]; simp⟩
            · rcases w.chain (wi.mk hg) with w | w
              · exact k4 w
              · exact m2 w
          · rcases e4 with ⟨h', _, ht, rfl, rfl⟩ | ⟨k3, k4, rfl⟩
            · obtain ⟨k, hk, hx⟩ := w
              exact g2 ⟨k, hk, by have : g = h' ++ k := by simpa [List.append_assoc] using hx
                                  rw [this]; simp⟩
            · rcases w.chain (wi.mk hg) with w | w
              · rcases w.eq_or with w | w
                · exact x3 w
                · exact k4 w
              · exact m1 w
        · refine ⟨z, .inr ⟨c1, c2, rfl⟩, .inr ⟨fun w => ?_, fun w => ?_, rfl⟩⟩
          · rcases e3 with ⟨f', hf', rfl, rfl⟩ | ⟨k3, k4, rfl⟩
            · exact c2 (w.trans (wi.mk hf'))
            · exact g1 w
          · rcases e4 with ⟨h', _, ht, rfl, rfl⟩ | ⟨k3, k4, rfl⟩
            · exact c2 (w.trans (wi.mk ht))
            · exact g2 w
end
end Pa
end Go.Proofs.YtdbokolbheileaaGreatDoor
namespace Go.Proofs.YtdbokolbheileaaGreatDoor
namespace Pa

theorem parted : ∀ u : List UInt8, (47 ∉ u) ∨ ∃ par name, u = par ++ 47 :: name ∧ 47 ∉ name
  | [] => .inl (by simp)
  | x :: u => by
    rcases parted u with h | ⟨par, name, rfl, h⟩
    · by_cases hx : x = 47
      · subst hx
        exact .inr ⟨[], u, rfl, h⟩
      · exact .inl (by simp only [List.mem_cons, not_or]; exact ⟨fun e => hx e.symm, h⟩)
    · exact .inr ⟨x :: par, name, rfl, h⟩
theorem sw_slash {u s : List UInt8} (h : sw u s) : 47 ∈ u := by
  obtain ⟨e, h0, he, rfl⟩ := h
  rcases he with rfl | ⟨t, rfl⟩
  · exact (h0 rfl).elim
  · simp
theorem sw_par {par name s : List UInt8} (hn : 47 ∉ name) (h : sw (par ++ 47 :: name) s) : ∃ c, Tl c ∧ par = s ++ c ∧ ∀ e, par ++ 47 :: name = s ++ e → e = c ++ 47 :: name := by
  obtain ⟨e, h0, he, hx⟩ := h
  rcases List.append_eq_append_iff.1 hx with ⟨c, h1, h2⟩ | ⟨c, h1, h2⟩
  · cases c with
    | nil =>
      have h1 : s = par := by simpa using h1
      subst h1
      exact ⟨[], .nil, by simp, fun e' h' => by simpa using (List.append_cancel_left h').symm⟩
    | cons x c =>
      simp only [List.cons_append, List.cons.injEq] at h2
      rcases he with rfl | ⟨t, rfl⟩
      · exact (h0 rfl).elim
      · exact (hn (by rw [h2.2]; simp)).elim
  · refine ⟨c, ?_, h1, fun e' h' => ?_⟩
    · by_cases hc : c = []
      · subst hc; exact .nil
      · rw [h2] at he
        exact Tl.split (g := []) he hc
    · rw [h1, List.append_assoc] at h'
      exact (List.append_cancel_left h').symm
theorem nv_none {s t u v : List UInt8} (h : 47 ∉ u) : Nv s t u v ↔ v = u := by
  constructor
  · rintro (⟨e, h0, he, rfl, rfl⟩ | ⟨_, _, h⟩)
    · exact (h (sw_slash ⟨e, h0, he, rfl⟩)).elim
    · exact h
  · rintro rfl
    exact .inr ⟨fun w => h (sw_slash w), fun w => h (sw_slash w), rfl⟩
theorem nv_par {s t par name v : List UInt8} (hn : 47 ∉ name) : Nv s t (par ++ 47 :: name) v ↔ ∃ par', Mv s t par par' ∧ v = par' ++ 47 :: name := by
  have hT : Tl (47 :: name) := .inr ⟨name, rfl⟩
  constructor
  · rintro (⟨e, h0, he, hu, rfl⟩ | ⟨h1, h2, rfl⟩)
    · obtain ⟨c, hc, hp, hh⟩ := sw_par hn ⟨e, h0, he, hu⟩
      rw [hh e hu]
      exact ⟨t ++ c, .inl ⟨c, hc, hp, rfl⟩, by simp⟩
    · refine ⟨par, .inr ⟨?_, ?_, rfl⟩, rfl⟩
      · rintro ⟨c, hc, rfl⟩
        exact h1 ⟨c ++ 47 :: name, by simp, hc.app hT, by simp⟩
      · rintro ⟨c, hc, rfl⟩
        exact h2 ⟨c ++ 47 :: name, by simp, hc.app hT, by simp⟩
  · rintro ⟨par', (⟨c, hc, rfl, rfl⟩ | ⟨h1, h2, rfl⟩), rfl⟩
    · exact .inl ⟨c ++ 47 :: name, by simp, hc.app hT, by simp, by simp⟩
    · refine .inr ⟨fun w => ?_, fun w => ?_, rfl⟩
      · obtain ⟨c, hc, hp, _⟩ := sw_par hn w
        exact h1 ⟨c, hc, hp⟩
      · obtain ⟨c, hc, hp, _⟩ := sw_par hn w
        exact h2 ⟨c, hc, hp⟩
theorem square_new {s1 t1 s2 t2 s2' t2' s1' t1' u r z : List UInt8} (H : Square s1 t1 s2 t2 s2' t2' s1' t1') (h1 : Nv s1 t1 u r) (h2 : Nv s2 t2 r z) : ∃ r', Nv s2' t2' u r' ∧ Nv s1' t1' r' z := by
  rcases parted u with h | ⟨par, name, rfl, h⟩
  · obtain rfl := (nv_none h).1 h1
    obtain rfl := (nv_none h).1 h2
    exact ⟨z, (nv_none h).2 rfl, (nv_none h).2 rfl⟩
  · obtain ⟨p1, k1, rfl⟩ := (nv_par h).1 h1
    obtain ⟨p2, k2, rfl⟩ := (nv_par h).1 h2
    obtain ⟨p', c1, c2⟩ := square H k1 k2
    exact ⟨p' ++ 47 :: name, (nv_par h).2 ⟨p', c1, rfl⟩, (nv_par h).2 ⟨p2, c2, rfl⟩⟩

/-! ### The model's functions -/
abbrev L (s : ByteArray) : List UInt8 := s.data.toList
theorem L_inj {s t : ByteArray} (h : L s = L t) : s = t := ByteArray.ext (Array.toList_inj.1 h)
theorem below_iff {s p : ByteArray} : Qm.below s p = true ↔ sw (L s) (L p) := by
  unfold Qm.below Lib.hasPrefix
  rw [List.isPrefixOf_iff_prefix]
  constructor
  · rintro ⟨x, hx⟩
    exact ⟨47 :: x, by simp, .inr ⟨x, rfl⟩, by show s.data.toList = _; rw [← hx]; simp⟩
  · rintro ⟨e, h0, he, hx⟩
    rcases he with rfl | ⟨t, rfl⟩
    · exact (h0 rfl).elim
    · exact ⟨t, by rw [show s.data.toList = _ from hx]; simp⟩
theorem within_iff {s p : ByteArray} : Qm.within s p = true ↔ wi (L s) (L p) := by
  unfold Qm.within
  rw [Bool.or_eq_true, Qm.eqB_iff, below_iff]
  constructor
  · rintro (rfl | h)
    · exact wi.refl _
    · exact h.wi
  · intro h
    rcases h.eq_or with h | h
    · exact .inl (L_inj h)
    · exact .inr h
theorem L_append (s t : ByteArray) : L (s ++ t) = L s ++ L t := by
  show (s ++ t).data.toList = _
  rw [ByteArray.data_append]
  simp
theorem L_extract (s : ByteArray) (i j : Nat) : L (s.extract i j) = ((L s).take j).drop i := by
  show (s.extract i j).data.toList = _
  rw [ByteArray.data_extract]
  simp [List.drop_take]
theorem after_move {path to_ s : ByteArray} (h : (Qm.after 5 path to_ s).2 = true) : Mv (L path) (L to_) (L s) (L (Qm.after 5 path to_ s).1) := by
  unfold Qm.after at h ⊢
  rw [if_neg (by decide), if_pos (by decide)] at h ⊢
  split at h
  · rename_i hw
    rw [if_pos hw]
    obtain ⟨e, he, hx⟩ := within_iff.1 hw
    refine .inl ⟨e, he, hx, ?_⟩
    show L (to_ ++ s.extract path.size s.size) = _
    rw [L_append, L_extract, hx]
    have hl : (L path).length = path.size := rfl
    have hs : s.size = (L path ++ e).length := by rw [← hx]; rfl
    rw [hs, List.take_length, ← hl, List.drop_left]
  · rename_i hw
    rw [if_neg hw]
    exact .inr ⟨fun w => hw (within_iff.2 w), (fun w => by rw [within_iff.2 w] at h; cases h), rfl⟩
theorem after_same {k : Int} {path to_ s : ByteArray} (hk : k ≠ 5) : (Qm.after k path to_ s).1 = s := by
  unfold Qm.after
  repeat' split
  all_goals first | rfl | (exfalso; simp_all)
theorem L_get {s : ByteArray} {j : Nat} (h : j < s.size) : (L s)[j]? = some (s.data[j]!) := by
  have h' : j < s.data.size := h
  rw [getElem!_pos s.data j h']
  simp [L, h']
theorem byte_eq {x : UInt8} : ((x.toNat : Int) = 47) ↔ x = 47 := by
  constructor
  · intro h
    have h2 : x.toNat = (47 : UInt8).toNat := by simpa using Int.ofNat.inj h
    exact UInt8.toNat_inj.1 h2
  · rintro rfl
    rfl
theorem last_slash (s : ByteArray) : (Lib.lastIndexByte s 47 < 0 ∧ 47 ∉ L s) ∨ (∃ (i : Nat) (name : List UInt8), Lib.lastIndexByte s 47 = i ∧ i < s.size ∧ L s = (L s).take i ++ 47 :: name ∧ 47 ∉ name ∧ (L s).drop i = 47 :: name) := by
  rcases Lib.lastIndexByte_spec s 47 with ⟨h, hn⟩ | ⟨i, hi, h, hc, hn⟩
  · refine .inl ⟨by omega, fun hm => ?_⟩
    obtain ⟨j, hj, hx⟩ := List.mem_iff_getElem.1 hm
    have hj' : j < s.size := hj
    have h1 := L_get hj'
    rw [List.getElem?_eq_getElem hj, hx] at h1
    exact hn j hj' (byte_eq.2 (Option.some.inj h1).symm)
  · have hi' : i < (L s).length := hi
    have h1 := L_get hi
    have hx : (L s)[i] = 47 := by
      rw [List.getElem?_eq_getElem hi'] at h1
      rw [Option.some.inj h1]
      exact byte_eq.1 hc
    have hd : (L s).drop i = 47 :: (L s).drop (i + 1) := by rw [List.drop_eq_getElem_cons hi', hx]
    refine .inr ⟨i, (L s).drop (i + 1), h, hi, ?_, fun hm => ?_, hd⟩
    · rw [← hd, List.take_append_drop]
    · obtain ⟨j, hj, hy⟩ := List.mem_iff_getElem.1 hm
      rw [List.length_drop] at hj
      rw [List.getElem_drop] at hy
      have hj' : i + 1 + j < s.size := by have : (L s).length = s.size := rfl; omega
      have h2 := L_get hj'
      rw [List.getElem?_eq_getElem (by have : (L s).length = s.size := rfl; omega), hy] at h2
      exact hn (i + 1 + j) (by omega) hj' (byte_eq.2 (Option.some.inj h2).symm)
theorem newAfter_move {path to_ s : ByteArray} (h : (Qm.newAfter 5 path to_ s).2 = true) : Nv (L path) (L to_) (L s) (L (Qm.newAfter 5 path to_ s).1) := by
  unfold Qm.newAfter at h ⊢
  rw [if_neg (by simp)] at h ⊢
  rcases last_slash s with ⟨h0, hn⟩ | ⟨i, name, hi, hlt, hs, hn, hd⟩
  · rw [if_pos h0] at h ⊢
    exact (nv_none hn).2 rfl
  · rw [if_neg (by omega), hi] at h ⊢
    dsimp only [Int.toNat_natCast] at h ⊢
    have hm := after_move h
    have hp : L (s.extract 0 i) = (L s).take i := by rw [L_extract]; rfl
    have hr : L (s.extract i s.size) = 47 :: name := by
      rw [L_extract, ← hd]
      congr 1
      exact List.take_length (l := L s)
    rw [hp] at hm
    rw [L_append, hr, hs]
    exact (nv_par hn).2 ⟨_, hm, rfl⟩
theorem newAfter_same {k : Int} {path to_ s : ByteArray} (hk : k ≠ 5) (h : (Qm.newAfter k path to_ s).2 = true) : (Qm.newAfter k path to_ s).1 = s := by
  unfold Qm.newAfter at h ⊢
  split at h
  · cases h
  rename_i h1
  rw [if_neg h1]
  rcases last_slash s with ⟨h0, hn⟩ | ⟨i, name, hi, hlt, hs, hn, hd⟩
  · rw [if_pos h0]
  · rw [if_neg (by omega), hi]
    dsimp only [Int.toNat_natCast]
    rw [after_same hk]
    refine L_inj ?_
    rw [L_append, L_extract, L_extract]
    show List.take i (L s) ++ List.drop i (List.take (L s).length (L s)) = L s
    rw [List.take_length, List.take_append_drop]
end Pa
end Go.Proofs.YtdbokolbheileaaGreatDoor
