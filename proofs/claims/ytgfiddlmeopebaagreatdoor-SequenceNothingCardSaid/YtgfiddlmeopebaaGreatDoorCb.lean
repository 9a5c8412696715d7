/- Words on commuting that several statements use. -/
import Derived.Test.YtgfiddlmeopebaaGreatDoorZ
import Derived.Test.YtgfiddlmeopebaaGreatDoorAp
set_option linter.unusedSimpArgs false
set_option linter.unusedVariables false
namespace Go.Proofs.YtgfiddlmeopebaaGreatDoor
open Go.RowKit

theorem commute_back {a b c d : Qp} (h : a.commute b = (c, d, true)) : c.commute d = (a, b, true) ∧ c.check = 0 ∧ d.check = 0 := by
  unfold Qp.commute at h
  split at h
  · simp only [Prod.mk.injEq] at h
    exact absurd h.2.2 (by decide)
  rename_i h0
  split at h
  · simp only [Prod.mk.injEq] at h
    exact absurd h.2.2 (by decide)
  rename_i h1
  split at h
  · rename_i h2
    simp only [Prod.mk.injEq, and_true] at h
    generalize hr : a.run b = R at h h1 h2
    obtain ⟨c', d', k⟩ := R
    dsimp only at h h1 h2
    obtain ⟨rfl, rfl⟩ := h
    obtain rfl : k = true := by simpa using h1
    have hc := run_ok hr rfl
    generalize hs : c'.run d' = S at h2
    obtain ⟨x, y, k2⟩ := S
    simp only [Bool.and_eq_true] at h2
    obtain ⟨rfl, h3, h4⟩ := h2
    have ex := Qp.same_iff.1 h3
    have ey := Qp.same_iff.1 h4
    subst ex ey
    refine ⟨?_, hc⟩
    unfold Qp.commute
    rw [if_neg (by simp [hc.1, hc.2]), hs]
    dsimp only
    rw [if_neg (by simp), hr]
    dsimp only
    rw [if_pos (by simp [Qp.same_iff.2 rfl])]
  · simp only [Prod.mk.injEq] at h
    exact absurd h.2.2 (by decide)
theorem commute_none {a b c d : Qp} (h : a.commute b = (c, d, false)) : c = Qp.zero ∧ d = Qp.zero := by
  unfold Qp.commute at h
  repeat' split at h
  all_goals
    simp only [Prod.mk.injEq] at h
    first
      | exact ⟨h.1.symm, h.2.1.symm⟩
      | exact absurd h.2.2 (by decide)
theorem check_fits {q : Qp} (h : q.check = 0) : q.Fits := by
  have s := Qp.bounds h
  have t := Qp.small h
  have h1 := s.path
  have h2 := s.to_
  exact ⟨by omega, by omega, by omega, by omega⟩
/-- The patch reads so, wherever its lists lie. -/
abbrev Rd (w : World) (p : Pv) (q : Qp) : Prop := Is w (fun _ => True) p q
theorem commute_rd (p p' : Pv) (a b : Qp) (w : World) (hg : Glob w) (ha : Rd w p a) (hb : Rd w p' b) (fa : a.Fits) (fb : b.Fits) :
    Calls Tryz.prog 63 #[p.v, p'.v] w (fun e w' => ∃ P P' : Pv, e = .returned (.tuple #[P.v, P'.v, .bool (a.commute b).2.2]) ∧ Hid (Rd w' P (a.commute b).1) ∧ Hid (Rd w' P' (a.commute b).2.1) ∧ Ext w w') :=
  (commute_any p p' a b w hg ha hb fa fb).mono fun e w' ⟨P, P', he, i1, i2, hx⟩ => ⟨P, P', he, Lib.hid (i1.mono fun _ _ => trivial), Lib.hid (i2.mono fun _ _ => trivial), hx⟩
theorem commute_cm {a b c d : Qp} (h : a.commute b = (c, d, true)) : Cm a b c d ∧ c.check = 0 ∧ d.check = 0 := by
  refine ⟨?_, (commute_back h).2⟩
  unfold Qp.commute at h
  split at h
  · simp only [Prod.mk.injEq] at h
    exact absurd h.2.2 (by decide)
  rename_i h0
  simp only [ne_eq, not_or, Decidable.not_not] at h0
  split at h
  · simp only [Prod.mk.injEq] at h
    exact absurd h.2.2 (by decide)
  rename_i h1
  split at h
  · simp only [Prod.mk.injEq, and_true] at h
    refine run_cm ?_ h0.1 h0.2
    rw [← h.1, ← h.2]
    have : (a.run b).2.2 = true := by simpa using h1
    rw [← this]
  · simp only [Prod.mk.injEq] at h
    exact absurd h.2.2 (by decide)

end Go.Proofs.YtgfiddlmeopebaaGreatDoor
