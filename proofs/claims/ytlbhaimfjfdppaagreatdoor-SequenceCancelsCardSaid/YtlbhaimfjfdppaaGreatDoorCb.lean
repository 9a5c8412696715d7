/- Words on commuting that several statements use. -/
import Derived.Test.YtlbhaimfjfdppaaGreatDoorZ
import Derived.Test.YtlbhaimfjfdppaaGreatDoorAp
set_option linter.unusedSimpArgs false
set_option linter.unusedVariables false
namespace Go.Proofs.YtlbhaimfjfdppaaGreatDoor
open Go.RowKit

theorem commute_back {a b c d : Qp} (h : a.commute b = (c, d, true)) : c.commute d = (a, b, true) ∧ c.check = 0 ∧ d.check = 0 := by
  unfold Qp.commute at h
  split at h
  · simp only [Prod.mk.injEq] at h
    exact absurd h.2.2 (by decide)
  rename_i h0
  split at h
  · simp only [Prod.mk.injEq] at h
    exact absurd h.2.2 (by decide)
  rename_i h1
  split at h
  · rename_i h2
    simp only [Prod.mk.injEq, and_true] at h
    generalize hr : a.run b = R at h h1 h2
    obtain ⟨c', d', k⟩ := R
    dsimp only at h h1 h2
    obtain ⟨rfl, rfl⟩ := h
    obtain rfl : k = true := by simpa using h1
    have hc := run_ok hr rfl
    generalize hs : c'.run d' = S at h2
    obtain ⟨x, y, k2⟩ := S
    simp only [Bool.and_eq_true] at h2
    obtain ⟨rfl, h3, h4⟩ := h2
    have ex := Qp.same_iff.1 h3
    have ey := Qp.same_iff.1 h4
    subst ex ey
    refine ⟨?_, hc⟩
    unfold Qp.commute
    rw [if_neg (by simp [hc.1, hc.2]), hs]
    dsimp only
    rw [if_neg (by simp), hr]
    dsimp only
    rw [if_pos (by simp [Qp.same_iff.2 rfl])]
  · simp only [Prod.mk.injEq] at h
    exact absurd h.2.2 (by decide)
theorem check_fits {q : Qp} (h : q.check = 0) : q.Fits := by
  have s := Qp.bounds h
  have t := Qp.small h
  have h1 := s.path
  have h2 := s.to_
  exact ⟨by omega, by omega, by omega, by omega⟩
end Go.Proofs.YtlbhaimfjfdppaaGreatDoor
