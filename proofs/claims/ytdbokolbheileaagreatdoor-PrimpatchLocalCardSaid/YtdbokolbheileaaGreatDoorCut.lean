/- A cut in the midst of a region whose operations come one after the other. No condition. -/
import Derived.Test.YtdbokolbheileaaGreatDoorBase
import Derived.Says
import Derived.Deep.Cut
import Derived.Deep.Quiet
import Derived.BigQuiet
set_option linter.unusedSimpArgs false
set_option linter.unusedVariables false
namespace Go.Proofs.YtdbokolbheileaaGreatDoor
open Go

/-- The same in the quiet walk: the class of worlds stays. -/
theorem wpQuiet_app {P : Program} {ops : Array Oper} {C : World → Prop} {Q : Act → Prop} {l2 : List Oper} (l1 : List Oper) : ∀ (a : Act),
    wpQuiet P ops C (wpQuiet P ops C Q l2) l1 a → wpQuiet P ops C Q (l1 ++ l2) a := by
  induction l1 with
  | nil => intro a h; exact h
  | cons o l ih =>
    intro a h
    simp only [wpQuiet, List.cons_append] at h ⊢
    split
    · rename_i hw
      rw [if_pos hw] at h
      exact Oper.quiet_mono ih h
    · rename_i hw
      rw [if_neg hw] at h
      exact ih _ h
theorem wpQuiet_mono' {P : Program} {ops : Array Oper} {C : World → Prop} {Q Q' : Act → Prop} (hq : ∀ a, Q a → Q' a) (l : List Oper) : ∀ (a : Act), wpQuiet P ops C Q l a → wpQuiet P ops C Q' l a := by
  induction l with
  | nil => intro a h; exact hq _ h
  | cons o l ih =>
    intro a h
    simp only [wpQuiet] at h ⊢
    split
    · rename_i hw
      rw [if_pos hw] at h
      exact Oper.quiet_mono ih h
    · rename_i hw
      rw [if_neg hw] at h
      exact ih _ h
theorem wpQuiet_cut {P : Program} {ops : Array Oper} {C : World → Prop} {Q : Act → Prop} {l : List Oper} {a : Act} (n : Nat) (R : Act → Prop)
    (first : wpQuiet P ops C R (l.take n) a) (rest : ∀ a', R a' → wpQuiet P ops C Q (l.drop n) a') : wpQuiet P ops C Q l a := by
  rw [← List.take_append_drop n l]
  exact wpQuiet_app _ _ (wpQuiet_mono' rest _ _ first)

/-- What a frame holds, behind one name. -/
theorem frame_u {a : Act} {G : (Nat → Value) → Act} (h : a = G (fun k => a.tmps.getD k undef)) : ∃ u, a = G u := ⟨_, h⟩
end Go.Proofs.YtdbokolbheileaaGreatDoor
