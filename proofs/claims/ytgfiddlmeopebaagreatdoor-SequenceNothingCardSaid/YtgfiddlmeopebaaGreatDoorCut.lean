/- A cut in the midst of a region whose operations come one after the other. No condition. -/
import Derived.Test.YtgfiddlmeopebaaGreatDoorBase
import Derived.Says
import Derived.Deep.Cut
import Derived.Deep.Quiet
import Derived.BigQuiet
set_option linter.unusedSimpArgs false
set_option linter.unusedVariables false
namespace Go.Proofs.YtgfiddlmeopebaaGreatDoor
open Go

theorem upon_then {P : Program} {o : Oper} {a : Act} {n n' : Act → World → Prop} {R : Act → World → Prop} {Q : Exit → Act → World → Prop} {w : World} (h : ∀ a w, n a w → n' a w)
    (hh : o.wp P a w n (Exit.then R Q)) : o.wp P a w n' Q := by
  unfold Oper.wp at *
  generalize (execOp a.eval o).run P w = r at *
  cases r with
  | ok x w' =>
    cases x <;> simp only [Oper.upon] at hh ⊢ <;>
      first
        | exact h _ _ hh
        | exact Calls.mono hh (fun e w'' he => by cases e <;> first | exact h _ _ he | exact he)
        | exact Rows.mono hh (fun _ _ he => h _ _ he)
  | halt x w' => cases x <;> simp only [Oper.upon] at hh ⊢ <;> exact hh

theorem wpList_app {P : Program} {ops : Array Oper} {Q : Exit → Act → World → Prop} {l2 : List Oper} (l1 : List Oper) : ∀ (a : Act) (w : World),
    wpList P ops (Exit.then (wpList P ops Q l2) Q) l1 a w → wpList P ops Q (l1 ++ l2) a w := by
  induction l1 with
  | nil => intro a w h; exact h
  | cons o l ih =>
    intro a w h
    simp only [wpList, List.cons_append] at h ⊢
    split
    · rename_i hw
      rw [if_pos hw] at h
      rcases h with h | h
      · exact .inl (upon_then ih h)
      · exact .inr ⟨h.1, h.2⟩
    · rename_i hw
      rw [if_neg hw] at h
      exact ih _ _ h

theorem wpList_mono' {P : Program} {ops : Array Oper} {Q : Exit → Act → World → Prop} {K K' : Act → World → Prop} (hk : ∀ a w, K a w → K' a w) (l : List Oper) : ∀ (a : Act) (w : World),
    wpList P ops (Exit.then K Q) l a w → wpList P ops (Exit.then K' Q) l a w := by
  induction l with
  | nil => intro a w h; exact hk _ _ h
  | cons o l ih =>
    intro a w h
    simp only [wpList] at h ⊢
    split
    · rename_i hw
      rw [if_pos hw] at h
      rcases h with h | h
      · exact .inl (upon_then (R := K) (Q := Exit.then K' Q) ih (by
          unfold Oper.wp at *
          generalize (execOp a.eval o).run P w = r at *
          cases r with
          | ok x w' => cases x <;> exact h
          | halt x w' => cases x <;> exact h))
      · exact .inr ⟨h.1, h.2⟩
    · rename_i hw
      rw [if_neg hw] at h
      exact ih _ _ h

/-- The first n operations come to R; from whatever R holds of, the others. -/
theorem wpList_cut {P : Program} {ops : Array Oper} {Q : Exit → Act → World → Prop} {l : List Oper} {a : Act} {w : World} (n : Nat) (R : Act → World → Prop)
    (first : ∀ K : Act → World → Prop, (∀ a' w', R a' w' → K a' w') → wpList P ops (Exit.then K Q) (l.take n) a w)
    (rest : ∀ a' w', R a' w' → wpList P ops Q (l.drop n) a' w') : wpList P ops Q l a w := by
  rw [← List.take_append_drop n l]
  exact wpList_app _ _ _ (first _ rest)

/-- The same in the quiet walk: the class of worlds stays. -/
theorem wpQuiet_app {P : Program} {ops : Array Oper} {C : World → Prop} {Q : Act → Prop} {l2 : List Oper} (l1 : List Oper) : ∀ (a : Act),
    wpQuiet P ops C (wpQuiet P ops C Q l2) l1 a → wpQuiet P ops C Q (l1 ++ l2) a := by
  induction l1 with
  | nil => intro a h; exact h
  | cons o l ih =>
    intro a h
    simp only [wpQuiet, List.cons_append] at h ⊢
    split
    · rename_i hw
      rw [if_pos hw] at h
      exact Oper.quiet_mono ih h
    · rename_i hw
      rw [if_neg hw] at h
      exact ih _ h
theorem wpQuiet_mono' {P : Program} {ops : Array Oper} {C : World → Prop} {Q Q' : Act → Prop} (hq : ∀ a, Q a → Q' a) (l : List Oper) : ∀ (a : Act), wpQuiet P ops C Q l a → wpQuiet P ops C Q' l a := by
  induction l with
  | nil => intro a h; exact hq _ h
  | cons o l ih =>
    intro a h
    simp only [wpQuiet] at h ⊢
    split
    · rename_i hw
      rw [if_pos hw] at h
      exact Oper.quiet_mono ih h
    · rename_i hw
      rw [if_neg hw] at h
      exact ih _ h
theorem wpQuiet_cut {P : Program} {ops : Array Oper} {C : World → Prop} {Q : Act → Prop} {l : List Oper} {a : Act} (n : Nat) (R : Act → Prop)
    (first : wpQuiet P ops C R (l.take n) a) (rest : ∀ a', R a' → wpQuiet P ops C Q (l.drop n) a') : wpQuiet P ops C Q l a := by
  rw [← List.take_append_drop n l]
  exact wpQuiet_app _ _ (wpQuiet_mono' rest _ _ first)

/-- A region in the order of the text whose operations are quiet in the class of all later worlds. -/
theorem wpList_of_quiet {P : Program} {ops : Array Oper} {C : World → Prop} {Q : Act → Prop} {Q' : Exit → Act → World → Prop} (hQ : ∀ a w, C w → Q a → Q' .normal a w) (l : List Oper) : ∀ (a : Act) (w : World), C w → wpQuiet P ops C Q l a → wpList P ops Q' l a w := by
  induction l with
  | nil => intro a w hw h; exact hQ _ _ hw h
  | cons o l ih =>
    intro a w hw h
    simp only [wpQuiet, wpList] at h ⊢
    split
    · rename_i hg
      rw [if_pos hg] at h
      exact .inl (Oper.wp_of_quiet hw (fun a' w' hw' h' => ih a' w' hw' h') h)
    · rename_i hg
      rw [if_neg hg] at h
      exact ih _ _ hw h
theorem wp_region_ext_text {P : Program} {id : Nat} {Q : Exit → Act → World → Prop} {a : Act} {w : World} {l : List Oper} (h : wpQuiet P l.toArray (Ext w) (fun a' => ∀ w', Ext w w' → Q .normal a' w') l a) : (Code.region id l.toArray false).wp P Q a w :=
  wp_region_lit (wpList_of_quiet (fun _ _ hw hq => hq _ hw) l a w (Ext.refl w) h)
/-- What a frame holds, behind one name. -/
theorem frame_u {a : Act} {G : (Nat → Value) → Act} (h : a = G (fun k => a.tmps.getD k undef)) : ∃ u, a = G u := ⟨_, h⟩
end Go.Proofs.YtgfiddlmeopebaaGreatDoor
