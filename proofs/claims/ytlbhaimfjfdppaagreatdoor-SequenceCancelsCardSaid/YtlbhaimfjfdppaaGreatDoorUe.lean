/- Sequences of patches in plain Lean: moving, passing, leaving out, being the same. No program. Sequences of patches in plain Lean: cancelling. No program. Merging sequences in plain Lean: in parts, up to a conflict, the mediating sequence. No program. Sequences of patches in plain Lean: steps put together. No program. Merging sequences in plain Lean: how far a merge has come. No program. -/
import Derived.Test.YtlbhaimfjfdppaaGreatDoorCb
import Derived.Test.YtlbhaimfjfdppaaGreatDoorAp
import Derived.Test.YtlbhaimfjfdppaaGreatDoorMf
set_option linter.unusedSimpArgs false
set_option linter.unusedVariables false
namespace Go.Proofs.YtlbhaimfjfdppaaGreatDoor
open Go.RowKit Pa

namespace Sq
/-- The patches at i and i + 1 exchanged. -/
def swap (l : List Qp) (i : Nat) : Option (List Qp) :=
  if ((l.getD i Qp.zero).commute (l.getD (i + 1) Qp.zero)).2.2 then
    some ((l.set i ((l.getD i Qp.zero).commute (l.getD (i + 1) Qp.zero)).1).set (i + 1) ((l.getD i Qp.zero).commute (l.getD (i + 1) Qp.zero)).2.1)
  else none
/-- n steps to the end, from i. -/
def right : Nat → List Qp → Nat → Option (List Qp)
  | 0, l, _ => some l
  | n + 1, l, i => (swap l i).bind fun m => right n m (i + 1)
/-- n steps to the beginning, from i. -/
def left : Nat → List Qp → Nat → Option (List Qp)
  | 0, l, _ => some l
  | n + 1, l, i => (swap l (i - 1)).bind fun m => left n m (i - 1)
/-- sequence.Move. -/
def move (l : List Qp) (i k : Nat) : Option (List Qp) :=
  if i < l.length ∧ k < l.length then (if i ≤ k then right (k - i) l i else left (i - k) l i) else none
/-- sequence.without, from i on. -/
def withoutFrom (l : List Qp) (p : Qp) : Nat → Nat → Option (List Qp)
  | 0, _ => none
  | n + 1, i => match move l i 0 with
    | some m => if (m.getD 0 Qp.zero).same p then some m.tail else withoutFrom l p n (i + 1)
    | none => withoutFrom l p n (i + 1)
def without (l : List Qp) (p : Qp) : Option (List Qp) := withoutFrom l p l.length 0
/-- sequence.Same. -/
def same : List Qp → List Qp → Bool
  | a, [] => a.isEmpty
  | a, p :: b => match without a p with
    | some r => same r b
    | none => false

theorem swap_at (p : List Qp) (a b : Qp) (s : List Qp) : swap (p ++ a :: b :: s) p.length = if (a.commute b).2.2 then some (p ++ (a.commute b).1 :: (a.commute b).2.1 :: s) else none := by
  have e1 : (p ++ a :: b :: s).getD p.length Qp.zero = a := by simp [List.getD]
  have e2 : (p ++ a :: b :: s).getD (p.length + 1) Qp.zero = b := by simp [List.getD, List.getElem?_append_right]
  unfold swap
  rw [e1, e2]
  split
  · congr 1
    rw [List.set_append_right _ _ (Nat.le_refl _), Nat.sub_self, List.set_cons_zero, List.set_append_right _ _ (by omega)]
    simp
  · rfl
theorem parts {l : List Qp} {i : Nat} (h : i + 1 < l.length) : ∃ p a b s, l = p ++ a :: b :: s ∧ p.length = i := by
  refine ⟨l.take i, l[i], l[i + 1], l.drop (i + 2), ?_, by simp; omega⟩
  rw [List.getElem_cons_drop, List.getElem_cons_drop, List.take_append_drop]
theorem swap_length {l m : List Qp} {i : Nat} (h : swap l i = some m) : m.length = l.length := by
  unfold swap at h
  split at h
  · obtain rfl := Option.some.inj h
    simp
  · cases h
theorem right_length {n : Nat} : ∀ {l m : List Qp} {i : Nat}, right n l i = some m → m.length = l.length := by
  induction n with
  | zero =>
    intro l m i h
    obtain rfl := Option.some.inj h
    rfl
  | succ n ih =>
    intro l m i h
    obtain ⟨x, h1, h2⟩ := Option.bind_eq_some_iff.1 h
    rw [ih h2, swap_length h1]
theorem left_length {n : Nat} : ∀ {l m : List Qp} {i : Nat}, left n l i = some m → m.length = l.length := by
  induction n with
  | zero =>
    intro l m i h
    obtain rfl := Option.some.inj h
    rfl
  | succ n ih =>
    intro l m i h
    obtain ⟨x, h1, h2⟩ := Option.bind_eq_some_iff.1 h
    rw [ih h2, swap_length h1]
theorem move_length {l m : List Qp} {i k : Nat} (h : move l i k = some m) : m.length = l.length := by
  unfold move at h
  split at h
  · split at h
    · exact right_length h
    · exact left_length h
  · cases h
theorem move_self {l : List Qp} {i : Nat} (h : i < l.length) : move l i i = some l := by
  unfold move
  rw [if_pos ⟨h, h⟩, if_pos (Nat.le_refl _), Nat.sub_self]
  rfl
end Sq
end Go.Proofs.YtlbhaimfjfdppaaGreatDoor
namespace Go.Proofs.YtlbhaimfjfdppaaGreatDoor
open Go.RowKit Pa
namespace Sq
/-- The pair i, k of a sequence cancelled. -/
def cancelAt (l : List Qp) (i k : Nat) : Option (List Qp) :=
  if (l.getD i Qp.zero).check = 0 then match move l k (i + 1) with
    | some m => if (m.getD (i + 1) Qp.zero).same (l.getD i Qp.zero).inv then some (m.take i ++ m.drop (i + 2)) else none
    | none => none
  else none
def cancelRow (l : List Qp) (d : Nat) : Option (List Qp) := (List.range (l.length - d)).findSome? fun i => cancelAt l i (i + d)
/-- sequence.cancelOne. -/
def cancelOne (l : List Qp) : Option (List Qp) := (List.range' 1 (l.length - 1)).findSome? fun d => cancelRow l d
def cancelN : Nat → List Qp → List Qp
  | 0, l => l
  | n + 1, l => match cancelOne l with
    | some m => cancelN n m
    | none => l
/-- sequence.Cancel. -/
def cancel (l : List Qp) : List Qp := cancelN l.length l
/-- sequence.Invert of valid patches. -/
def invert (l : List Qp) : List Qp := (l.map Qp.inv).reverse

instance : DecidableEq Qp := fun a b => if h : a.same b = true then .isTrue (Qp.same_iff.1 h) else .isFalse (fun e => h (Qp.same_iff.2 e))
/-- x ahead of a word without a pair that cancels. -/
def push (x : Qp) : List Qp → List Qp
  | [] => [x]
  | y :: s => if y = x.inv then s else x :: y :: s
def nf (l : List Qp) : List Qp := l.foldr push []
def Ok (l : List Qp) : Prop := ∀ x ∈ l, x.check = 0
/-- No neighbours cancel. -/
def Red : List Qp → Prop
  | [] => True
  | [_] => True
  | x :: y :: s => y ≠ x.inv ∧ Red (y :: s)
theorem Red.tail {x : Qp} {s : List Qp} (h : Red (x :: s)) : Red s := by
  cases s with
  | nil => trivial
  | cons y s => exact h.2
theorem push_red {x : Qp} {s : List Qp} (h : Red s) : Red (push x s) := by
  cases s with
  | nil => trivial
  | cons y s =>
    show Red (if y = x.inv then s else x :: y :: s)
    split
    · exact h.tail
    · rename_i hne
      exact ⟨hne, h⟩
theorem nf_red (l : List Qp) : Red (nf l) := by
  induction l with
  | nil => trivial
  | cons x l ih => exact push_red ih
theorem push_push {x : Qp} (hx : x.check = 0) {s : List Qp} (h : Red s) : push x (push x.inv s) = s := by
  cases s with
  | nil => simp [push]
  | cons y s =>
    show push x (if y = x.inv.inv then s else x.inv :: y :: s) = _
    rw [inv_inv hx]
    split
    · rename_i e
      subst e
      cases s with
      | nil => rfl
      | cons z s =>
        show (if z = y.inv then s else y :: z :: s) = _
        rw [if_neg h.1]
    · show (if x.inv = x.inv then y :: s else x :: x.inv :: y :: s) = _
      rw [if_pos rfl]
theorem nf_pair {x : Qp} (hx : x.check = 0) (p s : List Qp) : nf (p ++ x :: x.inv :: s) = nf (p ++ s) := by
  induction p with
  | nil => exact push_push hx (nf_red s)
  | cons q p ih => exact congrArg (push q) ih
theorem nf_invert (l : List Qp) : Ok l → ∀ t, nf (l ++ (invert l ++ t)) = nf t := by
  induction l with
  | nil => intro _ t; rfl
  | cons x l ih =>
    intro h t
    have e : x :: l ++ (invert (x :: l) ++ t) = x :: (l ++ (invert l ++ (x.inv :: t))) := by simp [invert]
    rw [e]
    show push x (nf (l ++ (invert l ++ (x.inv :: t)))) = _
    rw [ih (fun y hy => h y (List.mem_cons_of_mem _ hy))]
    exact push_push (h x (List.mem_cons_self ..)) (nf_red t)
theorem nf_of_red : ∀ {l : List Qp}, Red l → nf l = l
  | [], _ => rfl
  | [x], _ => rfl
  | x :: y :: s, h => by
    show push x (nf (y :: s)) = _
    rw [nf_of_red h.2]
    show (if y = x.inv then s else x :: y :: s) = _
    rw [if_neg h.1]
theorem pair_of_not_red : ∀ {l : List Qp}, ¬ Red l → ∃ p x s, l = p ++ x :: x.inv :: s
  | [], h => (h trivial).elim
  | [x], h => (h trivial).elim
  | x :: y :: s, h => by
    by_cases e : y = x.inv
    · exact ⟨[], x, s, by rw [e]; rfl⟩
    · obtain ⟨p, z, t, he⟩ := pair_of_not_red (l := y :: s) (fun k => h ⟨e, k⟩)
      exact ⟨x :: p, z, t, by rw [he]; rfl⟩
theorem cancelAt_next {l : List Qp} (h : Ok l) {i : Nat} (hi : i + 1 < l.length) : cancelAt l i (i + 1) = if (l.getD (i + 1) Qp.zero).same (l.getD i Qp.zero).inv then some (l.take i ++ l.drop (i + 2)) else none := by
  have hc : (l.getD i Qp.zero).check = 0 := by
    rw [List.getD_eq_getElem?_getD, List.getElem?_eq_getElem (by omega)]
    exact h _ (List.getElem_mem _)
  unfold cancelAt
  rw [if_pos hc, move_self hi]
theorem cancelOne_ok {l : List Qp} (h : Ok l) (hn : nf l = []) (hl : l ≠ []) : ∃ m, cancelOne l = some m ∧ nf m = [] ∧ Ok m ∧ m.length < l.length := by
  have hr : ¬ Red l := fun k => hl ((nf_of_red k).symm.trans hn)
  obtain ⟨p, x, s, he⟩ := pair_of_not_red hr
  have hlen : l.length = p.length + (s.length + 2) := by rw [he]; simp
  have h1 : cancelRow l 1 ≠ none := by
    unfold cancelRow
    rw [ne_eq, List.findSome?_eq_none_iff]
    intro hall
    have := hall p.length (List.mem_range.2 (by omega))
    rw [cancelAt_next h (by omega)] at this
    have e1 : l.getD p.length Qp.zero = x := by rw [he]; simp [List.getD]
    have e2 : l.getD (p.length + 1) Qp.zero = x.inv := by rw [he]; simp [List.getD, List.getElem?_append_right]
    rw [e1, e2, if_pos (Qp.same_iff.2 rfl)] at this
    cases this
  obtain ⟨m, hm⟩ := Option.ne_none_iff_exists'.1 h1
  refine ⟨m, ?_, ?_⟩
  · unfold cancelOne
    rw [show l.length - 1 = (p.length + s.length) + 1 by omega, List.range'_succ, List.findSome?_cons, hm]
  · unfold cancelRow at hm
    obtain ⟨i, hi, hc⟩ := List.exists_of_findSome?_eq_some hm
    have hi' := List.mem_range.1 hi
    rw [cancelAt_next h (by omega)] at hc
    split at hc
    rotate_left
    · cases hc
    rename_i hs
    obtain rfl := Option.some.inj hc
    obtain ⟨q, a, b, t, rfl, rfl⟩ := parts (l := l) (i := i) (by omega)
    have e1 : (q ++ a :: b :: t).getD q.length Qp.zero = a := by simp [List.getD]
    have e2 : (q ++ a :: b :: t).getD (q.length + 1) Qp.zero = b := by simp [List.getD, List.getElem?_append_right]
    rw [e1, e2] at hs
    obtain rfl := Qp.same_iff.1 hs
    have e3 : (q ++ a :: a.inv :: t).take q.length ++ (q ++ a :: a.inv :: t).drop (q.length + 2) = q ++ t := by simp [List.drop_append]
    rw [e3]
    refine ⟨?_, fun y hy => h y ?_, by simp; omega⟩
    · rw [← nf_pair (h a (by simp)) q t]
      exact hn
    · rcases List.mem_append.1 hy with k | k
      · exact List.mem_append_left _ k
      · exact List.mem_append_right _ (by simp [k])
theorem cancelN_nothing : ∀ (n : Nat) (l : List Qp), l.length ≤ n → Ok l → nf l = [] → cancelN n l = []
  | 0, l, hl, _, _ => show l = [] from List.length_eq_zero_iff.1 (Nat.le_zero.1 hl)
  | n + 1, l, hl, ho, hn => by
    unfold cancelN
    by_cases e : l = []
    · subst e
      rfl
    · obtain ⟨m, h1, h2, h3, h4⟩ := cancelOne_ok ho hn e
      rw [h1]
      exact cancelN_nothing n m (by omega) h3 h2
/-- THE LAW OF SequenceNothing. -/
theorem nothing {l : List Qp} (h : Ok l) : cancel (l ++ invert l) = [] := by
  refine cancelN_nothing _ _ (Nat.le_refl _) (fun x hx => ?_) ?_
  · rcases List.mem_append.1 hx with k | k
    · exact h x k
    · simp only [invert, List.mem_reverse, List.mem_map] at k
      obtain ⟨y, hy, rfl⟩ := k
      exact inv_check (h y hy)
  · have := nf_invert l h []
    rw [List.append_nil] at this
    exact this
end Sq
end Go.Proofs.YtlbhaimfjfdppaaGreatDoor
namespace Go.Proofs.YtlbhaimfjfdppaaGreatDoor
open Go.RowKit Pa
namespace Sq
/-- A patch carried through a sequence: the patch and the sequence behind each other; or where they do not merge. -/
def carried : Qp → List Qp → Except Nat (Qp × List Qp)
  | x, [] => .ok (x, [])
  | x, y :: b => if (x.merge y).2.2 then (match carried (x.merge y).2.1 b with
      | .ok r => .ok (r.1, (x.merge y).1 :: r.2)
      | .error k => .error (k + 1)) else .error 0
/-- pushout.Merge. -/
def merge : List Qp → List Qp → Except (Nat × Nat) (List Qp × List Qp)
  | [], b => .ok (b, [])
  | x :: a, b => match carried x b with
    | .error k => .error (0, k)
    | .ok r => match merge a r.2 with
      | .ok t => .ok (t.1, r.1 :: t.2)
      | .error e => .error (e.1 + 1, e.2)
end Sq
end Go.Proofs.YtlbhaimfjfdppaaGreatDoor
namespace Go.Proofs.YtlbhaimfjfdppaaGreatDoor
open Go.RowKit
namespace Sq
theorem right_add (b : Nat) : ∀ (a : Nat) (l : List Qp) (i : Nat), right (a + b) l i = (right a l i).bind fun m => right b m (i + a)
  | 0, l, i => by
    rw [Nat.zero_add]
    rfl
  | a + 1, l, i => by
    rw [show a + 1 + b = (a + b) + 1 by omega]
    show (swap l i).bind (fun m => right (a + b) m (i + 1)) = ((swap l i).bind fun m => right a m (i + 1)).bind _
    rw [Option.bind_assoc]
    congr 1
    funext m
    rw [right_add b a m (i + 1), show i + 1 + a = i + (a + 1) by omega]
theorem left_add (b : Nat) : ∀ (a : Nat) (l : List Qp) (i : Nat), left (a + b) l i = (left a l i).bind fun m => left b m (i - a)
  | 0, l, i => by
    rw [Nat.zero_add]
    rfl
  | a + 1, l, i => by
    rw [show a + 1 + b = (a + b) + 1 by omega]
    show (swap l (i - 1)).bind (fun m => left (a + b) m (i - 1)) = ((swap l (i - 1)).bind fun m => left a m (i - 1)).bind _
    rw [Option.bind_assoc]
    congr 1
    funext m
    rw [left_add b a m (i - 1), show i - 1 - a = i - (a + 1) by omega]
/-- One step more to the end. -/
theorem right_step {l m : List Qp} {i j : Nat} (hj : i ≤ j) (h : right (j - i) l i = some m) : right (j + 1 - i) l i = swap m j := by
  rw [show j + 1 - i = (j - i) + 1 by omega, right_add, h, show i + (j - i) = j by omega]
  show (swap m j).bind (fun m => some m) = _
  cases swap m j <;> rfl
theorem right_dies {l m : List Qp} {i j k : Nat} (hj : i ≤ j) (hk : j < k) (h : right (j - i) l i = some m) (hs : swap m j = none) : right (k - i) l i = none := by
  rw [show k - i = (j + 1 - i) + (k - j - 1) by omega, right_add, right_step hj h, hs]
  rfl
/-- One step more to the beginning. -/
theorem left_step {l m : List Qp} {i j : Nat} (hj : j + 1 ≤ i) (h : left (i - (j + 1)) l i = some m) : left (i - j) l i = swap m j := by
  rw [show i - j = (i - (j + 1)) + 1 by omega, left_add, h, show i - (i - (j + 1)) = j + 1 by omega]
  show (swap m (j + 1 - 1)).bind (fun m => some m) = _
  rw [Nat.add_sub_cancel]
  cases swap m j <;> rfl
theorem left_dies {l m : List Qp} {i j k : Nat} (hj : j + 1 ≤ i) (hk : k ≤ j) (h : left (i - (j + 1)) l i = some m) (hs : swap m j = none) : left (i - k) l i = none := by
  rw [show i - k = (i - j) + (j - k) by omega, left_add, left_step hj h, hs]
  rfl
theorem swap_fits {l m : List Qp} {i : Nat} (hi : i + 1 < l.length) (h : swap l i = some m) (hf : ∀ q ∈ l, q.Fits) : ∀ q ∈ m, q.Fits := by
  obtain ⟨p, a, b, s, rfl, rfl⟩ := parts hi
  rw [swap_at] at h
  split at h
  · rename_i hk
    obtain rfl := Option.some.inj h
    have e : a.commute b = ((a.commute b).1, (a.commute b).2.1, true) := by rw [← hk]
    have hc := (commute_back e).2
    intro q hq
    rcases List.mem_append.1 hq with m | m
    · exact hf q (List.mem_append_left _ m)
    · rcases List.mem_cons.1 m with rfl | m
      · exact check_fits hc.1
      · rcases List.mem_cons.1 m with rfl | m
        · exact check_fits hc.2
        · exact hf q (List.mem_append_right _ (List.mem_cons_of_mem _ (List.mem_cons_of_mem _ m)))
  · cases h
end Sq
end Go.Proofs.YtlbhaimfjfdppaaGreatDoor
namespace Go.Proofs.YtlbhaimfjfdppaaGreatDoor
open Go.RowKit

end Go.Proofs.YtlbhaimfjfdppaaGreatDoor
