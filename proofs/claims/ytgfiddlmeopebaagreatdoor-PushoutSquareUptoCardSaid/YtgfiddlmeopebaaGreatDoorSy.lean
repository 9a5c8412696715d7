/- Merging sequences in plain Lean: alike from either side, if the merging of patches is. No program. -/
import Derived.Test.YtgfiddlmeopebaaGreatDoorUe
import Derived.Test.YtgfiddlmeopebaaGreatDoorRq
set_option linter.unusedSimpArgs false
set_option linter.unusedVariables false
namespace Go.Proofs.YtgfiddlmeopebaaGreatDoor
open Go.RowKit
/-- Patches merge alike from either side. -/
theorem merge_sym (x y y' x' : Qp) (h : x.merge y = (y', x', true)) : y.merge x = (x', y', true) := by
  unfold Qp.merge at h
  split at h
  · simp only [Prod.mk.injEq] at h
    exact absurd h.2.2 (by decide)
  rename_i hx
  simp only [ne_eq, Decidable.not_not] at hx
  split at h
  rotate_left
  · simp only [Prod.mk.injEq] at h
    exact absurd h.2.2 (by decide)
  rename_i hf
  simp only [Prod.mk.injEq, and_true] at h
  obtain ⟨h1, h2⟩ := h
  have e : x.inv.commute y = (y', (x.inv.commute y).2.1, true) := by rw [← h1, ← hf]
  obtain ⟨_, hy, hy', hz, _, _⟩ := commute_pieces e
  have r := commute_inv e
  rw [inv_inv hx, h2] at r
  unfold Qp.merge
  rw [if_neg (by simp [hy]), r]
  simp only [if_true, inv_inv hy']
namespace Sq
theorem merge_empty (a : List Qp) : merge a [] = .ok ([], a) := by
  induction a with
  | nil => rfl
  | cons x a ih =>
    show (match merge a [] with | .ok t => Except.ok (t.1, x :: t.2) | .error e => .error (e.1 + 1, e.2)) = _
    rw [ih]
/-- A grid's first column, if prims merge alike from either side. -/
theorem merge_column (hs : ∀ x y y' x' : Qp, x.merge y = (y', x', true) → y.merge x = (x', y', true)) {a : List Qp} : ∀ {y : Qp} {b : List Qp} {t : List Qp × List Qp}, merge a (y :: b) = .ok t → ∃ y2 a1 b', carried y a = .ok (y2, a1) ∧ merge a1 b = .ok (b', t.2) ∧ t.1 = y2 :: b' := by
  induction a with
  | nil =>
    intro y b t h
    obtain rfl := Except.ok.inj h
    exact ⟨y, [], b, rfl, rfl, rfl⟩
  | cons x a ih =>
    intro y b t h
    unfold merge at h
    split at h
    · cases h
    · rename_i r hr
      unfold carried at hr
      split at hr
      · rename_i hc
        split at hr
        · rename_i r0 h0
          obtain rfl := Except.ok.inj hr
          split at h
          · rename_i t0 ht
            obtain rfl := Except.ok.inj h
            obtain ⟨y2, a1, b', h1, h2, h3⟩ := ih ht
            have hm := hs x y (x.merge y).1 (x.merge y).2.1 (by rw [← hc])
            refine ⟨y2, (x.merge y).2.1 :: a1, b', ?_, ?_, h3⟩
            · unfold carried
              rw [hm]
              simp only [if_true, h1]
            · unfold merge
              rw [h0]
              simp only [h2]
          · cases h
        · cases hr
      · cases hr
/-- Merging is even, if the merging of prims is. -/
theorem merge_even (hs : ∀ x y y' x' : Qp, x.merge y = (y', x', true) → y.merge x = (x', y', true)) {b : List Qp} : ∀ {a : List Qp} {t : List Qp × List Qp}, merge a b = .ok t → merge b a = .ok (t.2, t.1) := by
  induction b with
  | nil =>
    intro a t h
    rw [merge_empty] at h
    obtain rfl := Except.ok.inj h
    rfl
  | cons y b ih =>
    intro a t h
    obtain ⟨y2, a1, b', h1, h2, h3⟩ := merge_column hs h
    unfold merge
    rw [h1]
    simp only [ih h2, h3]
/-- What two patches that merge leave: they are exchanged. -/
theorem merge_square {x y x' y' : Qp} (h : y.merge x = (x', y', true)) : x.commute y' = (y, x', true) := by
  unfold Qp.merge at h
  split at h
  · simp only [Prod.mk.injEq] at h
    exact absurd h.2.2 (by decide)
  rename_i hy
  simp only [ne_eq, Decidable.not_not] at hy
  split at h
  rotate_left
  · simp only [Prod.mk.injEq] at h
    exact absurd h.2.2 (by decide)
  rename_i hf
  simp only [Prod.mk.injEq, and_true] at h
  obtain ⟨h1, h2⟩ := h
  have e : y.inv.commute x = (x', (y.inv.commute x).2.1, true) := by rw [← h1, ← hf]
  have q := commute_quarter e
  rw [inv_inv hy, h2] at q
  exact (commute_back q).1
/-- A patch brought to the beginning. -/
def bring : List Qp → Qp → Option (Qp × List Qp)
  | [], x => some (x, [])
  | q :: p, x => (bring p x).bind fun r => if (q.commute r.1).2.2 then some ((q.commute r.1).1, (q.commute r.1).2.1 :: r.2) else none
theorem swap_cons (q : Qp) (l : List Qp) (i : Nat) : swap (q :: l) (i + 1) = (swap l i).map (q :: ·) := by
  unfold swap
  simp only [List.getD_cons_succ, List.set_cons_succ]
  split <;> rfl
theorem left_cons (q : Qp) : ∀ (n : Nat) (l : List Qp) (i : Nat), n ≤ i → left n (q :: l) (i + 1) = (left n l i).map (q :: ·)
  | 0, _, _, _ => rfl
  | n + 1, l, i, h => by
    show (swap (q :: l) (i + 1 - 1)).bind (fun m => left n m (i + 1 - 1)) = ((swap l (i - 1)).bind fun m => left n m (i - 1)).map _
    rw [show i + 1 - 1 = (i - 1) + 1 by omega, swap_cons]
    cases swap l (i - 1) with
    | none => rfl
    | some m => exact left_cons q n m (i - 1) (by omega)
theorem left_bring (x : Qp) (s : List Qp) : ∀ p : List Qp, left p.length (p ++ x :: s) p.length = (bring p x).map fun r => r.1 :: (r.2 ++ s)
  | [] => rfl
  | q :: p => by
    show left (p.length + 1) (q :: (p ++ x :: s)) (p.length + 1) = _
    have hbr : bring (q :: p) x = (bring p x).bind fun r => if (q.commute r.1).2.2 then some ((q.commute r.1).1, (q.commute r.1).2.1 :: r.2) else none := rfl
    rw [left_add, left_cons q _ _ _ (Nat.le_refl _), left_bring x s p, hbr]
    cases bring p x with
    | none => rfl
    | some r =>
      show (swap (q :: (r.1 :: (r.2 ++ s))) (p.length + 1 - p.length - 1)).bind (fun m => some m) = _
      rw [show p.length + 1 - p.length - 1 = 0 by omega]
      have := swap_at [] q r.1 (r.2 ++ s)
      simp only [List.nil_append, List.length_nil] at this
      rw [this]
      dsimp only [Option.bind_some]
      split <;> rfl
theorem move_bring (p : List Qp) (x : Qp) (s : List Qp) : move (p ++ x :: s) p.length 0 = (bring p x).map fun r => r.1 :: (r.2 ++ s) := by
  unfold move
  rw [if_pos ⟨by simp, by simp; omega⟩]
  by_cases h : p.length ≤ 0
  · rw [if_pos h]
    have : p = [] := List.length_eq_zero_iff.1 (by omega)
    subst this
    rfl
  · rw [if_neg h, Nat.sub_zero, left_bring]
theorem carried_bring {a : List Qp} : ∀ {y : Qp} {r : Qp × List Qp}, carried y a = .ok r → bring a r.1 = some (y, r.2) := by
  induction a with
  | nil =>
    intro y r h
    obtain rfl := Except.ok.inj h
    rfl
  | cons x a ih =>
    intro y r h
    unfold carried at h
    split at h
    · rename_i hm
      split at h
      · rename_i t ht
        obtain rfl := Except.ok.inj h
        have e := merge_square (x := x) (y := y) (x' := (y.merge x).1) (y' := (y.merge x).2.1) (by rw [← hm])
        unfold bring
        dsimp only
        rw [ih ht, Option.bind_some]
        dsimp only
        rw [e]
        rfl
      · cases h
    · cases h
theorem bring_uniq {p : List Qp} : ∀ {x x2 y : Qp} {r r2 : List Qp}, bring p x = some (y, r) → bring p x2 = some (y, r2) → x = x2 := by
  induction p with
  | nil =>
    intro x x2 y r r2 h k
    exact (Prod.mk.inj (Option.some.inj h)).1.trans (Prod.mk.inj (Option.some.inj k)).1.symm
  | cons q p ih =>
    intro x x2 y r r2 h k
    obtain ⟨⟨u, s⟩, h1, h2⟩ := Option.bind_eq_some_iff.1 h
    obtain ⟨⟨v, s2⟩, k1, k2⟩ := Option.bind_eq_some_iff.1 k
    dsimp only at h2 k2
    split at h2
    rotate_left
    · cases h2
    rename_i hf
    split at k2
    rotate_left
    · cases k2
    rename_i kf
    obtain ⟨e1, _⟩ := Prod.mk.inj (Option.some.inj h2)
    obtain ⟨e2, _⟩ := Prod.mk.inj (Option.some.inj k2)
    have q1 := commute_quarter (a := q) (b := u) (c := y) (d := (q.commute u).2.1) (by rw [← e1, ← hf])
    have q2 := commute_quarter (a := q) (b := v) (c := y) (d := (q.commute v).2.1) (by rw [← e2, ← kf])
    rw [q1] at q2
    obtain rfl : u = v := (Prod.mk.inj q2).1
    exact ih h1 k1
theorem carried_parts {p : List Qp} : ∀ {y : Qp} {s : List Qp} {r : Qp × List Qp}, carried y (p ++ s) = .ok r → ∃ z p1 s1, carried y p = .ok (z, p1) ∧ carried z s = .ok (r.1, s1) ∧ r.2 = p1 ++ s1 := by
  induction p with
  | nil =>
    intro y s r h
    exact ⟨y, [], r.2, rfl, h, rfl⟩
  | cons x p ih =>
    intro y s r h
    rw [List.cons_append] at h
    unfold carried at h
    split at h
    · rename_i hm
      split at h
      · rename_i t ht
        obtain rfl := Except.ok.inj h
        obtain ⟨z, p1, s1, h1, h2, h3⟩ := ih ht
        refine ⟨z, (y.merge x).1 :: p1, s1, ?_, h2, by dsimp only; rw [h3]; rfl⟩
        rw [carried, if_pos hm, h1]
      · cases h
    · cases h
/-- No patch ahead is the one that is carried through. -/
theorem bring_other {p s r2 : List Qp} {x y : Qp} {r : Qp × List Qp} (h : carried y (p ++ x :: s) = .ok r) (k : bring p x = some (y, r2)) : False := by
  obtain ⟨z, p1, s1, h1, h2, _⟩ := carried_parts h
  obtain rfl := bring_uniq k (carried_bring h1)
  unfold carried at h2
  split at h2
  · rename_i hm
    exact commute_ne (merge_square (x := x) (y := x) (x' := (x.merge x).1) (y' := (x.merge x).2.1) (by rw [← hm]))
  · cases h2
theorem withoutFrom_skip {l : List Qp} {y : Qp} (n k : Nat) : ∀ i, (∀ j, i ≤ j → j < i + k → ∀ m, move l j 0 = some m → (m.getD 0 Qp.zero).same y = false) → withoutFrom l y (k + n) i = withoutFrom l y n (i + k) := by
  induction k with
  | zero =>
    intro i _
    rw [Nat.zero_add]
    rfl
  | succ k ih =>
    intro i h
    rw [show k + 1 + n = (k + n) + 1 by omega]
    conv => lhs; unfold withoutFrom
    have e : withoutFrom l y (k + n) (i + 1) = withoutFrom l y n (i + (k + 1)) := by
      rw [ih (i + 1) (fun j h1 h2 => h j (by omega) (by omega)), show i + 1 + k = i + (k + 1) by omega]
    split
    · rename_i m hm
      rw [h i (Nat.le_refl _) (by omega) m hm]
      exact e
    · exact e
theorem without_carried {a t : List Qp} {y : Qp} {r : Qp × List Qp} (h : carried y a = .ok r) : without (a ++ r.1 :: t) y = some (r.2 ++ t) := by
  unfold without
  have hl : (a ++ r.1 :: t).length = a.length + (t.length + 1) := by simp
  rw [hl, withoutFrom_skip (t.length + 1) a.length 0 ?_, Nat.zero_add]
  · unfold withoutFrom
    rw [move_bring, carried_bring h]
    simp [Qp.same_iff.2]
  · intro j _ hj m hm
    rw [Nat.zero_add] at hj
    have ea : a = a.take j ++ a[j] :: a.drop (j + 1) := by rw [List.getElem_cons_drop, List.take_append_drop]
    have el : a ++ r.1 :: t = a.take j ++ a[j] :: (a.drop (j + 1) ++ r.1 :: t) := by
      exact (congrArg (· ++ r.1 :: t) ea).trans (by rw [List.append_assoc, List.cons_append])
    rw [el] at hm
    have hmb := move_bring (a.take j) a[j] (a.drop (j + 1) ++ r.1 :: t)
    rw [List.length_take, Nat.min_eq_left (by omega)] at hmb
    rw [hmb] at hm
    obtain ⟨⟨u, v⟩, h1, h2⟩ := Option.map_eq_some_iff.1 hm
    rw [← h2]
    show u.same y = false
    cases e : u.same y
    · rfl
    · obtain rfl := Qp.same_iff.1 e
      rw [ea] at h
      exact (bring_other h h1).elim
/-- THE LAW OF PushoutSquare. -/
theorem square {b : List Qp} : ∀ {a l o : List Qp}, merge a b = .ok (l, o) → ∀ m, same (a ++ (l ++ m)) (b ++ (o ++ m)) = true := by
  induction b with
  | nil =>
    intro a l o h m
    rw [merge_empty] at h
    obtain ⟨rfl, rfl⟩ := Prod.mk.inj (Except.ok.inj h)
    exact same_refl _
  | cons y b ih =>
    intro a l o h m
    obtain ⟨y2, a1, b2, h1, h2, h3⟩ := merge_column merge_sym h
    dsimp only at h2 h3
    subst h3
    have hw := without_carried (t := b2 ++ m) h1
    show (match without (a ++ (y2 :: b2 ++ m)) y with | some r => same r (b ++ (o ++ m)) | none => false) = true
    rw [List.cons_append, hw]
    exact ih h2 m
end Sq
end Go.Proofs.YtgfiddlmeopebaaGreatDoor
