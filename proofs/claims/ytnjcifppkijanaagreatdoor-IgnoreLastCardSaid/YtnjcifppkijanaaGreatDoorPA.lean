/- Globs, in plain Lean: what a pattern is, how it is read, what it matches, and that sets of states find that out. No program. Rules of files that are ignored, in plain Lean: reading and printing them; the law of texts. No program. Which files are ignored, in plain Lean: the laws of what lies below and elsewhere. No program. Trees without what is ignored, and the reference's way to decide, in plain Lean. No program. A rule for exactly one path, in plain Lean: the law of IgnoreLast. No program. The nearest file first, in plain Lean: the program's way to select; sets of numbers kept as maps. No program's function. -/
import Derived.Test.YtnjcifppkijanaaGreatDoorModel
import Derived.Test.YtnjcifppkijanaaGreatDoorTp
import Derived.Test.YtnjcifppkijanaaGreatDoorPc
import Derived.Maps.Own
import Derived.Maps.OwnSet
import Derived.Maps.Ext
set_option linter.unusedSimpArgs false
set_option linter.unusedVariables false
namespace Go.Proofs.YtnjcifppkijanaaGreatDoor
open Go
namespace Gl

/-- An element: none: a star; or a set of bytes. -/
abbrev El := Option (UInt8 → Bool)
/-- A byte that may be quoted. -/
def plain : List UInt8 → Option (UInt8 × List UInt8)
  | [] => none
  | c :: s => if c = 92 then (match s with | [] => none | d :: t => some (d, t)) else some (c, s)
theorem plain_cons {c : UInt8} (h : c ≠ 92) (s : List UInt8) : plain (c :: s) = some (c, s) := by
  show (if c = 92 then _ else _) = _
  rw [if_neg h]
theorem plain_esc (d : UInt8) (t : List UInt8) : plain (92 :: d :: t) = some (d, t) := rfl
theorem plain_lt {s t : List UInt8} {c : UInt8} (h : plain s = some (c, t)) : t.length < s.length := by
  cases s with
  | nil => cases h
  | cons x s =>
    by_cases hx : x = 92
    · subst hx
      cases s with
      | nil => cases h
      | cons d u =>
        rw [plain_esc] at h
        simp only [Option.some.injEq, Prod.mk.injEq] at h
        rw [← h.2]
        simp only [List.length_cons]
        omega
    · rw [plain_cons hx] at h
      simp only [Option.some.injEq, Prod.mk.injEq] at h
      rw [← h.2]
      simp
/-- An item of a class: from, to, the rest. -/
def item (s : List UInt8) : Option (UInt8 × UInt8 × List UInt8) :=
  match plain s with
  | none => none
  | some (lo, t) =>
    match t with
    | 45 :: d :: u => if d = 93 then some (lo, lo, t) else
      match plain (d :: u) with
      | none => none
      | some (hi, v) => if lo ≤ hi then some (lo, hi, v) else none
    | _ => some (lo, lo, t)
theorem item_lt {s v : List UInt8} {lo hi : UInt8} (h : item s = some (lo, hi, v)) : v.length < s.length := by
  unfold item at h
  split at h
  · cases h
  · rename_i l t hp
    have hl := plain_lt hp
    split at h
    · rename_i d u
      split at h
      · simp only [Option.some.injEq, Prod.mk.injEq] at h
        rw [← h.2.2]
        exact hl
      · split at h
        · cases h
        · rename_i g v' hq
          split at h
          · simp only [Option.some.injEq, Prod.mk.injEq] at h
            have := plain_lt hq
            rw [← h.2.2]
            simp only [List.length_cons] at hl this ⊢
            omega
          · cases h
    · simp only [Option.some.injEq, Prod.mk.injEq] at h
      rw [← h.2.2]
      exact hl
/-- The items of a class up to its closing bracket, put to a set. n: fuel. -/
def items : Nat → List UInt8 → (UInt8 → Bool) → Nat → Option ((UInt8 → Bool) × Nat × List UInt8)
  | 0, _, _, _ => none
  | _ + 1, [], _, _ => none
  | n + 1, c :: s, p, k => if c = 93 then some (p, k, s) else
    match item (c :: s) with
    | none => none
    | some (lo, hi, t) => items n t (fun b => p b || (decide (lo ≤ b) && decide (b ≤ hi))) (k + 1)
/-- The set of a class. -/
def clsSet (neg : Bool) (p : UInt8 → Bool) : UInt8 → Bool := fun c => c != 47 && (p c != neg)
def some256 (p : UInt8 → Bool) : Bool := (List.range 256).any fun i => p (UInt8.ofNat i)
/-- A class behind its opening bracket. -/
def cls (s : List UInt8) : Option (El × List UInt8) :=
  let neg := s.head? == some 33
  let t := if neg then s.tail else s
  match items (t.length + 1) t (fun _ => false) 0 with
  | none => none
  | some (p, k, r) => if k ≠ 0 ∧ some256 (clsSet neg p) = true then some (some (clsSet neg p), r) else none
theorem items_lt : ∀ {n : Nat} {s r : List UInt8} {p q : UInt8 → Bool} {k m : Nat}, items n s p k = some (q, m, r) → r.length < s.length
  | 0, _, _, _, _, _, _, h => by cases h
  | n + 1, [], _, _, _, _, _, h => by cases h
  | n + 1, c :: s, r, p, q, k, m, h => by
    unfold items at h
    split at h
    · simp only [Option.some.injEq, Prod.mk.injEq] at h
      rw [← h.2.2]
      simp
    · split at h
      · cases h
      · rename_i lo hi t ht
        have h1 := items_lt h
        have h2 := item_lt ht
        omega
theorem cls_lt {s r : List UInt8} {e : El} (h : cls s = some (e, r)) : r.length < s.length + 1 := by
  unfold cls at h
  dsimp only at h
  split at h
  · cases h
  · rename_i p k r' hi
    split at h
    · simp only [Option.some.injEq, Prod.mk.injEq] at h
      have h1 := items_lt hi
      rw [← h.2]
      split at h1
      · rw [List.length_tail] at h1
        omega
      · omega
    · cases h
/-- One element. -/
def one : List UInt8 → Option (El × List UInt8)
  | [] => none
  | c :: s => if c = 42 then some (none, s) else if c = 63 then some (some fun b => b != 47, s) else if c = 91 then cls s else
    match plain (c :: s) with
    | none => none
    | some (b, t) => some (some fun x => x == b, t)
theorem one_star (s : List UInt8) : one (42 :: s) = some (none, s) := rfl
theorem one_any (s : List UInt8) : one (63 :: s) = some (some fun b => b != 47, s) := rfl
theorem one_cls (s : List UInt8) : one (91 :: s) = cls s := rfl
theorem one_lit {c : UInt8} (s : List UInt8) (h1 : c ≠ 42) (h2 : c ≠ 63) (h3 : c ≠ 91) : one (c :: s) = (plain (c :: s)).map fun z => (some (fun x => x == z.1), z.2) := by
  show (if c = 42 then _ else _) = _
  rw [if_neg h1, if_neg h2, if_neg h3]
  cases plain (c :: s) <;> rfl
theorem one_lt {s r : List UInt8} {e : El} (h : one s = some (e, r)) : r.length < s.length := by
  cases s with
  | nil => cases h
  | cons c s =>
    by_cases h1 : c = 42
    · subst h1
      rw [one_star] at h
      simp only [Option.some.injEq, Prod.mk.injEq] at h; rw [← h.2]; simp
    by_cases h2 : c = 63
    · subst h2
      rw [one_any] at h
      simp only [Option.some.injEq, Prod.mk.injEq] at h; rw [← h.2]; simp
    by_cases h3 : c = 91
    · subst h3
      exact cls_lt (one_cls s ▸ h)
    rw [one_lit s h1 h2 h3] at h
    cases hp : plain (c :: s) with
    | none => rw [hp] at h; cases h
    | some z =>
      rw [hp] at h
      simp only [Option.map_some, Option.some.injEq, Prod.mk.injEq] at h
      rw [← h.2]
      exact plain_lt hp
/-- The elements of a component pattern. -/
def elems : Nat → List UInt8 → Option (List El)
  | _, [] => some []
  | 0, _ :: _ => none
  | n + 1, c :: s => match one (c :: s) with
    | none => none
    | some (e, r) => (elems n r).map (e :: ·)
/-- More fuel does no harm. -/
theorem elems_fuel : ∀ {n m : Nat} {s : List UInt8}, s.length ≤ n → s.length ≤ m → elems n s = elems m s
  | 0, m, [], _, _ => by cases m <;> rfl
  | n + 1, m, [], _, _ => by cases m <;> rfl
  | 0, m, c :: s, h, _ => by simp at h
  | n + 1, 0, c :: s, _, h => by simp at h
  | n + 1, m + 1, c :: s, h1, h2 => by
    unfold elems
    cases ho : one (c :: s) with
    | none => rfl
    | some z =>
      obtain ⟨e, r⟩ := z
      have := one_lt ho
      simp only [List.length_cons] at h1 h2 this
      dsimp only
      rw [elems_fuel (n := n) (m := m) (s := r) (by omega) (by omega)]
/-- A component pattern: none: two stars. -/
abbrev Cp := Option (List El)
def comp (s : List UInt8) : Option Cp := if s = [] then none else if s = [42, 42] then some none else (elems s.length s).map some
/-- Component patterns. -/
def comps : List (List UInt8) → Option (List Cp)
  | [] => some []
  | s :: r => match comp s with
    | none => none
    | some c => (comps r).map (c :: ·)
theorem comps_nil_mem : ∀ {l : List (List UInt8)}, [] ∈ l → comps l = none
  | [], h => by cases h
  | s :: r, h => by
    unfold comps
    cases hc : comp s with
    | none => rfl
    | some c =>
      rcases List.mem_cons.1 h with h | h
      · rw [← h] at hc
        cases hc
      · dsimp only
        rw [comps_nil_mem h]
        rfl

/-! ### What matches: none stands for anything, some a for one thing that fits a -/
section
variable {α β : Type} {f : α → β → Bool}
def fit (f : α → β → Bool) : List (Option α) → List β → Bool
  | [], [] => true
  | [], _ :: _ => false
  | none :: l, [] => fit f l []
  | some _ :: _, [] => false
  | none :: l, c :: s => fit f l (c :: s) || fit f (none :: l) s
  | some a :: l, c :: s => f a c && fit f l s
termination_by l s => (s.length, l.length)
theorem fit_skip {l : List (Option α)} {s : List β} (h : fit f l s = true) : fit f (none :: l) s = true := by
  cases s with
  | nil => simpa [fit] using h
  | cons c s => simp [fit, h]
theorem drop_at {l : List (Option α)} {i : Nat} {x : Option α} (h : l[i]? = some x) : l.drop i = x :: l.drop (i + 1) := by
  obtain ⟨h1, h2⟩ := List.getElem?_eq_some_iff.1 h
  rw [List.drop_eq_getElem_cons h1, h2]
/-- The states that follow state i at c. -/
def aft (f : α → β → Bool) (l : List (Option α)) (c : β) : Nat → Nat → List Nat
  | 0, _ => []
  | n + 1, i => match l[i]? with
    | none => []
    | some none => i :: aft f l c n (i + 1)
    | some (some a) => if f a c then [i + 1] else []
theorem fit_step {l : List (Option α)} {c : β} {s : List β} : ∀ {n i : Nat}, l.length ≤ i + n → (fit f (l.drop i) (c :: s) = true ↔ ∃ j ∈ aft f l c n i, fit f (l.drop j) s = true)
  | 0, i, h => by
    rw [List.drop_eq_nil_iff.2 (by omega)]
    simp [fit, aft]
  | n + 1, i, h => by
    cases hi : l[i]? with
    | none =>
      rw [List.drop_eq_nil_iff.2 (List.getElem?_eq_none_iff.1 hi)]
      simp [fit, aft, hi]
    | some e =>
      have hd := drop_at hi
      cases e with
      | none =>
        have ih := fit_step (l := l) (c := c) (s := s) (n := n) (i := i + 1) (by omega)
        rw [hd]
        simp only [fit, aft, hi, Bool.or_eq_true, List.mem_cons, exists_eq_or_imp]
        rw [ih, hd]
        exact Or.comm
      | some a =>
        rw [hd]
        simp only [fit, aft, hi, Bool.and_eq_true]
        by_cases hp : f a c = true
        · simp [hp]
        · simp [hp]
theorem aft_le {l : List (Option α)} {c : β} : ∀ {n i j : Nat}, j ∈ aft f l c n i → j ≤ l.length ∧ i ≤ j
  | 0, i, j, h => by cases h
  | n + 1, i, j, h => by
    unfold aft at h
    split at h
    · cases h
    · rename_i hi
      have hl := (List.getElem?_eq_some_iff.1 hi).1
      rcases List.mem_cons.1 h with rfl | h
      · omega
      · have := aft_le h
        omega
    · rename_i p hi
      have hl := (List.getElem?_eq_some_iff.1 hi).1
      split at h
      · obtain rfl := List.mem_singleton.1 h
        omega
      · cases h
/-- From a place on nothing is asked for. -/
def ended (l : List (Option α)) (i : Nat) : Bool := (l.drop i).all Option.isNone
theorem fit_nil : ∀ {l : List (Option α)}, fit f l [] = l.all Option.isNone
  | [] => by simp [fit]
  | none :: l => by simp [fit, fit_nil (l := l)]
  | some p :: l => by simp [fit]

/-! ### Sets of states -/
/-- One of the states matches. -/
def Any (f : α → β → Bool) (l : List (Option α)) (S : Nat → Prop) (s : List β) : Prop := ∃ i, S i ∧ i ≤ l.length ∧ fit f (l.drop i) s = true
theorem Any.start (l : List (Option α)) (s : List β) : fit f l s = true ↔ Any f l (fun i => i = 0) s := by
  constructor
  · intro h
    exact ⟨0, rfl, Nat.zero_le _, by simpa using h⟩
  · rintro ⟨i, rfl, _, h⟩
    simpa using h
theorem Any.congr {l : List (Option α)} {S T : Nat → Prop} {s : List β} (h : ∀ i, S i ↔ T i) : Any f l S s ↔ Any f l T s := by
  unfold Any
  simp only [h]
theorem Any.step {l : List (Option α)} {S T : Nat → Prop} {c : β} {s : List β} (h : ∀ j, T j ↔ ∃ i, S i ∧ j ∈ aft f l c l.length i) : Any f l S (c :: s) ↔ Any f l T s := by
  constructor
  · rintro ⟨i, hi, _, hf⟩
    obtain ⟨j, hj, hg⟩ := (fit_step (n := l.length) (by omega)).1 hf
    exact ⟨j, (h j).2 ⟨i, hi, hj⟩, (aft_le hj).1, hg⟩
  · rintro ⟨j, hj, _, hg⟩
    obtain ⟨i, hi, hm⟩ := (h j).1 hj
    have := aft_le hm
    exact ⟨i, hi, by omega, (fit_step (n := l.length) (by omega)).2 ⟨j, hm, hg⟩⟩
theorem Any.ends {l : List (Option α)} {S : Nat → Prop} : Any f l S [] ↔ ∃ i, S i ∧ i ≤ l.length ∧ ended l i = true := by
  unfold Any ended
  simp only [fit_nil]
/-- What is reached by leaving out. -/
def Clo (l : List (Option α)) (S : Nat → Prop) (j : Nat) : Prop := ∃ i, S i ∧ i ≤ j ∧ ∀ m, i ≤ m → m < j → l[m]? = some none
theorem Clo.self {l : List (Option α)} {S : Nat → Prop} {i : Nat} (h : S i) : Clo l S i := ⟨i, h, Nat.le_refl _, fun m h1 h2 => by omega⟩
theorem Clo.next {l : List (Option α)} {S : Nat → Prop} {i : Nat} (h : Clo l S i) (hi : l[i]? = some none) : Clo l S (i + 1) := by
  obtain ⟨k, hk, hle, hm⟩ := h
  refine ⟨k, hk, by omega, fun m h1 h2 => ?_⟩
  by_cases e : m = i
  · rw [e, hi]
  · exact hm m h1 (by omega)
theorem Clo.le {l : List (Option α)} {S : Nat → Prop} (hS : ∀ i, S i → i ≤ l.length) {j : Nat} (h : Clo l S j) : j ≤ l.length := by
  obtain ⟨k, hk, hle, hm⟩ := h
  by_cases e : k = j
  · rw [← e]; exact hS k hk
  · have := (List.getElem?_eq_some_iff.1 (hm (j - 1) (by omega) (by omega))).1
    omega
theorem fit_back {l : List (Option α)} {s : List β} : ∀ {n i j : Nat}, j = i + n → (∀ m, i ≤ m → m < j → l[m]? = some none) → fit f (l.drop j) s = true → fit f (l.drop i) s = true
  | 0, i, j, e, _, h => by
    have : j = i := by omega
    rwa [← this]
  | n + 1, i, j, e, hm, h => by
    rw [drop_at (hm i (Nat.le_refl _) (by omega))]
    exact fit_skip (fit_back (n := n) (i := i + 1) (j := j) (by omega) (fun m h1 h2 => hm m (by omega) h2) h)
theorem Any.clo {l : List (Option α)} {S : Nat → Prop} (hS : ∀ i, S i → i ≤ l.length) {s : List β} : Any f l (Clo l S) s ↔ Any f l S s := by
  constructor
  · rintro ⟨j, ⟨i, hi, hle, hm⟩, _, hf⟩
    exact ⟨i, hi, hS i hi, fit_back (n := j - i) (by omega) hm hf⟩
  · rintro ⟨i, hi, hl, hf⟩
    exact ⟨i, Clo.self hi, hl, hf⟩
/-- One step of a closed set. -/
def Nxt (f : α → β → Bool) (l : List (Option α)) (S : Nat → Prop) (c : β) (j : Nat) : Prop := (S j ∧ l[j]? = some none) ∨ ∃ k a, j = k + 1 ∧ S k ∧ l[k]? = some (some a) ∧ f a c = true
theorem Nxt.le {l : List (Option α)} {S : Nat → Prop} {c : β} {j : Nat} (h : Nxt f l S c j) : j ≤ l.length := by
  rcases h with ⟨_, h⟩ | ⟨k, a, rfl, _, h, _⟩
  · have := (List.getElem?_eq_some_iff.1 h).1
    omega
  · have := (List.getElem?_eq_some_iff.1 h).1
    omega
theorem Any.nxt {l : List (Option α)} {S : Nat → Prop} {c : β} {s : List β} (hc : ∀ i, S i → l[i]? = some none → S (i + 1)) : Any f l S (c :: s) ↔ Any f l (Nxt f l S c) s := by
  constructor
  · rintro ⟨i, hi, hl, hf⟩
    have key : ∀ n i, l.length = i + n → S i → fit f (l.drop i) (c :: s) = true → Any f l (Nxt f l S c) s := by
      intro n
      induction n with
      | zero =>
        intro i e _ hf
        rw [List.drop_eq_nil_iff.2 (by omega)] at hf
        simp [fit] at hf
      | succ n ih =>
        intro i e hi hf
        have hx : l[i]? = some l[i] := List.getElem?_eq_getElem (by omega)
        generalize l[i] = x at hx
        rw [drop_at hx] at hf
        cases x with
        | none =>
          simp only [fit, Bool.or_eq_true] at hf
          rcases hf with hf | hf
          · exact ih (i + 1) (by omega) (hc i hi hx) hf
          · exact ⟨i, .inl ⟨hi, hx⟩, by omega, by rw [drop_at hx]; exact hf⟩
        | some a =>
          simp only [fit, Bool.and_eq_true] at hf
          exact ⟨i + 1, .inr ⟨i, a, rfl, hi, hx, hf.1⟩, by omega, hf.2⟩
    exact key (l.length - i) i (by omega) hi hf
  · rintro ⟨j, hj, hl, hf⟩
    rcases hj with ⟨h1, h2⟩ | ⟨k, a, rfl, h1, h2, h3⟩
    · refine ⟨j, h1, hl, ?_⟩
      rw [drop_at h2] at hf ⊢
      simp [fit, hf]
    · refine ⟨k, h1, by omega, ?_⟩
      rw [drop_at h2]
      simp [fit, h3, hf]
theorem Any.last {l : List (Option α)} {S : Nat → Prop} (hc : ∀ i, S i → l[i]? = some none → S (i + 1)) : Any f l S [] ↔ S l.length := by
  rw [Any.ends]
  constructor
  · rintro ⟨i, hi, hl, he⟩
    have key : ∀ n i, l.length = i + n → S i → ended l i = true → S l.length := by
      intro n
      induction n with
      | zero => intro i e hi _; rw [e]; exact hi
      | succ n ih =>
        intro i e hi he
        have hx : l[i]? = some l[i] := List.getElem?_eq_getElem (by omega)
        generalize l[i] = x at hx
        unfold ended at he
        rw [drop_at hx, List.all_cons, Bool.and_eq_true] at he
        cases x with
        | none => exact ih (i + 1) (by omega) (hc i hi hx) he.2
        | some a => cases he.1
    exact key (l.length - i) i (by omega) hi he
  · intro h
    exact ⟨l.length, h, Nat.le_refl _, by unfold ended; simp⟩

/-! ### The reference's rows of states -/
/-- Nothing is asked for here. -/
def wild (l : List (Option α)) (k : Nat) : Bool := match l[k]? with
  | some none => true
  | _ => false
theorem wild_iff {l : List (Option α)} {k : Nat} : wild l k = true ↔ l[k]? = some none := by
  unfold wild
  split
  · rename_i h; simp [h]
  · rename_i h
    constructor
    · intro k; cases k
    · intro k; exact (h k).elim
/-- Places below k are closed, in place. -/
def closeTo (l : List (Option α)) (now : List Bool) : Nat → List Bool
  | 0 => now
  | k + 1 => if ((closeTo l now k).getD k false && wild l k) = true then (closeTo l now k).set (k + 1) true else closeTo l now k
/-- The row of the states behind c, from the places below k. -/
def nextTo (f : α → β → Bool) (l : List (Option α)) (now : List Bool) (c : β) : Nat → List Bool
  | 0 => List.replicate (l.length + 1) false
  | k + 1 => match l[k]? with
    | some none => if now.getD k false then (nextTo f l now c k).set k true else nextTo f l now c k
    | some (some a) => if now.getD k false && f a c then (nextTo f l now c k).set (k + 1) true else nextTo f l now c k
    | none => nextTo f l now c k
def On (now : List Bool) (i : Nat) : Prop := now.getD i false = true
theorem closeTo_length (l : List (Option α)) (now : List Bool) : ∀ k, (closeTo l now k).length = now.length
  | 0 => rfl
  | k + 1 => by
    have ih := closeTo_length l now k
    show (if ((closeTo l now k).getD k false && wild l k) = true then (closeTo l now k).set (k + 1) true else closeTo l now k).length = _
    split
    · rw [List.length_set, ih]
    · exact ih
theorem nextTo_length (l : List (Option α)) (now : List Bool) (c : β) : ∀ k, (nextTo f l now c k).length = l.length + 1
  | 0 => by simp [nextTo]
  | k + 1 => by
    unfold nextTo
    have := nextTo_length l now c k
    split
    · split
      · rw [List.length_set, this]
      · exact this
    · split
      · rw [List.length_set, this]
      · exact this
    · exact this
theorem on_set {now : List Bool} {i j : Nat} (hj : j < now.length) : On (now.set j true) i ↔ On now i ∨ i = j := by
  unfold On
  rw [List.getD_eq_getElem?_getD, List.getD_eq_getElem?_getD, List.getElem?_set]
  by_cases e : j = i
  · subst e
    simp [hj]
  · have : ¬ i = j := fun h => e h.symm
    simp [e, this]
theorem closeTo_on {l : List (Option α)} {now : List Bool} (hl : now.length = l.length + 1) : ∀ k, k ≤ l.length → ∀ j, On (closeTo l now k) j ↔ ∃ i, On now i ∧ i ≤ j ∧ (i = j ∨ j ≤ k) ∧ ∀ m, i ≤ m → m < j → l[m]? = some none
  | 0, _, j => by
    constructor
    · intro h
      exact ⟨j, h, Nat.le_refl _, .inl rfl, fun m h1 h2 => by omega⟩
    · rintro ⟨i, h, h1, h2, _⟩
      obtain rfl : i = j := by omega
      exact h
  | k + 1, hk, j => by
    have ih := closeTo_on (l := l) hl k (by omega)
    have hln := closeTo_length l now k
    show On (if ((closeTo l now k).getD k false && wild l k) = true then (closeTo l now k).set (k + 1) true else closeTo l now k) j ↔ _
    by_cases h0 : ((closeTo l now k).getD k false && wild l k) = true
    · rw [if_pos h0, on_set (by omega), ih j]
      rw [Bool.and_eq_true, wild_iff] at h0
      constructor
      · rintro (⟨i, h1, h2, h3, h4⟩ | rfl)
        · exact ⟨i, h1, h2, by omega, h4⟩
        · obtain ⟨i, h1, h2, h3, h4⟩ := (ih k).1 h0.1
          refine ⟨i, h1, by omega, .inr (Nat.le_refl _), fun m g1 g2 => ?_⟩
          by_cases e : m = k
          · rw [e]; exact h0.2
          · exact h4 m g1 (by omega)
      · rintro ⟨i, h1, h2, h3, h4⟩
        by_cases e : j = k + 1
        · exact .inr e
        · exact .inl ⟨i, h1, h2, by omega, h4⟩
    · rw [if_neg h0, ih j]
      rw [Bool.and_eq_true, wild_iff] at h0
      constructor
      · rintro ⟨i, h1, h2, h3, h4⟩
        exact ⟨i, h1, h2, by omega, h4⟩
      · rintro ⟨i, h1, h2, h3, h4⟩
        refine ⟨i, h1, h2, ?_, h4⟩
        by_cases e : i = j
        · exact .inl e
        · right
          by_cases e2 : j = k + 1
          · exfalso
            refine h0 ⟨?_, h4 k (by omega) (by omega)⟩
            exact (ih k).2 ⟨i, h1, by omega, .inr (Nat.le_refl _), fun m g1 g2 => h4 m g1 (by omega)⟩
          · omega
theorem close_on {l : List (Option α)} {now : List Bool} (hl : now.length = l.length + 1) (j : Nat) : On (closeTo l now l.length) j ↔ Clo l (On now) j := by
  rw [closeTo_on hl l.length (Nat.le_refl _)]
  constructor
  · rintro ⟨i, h1, h2, _, h4⟩
    exact ⟨i, h1, h2, h4⟩
  · rintro ⟨i, h1, h2, h4⟩
    refine ⟨i, h1, h2, ?_, h4⟩
    by_cases e : i = j
    · exact .inl e
    · have := (List.getElem?_eq_some_iff.1 (h4 (j - 1) (by omega) (by omega))).1
      omega
theorem nextTo_on {l : List (Option α)} {now : List Bool} {c : β} : ∀ k, k ≤ l.length → ∀ j, On (nextTo f l now c k) j ↔ (j < k ∧ On now j ∧ l[j]? = some none) ∨ ∃ m a, j = m + 1 ∧ m < k ∧ On now m ∧ l[m]? = some (some a) ∧ f a c = true
  | 0, _, j => by
    have h0 : ¬ On (nextTo f l now c 0) j := by
      unfold On nextTo
      rw [List.getD_eq_getElem?_getD, List.getElem?_replicate]
      split <;> simp
    constructor
    · intro h; exact (h0 h).elim
    · rintro (⟨h, _⟩ | ⟨m, a, _, h, _⟩) <;> omega
  | k + 1, hk, j => by
    have ih := nextTo_on (l := l) (now := now) (c := c) k (by omega) j
    have hln := nextTo_length (f := f) l now c k
    have hx : l[k]? = some l[k] := List.getElem?_eq_getElem (by omega)
    generalize l[k] = x at hx
    have hu : nextTo f l now c (k + 1) = match (some x : Option (Option α)) with
      | some none => if now.getD k false then (nextTo f l now c k).set k true else nextTo f l now c k
      | some (some a) => if now.getD k false && f a c then (nextTo f l now c k).set (k + 1) true else nextTo f l now c k
      | none => nextTo f l now c k := by rw [← hx]; rfl
    rw [hu]
    cases x with
    | none =>
      dsimp only
      by_cases h0 : now.getD k false = true
      · rw [if_pos h0, on_set (by omega), ih]
        constructor
        · rintro ((⟨h1, h2, h3⟩ | ⟨m, a, h1, h2, h3, h4, h5⟩) | rfl)
          · exact .inl ⟨by omega, h2, h3⟩
          · exact .inr ⟨m, a, h1, by omega, h3, h4, h5⟩
          · exact .inl ⟨by omega, h0, hx⟩
        · rintro (⟨h1, h2, h3⟩ | ⟨m, a, h1, h2, h3, h4, h5⟩)
          · by_cases e : j = k
            · exact .inr e
            · exact .inl (.inl ⟨by omega, h2, h3⟩)
          · by_cases e : m = k
            · subst e
              rw [hx] at h4
              cases h4
            · exact .inl (.inr ⟨m, a, h1, by omega, h3, h4, h5⟩)
      · rw [if_neg h0, ih]
        constructor
        · rintro (⟨h1, h2, h3⟩ | ⟨m, a, h1, h2, h3, h4, h5⟩)
          · exact .inl ⟨by omega, h2, h3⟩
          · exact .inr ⟨m, a, h1, by omega, h3, h4, h5⟩
        · rintro (⟨h1, h2, h3⟩ | ⟨m, a, h1, h2, h3, h4, h5⟩)
          · refine .inl ⟨?_, h2, h3⟩
            by_cases e : j = k
            · subst e; exact (h0 h2).elim
            · omega
          · by_cases e : m = k
            · subst e
              rw [hx] at h4
              cases h4
            · exact .inr ⟨m, a, h1, by omega, h3, h4, h5⟩
    | some b =>
      dsimp only
      by_cases h0 : (now.getD k false && f b c) = true
      · rw [if_pos h0, on_set (by omega), ih]
        rw [Bool.and_eq_true] at h0
        constructor
        · rintro ((⟨h1, h2, h3⟩ | ⟨m, a, h1, h2, h3, h4, h5⟩) | rfl)
          · exact .inl ⟨by omega, h2, h3⟩
          · exact .inr ⟨m, a, h1, by omega, h3, h4, h5⟩
          · exact .inr ⟨k, b, rfl, by omega, h0.1, hx, h0.2⟩
        · rintro (⟨h1, h2, h3⟩ | ⟨m, a, h1, h2, h3, h4, h5⟩)
          · by_cases e : j = k
            · subst e
              rw [hx] at h3
              cases h3
            · exact .inl (.inl ⟨by omega, h2, h3⟩)
          · by_cases e : m = k
            · subst e
              exact .inr h1
            · exact .inl (.inr ⟨m, a, h1, by omega, h3, h4, h5⟩)
      · rw [if_neg h0, ih]
        rw [Bool.and_eq_true, not_and] at h0
        constructor
        · rintro (⟨h1, h2, h3⟩ | ⟨m, a, h1, h2, h3, h4, h5⟩)
          · exact .inl ⟨by omega, h2, h3⟩
          · exact .inr ⟨m, a, h1, by omega, h3, h4, h5⟩
        · rintro (⟨h1, h2, h3⟩ | ⟨m, a, h1, h2, h3, h4, h5⟩)
          · refine .inl ⟨?_, h2, h3⟩
            by_cases e : j = k
            · subst e
              rw [hx] at h3
              cases h3
            · omega
          · by_cases e : m = k
            · subst e
              rw [hx] at h4
              obtain rfl := Option.some.inj (Option.some.inj h4)
              exact (h0 h3 h5).elim
            · exact .inr ⟨m, a, h1, by omega, h3, h4, h5⟩
theorem next_on {l : List (Option α)} {now : List Bool} {c : β} (j : Nat) : On (nextTo f l now c l.length) j ↔ Nxt f l (On now) c j := by
  rw [nextTo_on l.length (Nat.le_refl _)]
  unfold Nxt
  constructor
  · rintro (⟨_, h2, h3⟩ | ⟨m, a, h1, h2, h3, h4, h5⟩)
    · exact .inl ⟨h2, h3⟩
    · exact .inr ⟨m, a, h1, h3, h4, h5⟩
  · rintro (⟨h2, h3⟩ | ⟨m, a, h1, h3, h4, h5⟩)
    · exact .inl ⟨(List.getElem?_eq_some_iff.1 h3).1, h2, h3⟩
    · exact .inr ⟨m, a, h1, (List.getElem?_eq_some_iff.1 h4).1, h3, h4, h5⟩
/-- The row behind a list. -/
def rowAt (f : α → β → Bool) (l : List (Option α)) : List β → List Bool → List Bool
  | [], now => closeTo l now l.length
  | c :: s, now => rowAt f l s (nextTo f l (closeTo l now l.length) c l.length)
def row0 (n : Nat) : List Bool := (List.replicate (n + 1) false).set 0 true
theorem row0_on (n i : Nat) : On (row0 n) i ↔ i = 0 := by
  unfold row0
  rw [on_set (by simp)]
  have : ¬ On (List.replicate (n + 1) false) i := by
    unfold On
    rw [List.getD_eq_getElem?_getD, List.getElem?_replicate]
    split <;> simp
  simp [this]
theorem on_le {now : List Bool} {n i : Nat} (hl : now.length = n + 1) (h : On now i) : i ≤ n := by
  unfold On at h
  rw [List.getD_eq_getElem?_getD] at h
  by_cases hi : i < now.length
  · omega
  · rw [List.getElem?_eq_none (by omega)] at h
    cases h
theorem rowAt_any (l : List (Option α)) : ∀ (s : List β) (now : List Bool), now.length = l.length + 1 → (On (rowAt f l s now) l.length ↔ Any f l (On now) s)
  | [], now, hl => by
    show On (closeTo l now l.length) l.length ↔ _
    have hclo : ∀ i, Clo l (On now) i → l[i]? = some none → Clo l (On now) (i + 1) := fun i h1 h2 => h1.next h2
    rw [close_on hl, ← Any.last (f := f) hclo, Any.clo (fun i => on_le hl)]
  | c :: s, now, hl => by
    show On (rowAt f l s _) l.length ↔ _
    rw [rowAt_any l s _ (nextTo_length _ _ _ _), Any.congr next_on]
    have hcl : ∀ i, On (closeTo l now l.length) i ↔ Clo l (On now) i := close_on hl
    rw [← Any.nxt (fun i h1 h2 => (hcl _).2 (((hcl i).1 h1).next h2)), Any.congr hcl, Any.clo (fun i => on_le hl)]
/-- The reference's way to match. -/
theorem row_fit (l : List (Option α)) (s : List β) : (rowAt f l s (row0 l.length)).getD l.length false = fit f l s := by
  rw [Bool.eq_iff_iff]
  exact (rowAt_any l s _ (by simp [row0])).trans ((Any.congr (row0_on _)).trans (Any.start l s).symm)
end
/-- Does a pattern match a component; does a glob match components? -/
def fitE (e : List El) (s : List UInt8) : Bool := fit (fun (p : UInt8 → Bool) c => p c) e s
def fitG (g : List Cp) (l : List (List UInt8)) : Bool := fit fitE g l
end Gl
end Go.Proofs.YtnjcifppkijanaaGreatDoor
namespace Go.Proofs.YtnjcifppkijanaaGreatDoor
open Go
namespace Ig

structure Ru where
  neg : Bool
  dirOnly : Bool
  anch : Bool
  glob : ByteArray
structure Fi where
  dir : ByteArray
  rules : List Ru
def bs (l : List UInt8) : ByteArray := ⟨⟨l⟩⟩
theorem bs_list (s : ByteArray) : bs s.data.toList = s := rfl
theorem list_bs (l : List UInt8) : (bs l).data.toList = l := rfl
def glue (x : UInt8) : List (List UInt8) → List (List UInt8)
  | [] => [[x]]
  | l :: r => (x :: l) :: r
/-- The pieces between the bytes c. -/
def cut (c : UInt8) : List UInt8 → List (List UInt8)
  | [] => [[]]
  | x :: s => if x = c then [] :: cut c s else glue x (cut c s)
theorem cut_hit (c : UInt8) (s : List UInt8) : cut c (c :: s) = [] :: cut c s := by
  show (if c = c then _ else _) = _
  rw [if_pos rfl]
theorem cut_miss {c x : UInt8} (h : x ≠ c) (s : List UInt8) : cut c (x :: s) = glue x (cut c s) := by
  show (if x = c then _ else _) = _
  rw [if_neg h]
theorem cut_ne (c : UInt8) : ∀ s, cut c s ≠ []
  | [] => by simp [cut]
  | x :: s => by
    by_cases h : x = c
    · subst h
      rw [cut_hit]
      simp
    · rw [cut_miss h]
      cases cut c s <;> simp [glue]
theorem cut_app {c : UInt8} : ∀ {a : List UInt8} (s : List UInt8), c ∉ a → cut c (a ++ c :: s) = a :: cut c s
  | [], s, _ => cut_hit c s
  | x :: a, s, h => by
    have h1 : x ≠ c := fun e => h (by simp [e])
    rw [List.cons_append, cut_miss h1, cut_app s (fun k => h (List.mem_cons_of_mem _ k))]
    rfl
theorem cut_none {c : UInt8} : ∀ {a : List UInt8}, c ∉ a → cut c a = [a]
  | [], _ => rfl
  | x :: a, h => by
    have h1 : x ≠ c := fun e => h (by simp [e])
    rw [cut_miss h1, cut_none (fun k => h (List.mem_cons_of_mem _ k))]
    rfl
theorem glue_length (x : UInt8) {l : List (List UInt8)} (h : l ≠ []) : (glue x l).length = l.length := by
  cases l with
  | nil => exact (h rfl).elim
  | cons a r => rfl
theorem cut_length (c : UInt8) : ∀ s : List UInt8, (cut c s).length = s.count c + 1
  | [] => rfl
  | x :: s => by
    have ih := cut_length c s
    by_cases h : x = c
    · subst h
      rw [cut_hit, List.length_cons, ih, List.count_cons_self]
    · rw [List.count_cons_of_ne h, ← ih, cut_miss h, glue_length x (cut_ne c s)]
theorem cut_mem {c : UInt8} : ∀ {s l : List UInt8}, l ∈ cut c s → c ∉ l
  | [], l, h => by
    obtain rfl : l = [] := by simpa [cut] using h
    simp
  | x :: s, l, h => by
    by_cases hx : x = c
    · subst hx
      rw [cut_hit] at h
      rcases List.mem_cons.1 h with rfl | h
      · simp
      · exact cut_mem h
    · rw [cut_miss hx] at h
      cases hc : cut c s with
      | nil => exact (cut_ne c s hc).elim
      | cons a r =>
        rw [hc] at h
        have ha := cut_mem (c := c) (s := s) (l := a) (by rw [hc]; simp)
        rcases List.mem_cons.1 h with rfl | h
        · intro k
          rcases List.mem_cons.1 k with k | k
          · exact hx k.symm
          · exact ha k
        · exact cut_mem (s := s) (by rw [hc]; exact List.mem_cons_of_mem _ h)
theorem cut_end (c : UInt8) : ∀ a : List UInt8, cut c (a ++ [c]) = cut c a ++ [[]]
  | [] => by
    rw [List.nil_append, cut_hit]
    rfl
  | x :: a => by
    rw [List.cons_append]
    by_cases h : x = c
    · subst h
      rw [cut_hit, cut_hit, cut_end x a]
      rfl
    · rw [cut_miss h, cut_miss h, cut_end c a]
      cases hc : cut c a with
      | nil => exact (cut_ne c a hc).elim
      | cons l r => rfl
/-- Is it a glob? 0, or why not. -/
def gcheck (g : List UInt8) : Int := if 200 < g.length then 4 else if (Gl.comps (cut 47 g)).isSome then 0 else 3
def cutP (c : UInt8) : List UInt8 → List UInt8 × Bool
  | [] => ([], false)
  | x :: s => if x = c then (s, true) else (x :: s, false)
def cutS (c : UInt8) (l : List UInt8) : List UInt8 × Bool := if l.getLast? = some c then (l.dropLast, true) else (l, false)
def deep (g : List UInt8) : Bool := g.contains 47
def marked (g : List UInt8) : Bool := g.head? == some 35 || g.head? == some 33
def rule (line : List UInt8) : Ru :=
  let a := cutP 33 line
  let b := cutP 47 a.1
  let g := cutS 47 b.1
  ⟨a.2, g.2, b.2 || deep g.1, bs g.1⟩
def lineErr (x : Ru) (n : Nat) : Int := if gcheck x.glob.data.toList ≠ 0 then gcheck x.glob.data.toList else if marked x.glob.data.toList = true then 3 else if n = 100 then 4 else 0
def parseTo : List (List UInt8) → Nat → List Ru → List Ru × Int × Int
  | [], _, out => (out, 0, 0)
  | line :: r, n, out => if line = [] ∨ line.head? = some 35 then parseTo r (n + 1) out else
    if lineErr (rule line) out.length ≠ 0 then ([], n + 1, lineErr (rule line) out.length) else parseTo r (n + 1) (out ++ [rule line])
def parse (s : List UInt8) : List Ru × Int × Int := parseTo (cut 10 s) 0 []
def ruleErr (r : Ru) : Int := if gcheck r.glob.data.toList ≠ 0 then gcheck r.glob.data.toList else if (marked r.glob.data.toList || r.glob.data.toList.contains 10 || (!r.anch && deep r.glob.data.toList)) = true then 1 else 0
def opt (c : UInt8) : Bool → List UInt8
  | true => [c]
  | false => []
def body (r : Ru) : List UInt8 := opt 33 r.neg ++ (opt 47 (r.anch && !deep r.glob.data.toList) ++ (r.glob.data.toList ++ opt 47 r.dirOnly))
def rulesErr : List Ru → Int
  | [] => 0
  | r :: l => if ruleErr r ≠ 0 then ruleErr r else rulesErr l
def print (l : List Ru) : List UInt8 × Int := if 100 < l.length then ([], 4) else if rulesErr l ≠ 0 then ([], rulesErr l) else (l.flatMap (fun r => body r ++ [10]), 0)
/-! ### A glob that is one -/
theorem gcheck_zero {g : List UInt8} (h : gcheck g = 0) : g.length ≤ 200 ∧ [] ∉ cut 47 g := by
  unfold gcheck at h
  split at h
  · cases h
  · rename_i h1
    refine ⟨by omega, fun k => ?_⟩
    rw [Gl.comps_nil_mem k] at h
    cases h
theorem glob_ne {g : List UInt8} (h : gcheck g = 0) : g ≠ [] := fun e => by
  subst e
  exact (gcheck_zero h).2 (by simp [cut])
theorem glob_head {g : List UInt8} (h : gcheck g = 0) : g.head? ≠ some 47 := fun e => by
  cases g with
  | nil => cases e
  | cons x g =>
    obtain rfl : x = 47 := by simpa using e
    exact (gcheck_zero h).2 (by rw [cut_hit]; simp)
theorem glob_last {g : List UInt8} (h : gcheck g = 0) : g.getLast? ≠ some 47 := fun e => by
  have : g = g.dropLast ++ [47] := by
    have h0 := glob_ne h
    rw [List.getLast?_eq_some_getLast h0] at e
    have := List.dropLast_concat_getLast h0
    rw [Option.some.inj e] at this
    exact this.symm
  refine (gcheck_zero h).2 ?_
  rw [this, cut_end]
  simp
theorem ruleErr_zero {r : Ru} (h : ruleErr r = 0) : gcheck r.glob.data.toList = 0 ∧ marked r.glob.data.toList = false ∧ 10 ∉ r.glob.data.toList ∧ (deep r.glob.data.toList = true → r.anch = true) := by
  unfold ruleErr at h
  split at h
  · rename_i h1; exact (h1 h).elim
  · rename_i h1
    split at h
    · cases h
    · rename_i h2
      simp only [Bool.or_eq_true, Bool.and_eq_true, Bool.not_eq_true', not_or, Bool.not_eq_true, List.contains_iff_mem] at h2
      refine ⟨by simpa using h1, h2.1.1, h2.1.2, fun hd => ?_⟩
      cases ha : r.anch
      · exact (h2.2 ⟨ha, hd⟩).elim
      · rfl
theorem rulesErr_zero : ∀ {l : List Ru}, rulesErr l = 0 ↔ ∀ r ∈ l, ruleErr r = 0
  | [] => by simp [rulesErr]
  | r :: l => by
    unfold rulesErr
    by_cases h : ruleErr r = 0
    · rw [if_neg (by simpa using h), rulesErr_zero]
      simp [h]
    · rw [if_pos h]
      simp [h]
theorem cutP_miss {c : UInt8} {l : List UInt8} (h : l.head? ≠ some c) : cutP c l = (l, false) := by
  cases l with
  | nil => rfl
  | cons x l =>
    show (if x = c then _ else _) = _
    rw [if_neg (fun e => h (by simp [e]))]
theorem cutP_hit (c : UInt8) (l : List UInt8) : cutP c (c :: l) = (l, true) := by
  show (if c = c then _ else _) = _
  rw [if_pos rfl]
theorem cutS_miss {c : UInt8} {l : List UInt8} (h : l.getLast? ≠ some c) : cutS c l = (l, false) := if_neg h
theorem cutS_hit (c : UInt8) (l : List UInt8) : cutS c (l ++ [c]) = (l, true) := by
  unfold cutS
  rw [if_pos (by simp), List.dropLast_concat]
/-- A rule's line yields the rule. -/
theorem rule_body {r : Ru} (h : ruleErr r = 0) : rule (body r) = r ∧ body r ≠ [] ∧ (body r).head? ≠ some 35 ∧ 10 ∉ body r := by
  obtain ⟨h1, h2, h3, h4⟩ := ruleErr_zero h
  have g0 := glob_ne h1
  have g1 := glob_head h1
  have g2 := glob_last h1
  obtain ⟨neg, dirOnly, anch, glob⟩ := r
  dsimp only at h1 h2 h3 h4 g0 g1 g2
  have hg : glob = bs glob.data.toList := rfl
  generalize glob.data.toList = g at *
  subst hg
  unfold marked at h2
  simp only [Bool.or_eq_false_iff, beq_eq_false_iff_ne] at h2
  -- behind the marks
  have hS : cutS 47 (g ++ opt 47 dirOnly) = (g, dirOnly) := by
    cases dirOnly
    · show cutS 47 (g ++ []) = _
      rw [List.append_nil]
      exact cutS_miss g2
    · exact cutS_hit 47 g
  obtain ⟨x, t, rfl⟩ : ∃ x t, g = x :: t := by
    cases g with
    | nil => exact (g0 rfl).elim
    | cons x t => exact ⟨x, t, rfl⟩
  simp only [List.head?_cons, ne_eq, Option.some.injEq] at g1 h2
  have hA : ∀ pre : Bool, cutP 47 (opt 47 pre ++ ((x :: t) ++ opt 47 dirOnly)) = ((x :: t) ++ opt 47 dirOnly, pre) := by
    intro pre
    cases pre
    · exact cutP_miss (l := x :: (t ++ opt 47 dirOnly)) (fun e => g1 (Option.some.inj e))
    · exact cutP_hit 47 _
  have hN : ∀ pre : Bool, cutP 33 (opt 33 neg ++ (opt 47 pre ++ ((x :: t) ++ opt 47 dirOnly))) = (opt 47 pre ++ ((x :: t) ++ opt 47 dirOnly), neg) := by
    intro pre
    cases neg
    · cases pre
      · exact cutP_miss (l := x :: (t ++ opt 47 dirOnly)) (fun e => h2.2 (Option.some.inj e))
      · exact cutP_miss (l := 47 :: _) (by simp)
    · exact cutP_hit 33 _
  refine ⟨?_, ?_, ?_, ?_⟩
  · unfold rule body
    simp only [list_bs]
    rw [hN]
    dsimp only
    rw [hA]
    dsimp only
    rw [hS]
    dsimp only
    congr 1
    cases hd : deep (x :: t)
    · simp
    · simp [h4 hd]
  · unfold body
    simp [list_bs]
  · unfold body
    simp only [list_bs]
    generalize (anch && !deep (x :: t)) = pre
    cases neg
    · cases pre
      · exact fun e => h2.1 (Option.some.inj e)
      · simp [opt]
    · simp [opt]
  · unfold body
    simp only [list_bs, List.mem_append, not_or]
    have ho : ∀ (c : UInt8) (b : Bool), c ≠ 10 → 10 ∉ opt c b := by
      intro c b hc
      cases b
      · simp [opt]
      · simp [opt]
        exact fun e => hc e.symm
    exact ⟨ho _ _ (by decide), ho _ _ (by decide), h3, ho _ _ (by decide)⟩
theorem parseTo_texts : ∀ {l out : List Ru} {n : Nat} {tail : List (List UInt8)}, (∀ r ∈ l, ruleErr r = 0) → out.length + l.length ≤ 100 → parseTo (l.map body ++ tail) n out = parseTo tail (n + l.length) (out ++ l)
  | [], out, n, tail, _, _ => by simp
  | r :: l, out, n, tail, h, hl => by
    obtain ⟨h1, h2, h3, h4⟩ := rule_body (h r (List.mem_cons_self ..))
    obtain ⟨k1, k2, k3, k4⟩ := ruleErr_zero (h r (List.mem_cons_self ..))
    rw [List.length_cons] at hl
    have he : lineErr (rule (body r)) out.length = 0 := by
      rw [h1]
      unfold lineErr
      rw [if_neg (by simpa using k1), if_neg (by rw [k2]; simp), if_neg (by omega)]
    have := parseTo_texts (l := l) (out := out ++ [r]) (n := n + 1) (tail := tail) (fun x hx => h x (List.mem_cons_of_mem _ hx)) (by rw [List.length_append, List.length_singleton]; omega)
    have h5 : parseTo (body r :: (l.map body ++ tail)) n out = parseTo (l.map body ++ tail) (n + 1) (out ++ [r]) := by
      show (if body r = [] ∨ (body r).head? = some 35 then _ else if lineErr (rule (body r)) out.length ≠ 0 then _ else _) = _
      rw [if_neg (by rintro (k | k); exact h2 k; exact h3 k), if_neg (by simpa using he), h1]
    rw [List.map_cons, List.cons_append, h5, this, List.length_cons, List.append_assoc, Nat.add_assoc, Nat.add_comm 1]
    rfl
theorem cut_texts : ∀ {l : List Ru}, (∀ r ∈ l, ruleErr r = 0) → cut 10 (l.flatMap fun r => body r ++ [10]) = l.map body ++ [[]]
  | [], _ => rfl
  | r :: l, h => by
    rw [List.flatMap_cons, List.append_assoc, List.singleton_append, cut_app _ (rule_body (h r (List.mem_cons_self ..))).2.2.2, cut_texts (fun x hx => h x (List.mem_cons_of_mem _ hx))]
    rfl
theorem print_ok {l : List Ru} (h : (print l).2 = 0) : l.length ≤ 100 ∧ (∀ r ∈ l, ruleErr r = 0) ∧ (print l).1 = l.flatMap fun r => body r ++ [10] := by
  unfold print at h ⊢
  by_cases h1 : 100 < l.length
  · rw [if_pos h1] at h; cases h
  rw [if_neg h1] at h ⊢
  by_cases h2 : rulesErr l ≠ 0
  · rw [if_pos h2] at h; exact (h2 h).elim
  rw [if_neg h2]
  exact ⟨by omega, rulesErr_zero.1 (by simpa using h2), rfl⟩
/-- THE LAW OF IgnoreTexts, from rules. -/
theorem texts_of_rules {l : List Ru} (h : (print l).2 = 0) : parse (print l).1 = (l, 0, 0) ∧ (print l).1.count 10 = l.length := by
  obtain ⟨h1, h2, h3⟩ := print_ok h
  have hc := cut_texts h2
  rw [h3]
  refine ⟨?_, ?_⟩
  · unfold parse
    rw [hc, parseTo_texts h2 (by simpa using h1)]
    simp [parseTo]
  · have := cut_length 10 (l.flatMap fun r => body r ++ [10])
    rw [hc] at this
    simpa using this.symm
theorem parseTo_ok : ∀ {ls : List (List UInt8)} {n : Nat} {out m : List Ru} {k : Int}, (∀ l ∈ ls, 10 ∉ l) → out.length ≤ 100 → (∀ r ∈ out, ruleErr r = 0) → parseTo ls n out = (m, k, 0) → m.length ≤ 100 ∧ ∀ r ∈ m, ruleErr r = 0
  | [], n, out, m, k, _, h1, h2, h => by
    simp only [parseTo, Prod.mk.injEq] at h
    rw [← h.1]
    exact ⟨h1, h2⟩
  | line :: r, n, out, m, k, hn, h1, h2, h => by
    have hr := fun l hl => hn l (List.mem_cons_of_mem _ hl)
    unfold parseTo at h
    split at h
    · exact parseTo_ok hr h1 h2 h
    · split at h
      · rename_i h3
        simp only [Prod.mk.injEq] at h
        exact (h3 h.2.2).elim
      · rename_i h3
        have h3 : lineErr (rule line) out.length = 0 := by simpa using h3
        unfold lineErr at h3
        split at h3
        · rename_i h4; exact (h4 h3).elim
        rename_i h4
        split at h3
        · cases h3
        rename_i h5
        split at h3
        · cases h3
        rename_i h6
        refine parseTo_ok hr (by rw [List.length_append, List.length_singleton]; omega) (fun x hx => ?_) h
        rcases List.mem_append.1 hx with hx | hx
        · exact h2 x hx
        · obtain rfl := List.mem_singleton.1 hx
          unfold ruleErr
          rw [if_neg h4, if_neg]
          have h10 : 10 ∉ (rule line).glob.data.toList := by
            have hl := hn line (List.mem_cons_self ..)
            have c1 : ∀ (c : UInt8) (l : List UInt8), 10 ∉ l → 10 ∉ (cutP c l).1 := by
              intro c l hl
              cases l with
              | nil => exact hl
              | cons x l =>
                show 10 ∉ (if x = c then (l, true) else (x :: l, false)).1
                split
                · exact fun k => hl (List.mem_cons_of_mem _ k)
                · exact hl
            have c2 : ∀ (c : UInt8) (l : List UInt8), 10 ∉ l → 10 ∉ (cutS c l).1 := by
              intro c l hl
              unfold cutS
              split
              · exact fun k => hl (List.dropLast_subset _ k)
              · exact hl
            exact c2 _ _ (c1 _ _ (c1 _ _ hl))
          have hd : deep (rule line).glob.data.toList = true → (rule line).anch = true := by
            intro hd
            show (_ || deep _) = true
            have hd : deep (cutS 47 (cutP 47 (cutP 33 line).1).1).1 = true := hd
            rw [hd]
            simp
          simp only [Bool.or_eq_true, Bool.and_eq_true, Bool.not_eq_true', not_or, List.contains_iff_mem]
          refine ⟨⟨h5, h10⟩, fun hh => ?_⟩
          rw [hd hh.2] at hh
          cases hh.1
/-- THE LAW OF IgnoreTexts, from a text. -/
theorem texts_of_text {s : List UInt8} {m : List Ru} {k : Int} (h : parse s = (m, k, 0)) : (print m).2 = 0 := by
  obtain ⟨h1, h2⟩ := parseTo_ok (fun l hl => cut_mem hl) (by simp) (by simp) h
  unfold print
  rw [if_neg (by omega), if_neg (by simpa using rulesErr_zero.2 h2)]
theorem parseTo_bad : ∀ {ls : List (List UInt8)} {n : Nat} {out m : List Ru} {k e : Int}, parseTo ls n out = (m, k, e) → e ≠ 0 → m = [] ∧ (n : Int) + 1 ≤ k ∧ k ≤ n + ls.length
  | [], n, out, m, k, e, h, he => by
    simp only [parseTo, Prod.mk.injEq] at h
    exact (he h.2.2.symm).elim
  | line :: r, n, out, m, k, e, h, he => by
    unfold parseTo at h
    split at h
    · have := parseTo_bad h he
      rw [List.length_cons]
      refine ⟨this.1, ?_, ?_⟩ <;> omega
    · split at h
      · simp only [Prod.mk.injEq] at h
        rw [List.length_cons, ← h.2.1]
        refine ⟨h.1.symm, ?_, ?_⟩ <;> omega
      · have := parseTo_bad h he
        rw [List.length_cons]
        refine ⟨this.1, ?_, ?_⟩ <;> omega
/-- THE LAW OF IgnoreTexts, from a text that is wrong. -/
theorem texts_bad {s : List UInt8} {m : List Ru} {k e : Int} (h : parse s = (m, k, e)) (he : e ≠ 0) : m = [] ∧ 1 ≤ k ∧ k ≤ s.count 10 + 1 := by
  have := parseTo_bad h he
  rw [cut_length] at this
  refine ⟨this.1, ?_, ?_⟩ <;> omega
end Ig
end Go.Proofs.YtnjcifppkijanaaGreatDoor
namespace Go.Proofs.YtnjcifppkijanaaGreatDoor
open Go Go.RowKit
namespace Ig

abbrev L (s : ByteArray) : List UInt8 := s.data.toList
/-- The part of a path within a directory. -/
def rest (dir path : List UInt8) : Option (List UInt8) := if dir = [] then some path else if (dir ++ [47]).isPrefixOf path = true then some (path.drop (dir.length + 1)) else none
def lastN (path : List UInt8) : List UInt8 := (cut 47 path).getLast?.getD []
def gmatch (g s : List UInt8) : Bool := if 200 < g.length then false else match Gl.comps (cut 47 g) with
  | none => false
  | some l => Gl.fitG l (if s = [] then [] else cut 47 s)
def fitsR (dir path : List UInt8) (isDir : Bool) (r : Ru) : Bool := match rest dir path with
  | none => false
  | some t => !(r.dirOnly && !isDir) && gmatch (L r.glob) (if r.anch then t else lastN path)
/-- What a file's rules decide: the last one that fits. -/
def dec (path : List UInt8) (isDir : Bool) (f : Fi) : Option Bool := (f.rules.reverse.find? (fitsR (L f.dir) path isDir)).map fun r => !r.neg
def within (path : List UInt8) (f : Fi) : Bool := (rest (L f.dir) path).isSome
theorem dec_within {path : List UInt8} {isDir : Bool} {f : Fi} (h : within path f = false) : dec path isDir f = none := by
  unfold within at h
  unfold dec
  have : f.rules.reverse.find? (fitsR (L f.dir) path isDir) = none := by
    rw [List.find?_eq_none]
    intro r _
    unfold fitsR
    cases hr : rest (L f.dir) path with
    | none => simp
    | some t => rw [hr] at h; cases h
  rw [this]
  rfl
/-- The nearest file that decides, so far. -/
def later (o : Option (Nat × Bool)) (n : Nat) : Bool := match o with
  | none => true
  | some (m, _) => decide (m < n)
def pick (path : List UInt8) (isDir : Bool) (o : Option (Nat × Bool)) (f : Fi) : Option (Nat × Bool) := match dec path isDir f with
  | none => o
  | some b => if later o (L f.dir).length = true then some ((L f.dir).length, b) else o
def sel (l : List Fi) (path : List UInt8) (isDir : Bool) : Option (Nat × Bool) := l.foldl (pick path isDir) none
def selected (l : List Fi) (path : List UInt8) (isDir : Bool) : Bool := (sel l path isDir).any (·.2)
/-- What the nearest file that decides says. -/
def Best (l : List Fi) (path : List UInt8) (isDir : Bool) : Option (Nat × Bool) → Prop
  | none => ∀ f ∈ l, dec path isDir f = none
  | some (n, b) => (∃ f ∈ l, dec path isDir f = some b ∧ (L f.dir).length = n) ∧ ∀ f ∈ l, dec path isDir f ≠ none → (L f.dir).length ≤ n
theorem Best.snoc {l : List Fi} {path : List UInt8} {isDir : Bool} {o : Option (Nat × Bool)} (h : Best l path isDir o) (f : Fi) : Best (l ++ [f]) path isDir (pick path isDir o f) := by
  unfold pick
  cases hd : dec path isDir f with
  | none =>
    dsimp only
    cases o with
    | none =>
      intro g hg
      rcases List.mem_append.1 hg with hg | hg
      · exact h g hg
      · obtain rfl := List.mem_singleton.1 hg
        exact hd
    | some z =>
      obtain ⟨n, b⟩ := z
      obtain ⟨⟨g, hg, h1⟩, h2⟩ := h
      refine ⟨⟨g, List.mem_append_left _ hg, h1⟩, fun x hx hn => ?_⟩
      rcases List.mem_append.1 hx with hx | hx
      · exact h2 x hx hn
      · obtain rfl := List.mem_singleton.1 hx
        exact (hn hd).elim
  | some b =>
    dsimp only
    cases o with
    | none =>
      refine ⟨⟨f, List.mem_append_right _ (List.mem_singleton.2 rfl), hd, rfl⟩, fun x hx hn => ?_⟩
      rcases List.mem_append.1 hx with hx | hx
      · exact (hn (h x hx)).elim
      · obtain rfl := List.mem_singleton.1 hx
        exact Nat.le_refl _
    | some z =>
      obtain ⟨n, c⟩ := z
      obtain ⟨⟨g, hg, h1⟩, h2⟩ := h
      by_cases hl : n < (L f.dir).length
      · rw [if_pos (show later (some (n, c)) (L f.dir).length = true from decide_eq_true hl)]
        refine ⟨⟨f, List.mem_append_right _ (List.mem_singleton.2 rfl), hd, rfl⟩, fun x hx hn => ?_⟩
        rcases List.mem_append.1 hx with hx | hx
        · have := h2 x hx hn
          omega
        · obtain rfl := List.mem_singleton.1 hx
          exact Nat.le_refl _
      · rw [if_neg (show ¬ later (some (n, c)) (L f.dir).length = true from fun k => hl (of_decide_eq_true k))]
        refine ⟨⟨g, List.mem_append_left _ hg, h1⟩, fun x hx hn => ?_⟩
        rcases List.mem_append.1 hx with hx | hx
        · exact h2 x hx hn
        · obtain rfl := List.mem_singleton.1 hx
          omega
theorem foldl_best {path : List UInt8} {isDir : Bool} : ∀ {l r : List Fi} {o : Option (Nat × Bool)}, Best r path isDir o → Best (r ++ l) path isDir (l.foldl (pick path isDir) o)
  | [], r, o, h => by simpa using h
  | f :: l, r, o, h => by
    have := foldl_best (l := l) (h.snoc f)
    rw [List.append_assoc] at this
    exact this
theorem sel_best (l : List Fi) (path : List UInt8) (isDir : Bool) : Best l path isDir (sel l path isDir) := foldl_best (l := l) (r := []) (o := none) (fun f hf => by cases hf)
theorem rest_prefix {dir path : List UInt8} (h : (rest dir path).isSome = true) : dir = path.take dir.length := by
  unfold rest at h
  split at h
  · rename_i e; simp [e]
  · split at h
    · rename_i hp
      have hp := List.isPrefixOf_iff_prefix.1 hp
      obtain ⟨t, rfl⟩ := hp
      simp [List.append_assoc]
    · cases h
/-- Files with directories of their own. -/
def Own (l : List Fi) : Prop := l.Pairwise fun f g => Tr.lt f.dir g.dir = true
theorem Own.eq {l : List Fi} (h : Own l) {f g : Fi} (hf : f ∈ l) (hg : g ∈ l) (e : f.dir = g.dir) : f = g := by
  induction l with
  | nil => cases hf
  | cons x l ih =>
    obtain ⟨h1, h2⟩ := List.pairwise_cons.1 h
    rcases List.mem_cons.1 hf with rfl | kf <;> rcases List.mem_cons.1 hg with rfl | kg
    · rfl
    · have := h1 g kg
      rw [e, Tr.lt_irrefl] at this
      cases this
    · have := h1 f kf
      rw [e, Tr.lt_irrefl] at this
      cases this
    · exact ih h2 kf kg
theorem own_within {l : List Fi} (h : Own l) {path : List UInt8} {f g : Fi} (hf : f ∈ l) (hg : g ∈ l) (wf : within path f = true) (wg : within path g = true) (e : (L f.dir).length = (L g.dir).length) : f = g := by
  refine h.eq hf hg ?_
  have e1 := rest_prefix wf
  have e2 := rest_prefix wg
  rw [e] at e1
  have : L f.dir = L g.dir := e1.trans e2.symm
  exact ByteArray.ext (Array.toList_inj.1 this)
theorem Best.uniq {l : List Fi} (h : Own l) {path : List UInt8} {isDir : Bool} : ∀ {o p : Option (Nat × Bool)}, Best l path isDir o → Best l path isDir p → o = p
  | none, none, _, _ => rfl
  | none, some (n, b), h1, ⟨⟨f, hf, h2, _⟩, _⟩ => by rw [h1 f hf] at h2; cases h2
  | some (n, b), none, ⟨⟨f, hf, h2, _⟩, _⟩, h1 => by rw [h1 f hf] at h2; cases h2
  | some (n, b), some (m, c), ⟨⟨f, hf, h2, h3⟩, h4⟩, ⟨⟨g, hg, k2, k3⟩, k4⟩ => by
    have a1 := h4 g hg (by rw [k2]; simp)
    have a2 := k4 f hf (by rw [h2]; simp)
    have wf : within path f = true := by
      cases hw : within path f
      · rw [dec_within hw] at h2; cases h2
      · rfl
    have wg : within path g = true := by
      cases hw : within path g
      · rw [dec_within hw] at k2; cases k2
      · rfl
    obtain rfl := own_within h hf hg wf wg (by omega)
    rw [h2] at k2
    obtain rfl := Option.some.inj k2
    rw [← h3, ← k3]
/-- Files that a path is not within do not matter. -/
theorem sel_filter {path : List UInt8} {isDir : Bool} {p : Fi → Bool} : ∀ {l : List Fi} {o : Option (Nat × Bool)}, (∀ f ∈ l, p f = false → within path f = false) → (l.filter p).foldl (pick path isDir) o = l.foldl (pick path isDir) o
  | [], o, _ => rfl
  | f :: l, o, h => by
    have hr := fun g hg => h g (List.mem_cons_of_mem _ hg)
    cases hp : p f
    · rw [List.filter_cons_of_neg (by rw [hp]; simp), List.foldl_cons, sel_filter hr]
      have : pick path isDir o f = o := by
        unfold pick
        rw [dec_within (h f (List.mem_cons_self ..) hp)]
      rw [this]
    · rw [List.filter_cons_of_pos hp, List.foldl_cons, List.foldl_cons, sel_filter hr]
/-- The directories above a path. -/
def prefs (path : List UInt8) : List (List UInt8) := ((List.range path.length).filter fun i => path[i]? == some 47).map path.take
def ignored (l : List Fi) (path : List UInt8) (isDir : Bool) : Bool := (prefs path).any (fun q => selected l q true) || selected l path isDir
theorem prefs_mem {path q : List UInt8} : q ∈ prefs path ↔ ∃ t, path = q ++ 47 :: t := by
  unfold prefs
  rw [List.mem_map]
  constructor
  · rintro ⟨i, hi, rfl⟩
    obtain ⟨h1, h2⟩ := List.mem_filter.1 hi
    have h2 : path[i]? = some 47 := by simpa using h2
    obtain ⟨h3, h4⟩ := List.getElem?_eq_some_iff.1 h2
    refine ⟨path.drop (i + 1), ?_⟩
    rw [← h4, List.getElem_cons_drop, List.take_append_drop]
  · rintro ⟨t, rfl⟩
    refine ⟨q.length, List.mem_filter.2 ⟨List.mem_range.2 (by simp), by simp⟩, by simp⟩
/-- What is below an ignored directory is ignored. -/
theorem ignored_below {l : List Fi} {dir path : List UInt8} {x : Bool} (h : ignored l dir true = true) : ignored l (dir ++ 47 :: path) x = true := by
  unfold ignored at h ⊢
  rw [Bool.or_eq_true] at h ⊢
  left
  rw [List.any_eq_true]
  rcases h with h | h
  · obtain ⟨q, hq, hs⟩ := List.any_eq_true.1 h
    obtain ⟨t, rfl⟩ := prefs_mem.1 hq
    exact ⟨q, prefs_mem.2 ⟨t ++ 47 :: path, by simp⟩, hs⟩
  · exact ⟨dir, prefs_mem.2 ⟨path, rfl⟩, h⟩
theorem rest_up {dir q t : List UInt8} (h : (rest dir q).isSome = true) : (rest dir (q ++ t)).isSome = true := by
  unfold rest at h ⊢
  by_cases h0 : dir = []
  · rw [if_pos h0]; rfl
  · rw [if_neg h0] at h ⊢
    by_cases hp : (dir ++ [47]).isPrefixOf q = true
    · rw [if_pos (List.isPrefixOf_iff_prefix.2 ((List.isPrefixOf_iff_prefix.1 hp).trans (List.prefix_append _ _)))]
      rfl
    · rw [if_neg hp] at h
      cases h
/-- Ignore files of directories that a path is not within do not matter. -/
theorem ignored_filter {l : List Fi} {path : List UInt8} {isDir : Bool} : ignored (l.filter (within path)) path isDir = ignored l path isDir := by
  have key : ∀ q x, (q = path ∨ q ∈ prefs path) → selected (l.filter (within path)) q x = selected l q x := by
    intro q x hq
    unfold selected sel
    rw [sel_filter]
    intro f _ hf
    cases hw : within q f
    · rfl
    · exfalso
      rcases hq with rfl | hq
      · rw [hf] at hw; cases hw
      · obtain ⟨t, e⟩ := prefs_mem.1 hq
        have := rest_up (t := 47 :: t) hw
        rw [← e] at this
        unfold within at hf
        rw [this] at hf
        cases hf
  unfold ignored
  rw [key path isDir (.inl rfl)]
  congr 1
  rw [Bool.eq_iff_iff, List.any_eq_true, List.any_eq_true]
  constructor
  · rintro ⟨q, hq, h⟩
    exact ⟨q, hq, (key q true (.inr hq)) ▸ h⟩
  · rintro ⟨q, hq, h⟩
    exact ⟨q, hq, (key q true (.inr hq)).symm ▸ h⟩

/-! ### Valid ignore files -/
def disorder (o : Option ByteArray) (e : ByteArray) : Bool := match o with
  | none => false
  | some d => !Tr.lt d e
def fgo : Option ByteArray → List Fi → Int
  | _, [] => 0
  | o, f :: r => if (!(f.dir.toList == []) && !Qm.isPath f.dir) = true then 5 else if disorder o f.dir = true then 9 else if (print f.rules).2 ≠ 0 then (print f.rules).2 else fgo (some f.dir) r
def fcheck (l : List Fi) : Int := if 200 < l.length then 4 else fgo none l
structure Fine (l : List Fi) : Prop where
  dirs : ∀ f ∈ l, f.dir.toList = [] ∨ Qm.isPath f.dir = true
  rules : ∀ f ∈ l, (print f.rules).2 = 0
  own : Own l
theorem fgo_zero : ∀ {l : List Fi} {o : Option ByteArray}, fgo o l = 0 ↔ Fine l ∧ ∀ d, o = some d → ∀ f ∈ l, Tr.lt d f.dir = true
  | [], o => by
    constructor
    · intro _
      exact ⟨⟨fun f hf => (by cases hf), fun f hf => (by cases hf), List.Pairwise.nil⟩, fun d _ f hf => (by cases hf)⟩
    · intro _; rfl
  | f :: r, o => by
    have ih := fgo_zero (l := r) (o := some f.dir)
    unfold fgo
    constructor
    · intro h
      by_cases h1 : (!(f.dir.toList == []) && !Qm.isPath f.dir) = true
      · rw [if_pos h1] at h; cases h
      rw [if_neg h1] at h
      by_cases h2 : disorder o f.dir = true
      · rw [if_pos h2] at h; cases h
      rw [if_neg h2] at h
      by_cases h3 : (print f.rules).2 ≠ 0
      · rw [if_pos h3] at h; exact (h3 h).elim
      rw [if_neg h3] at h
      obtain ⟨h4, h5⟩ := ih.1 h
      have h5 := h5 _ rfl
      refine ⟨⟨fun g hg => ?_, fun g hg => ?_, List.pairwise_cons.2 ⟨h5, h4.own⟩⟩, ?_⟩
      · rcases List.mem_cons.1 hg with rfl | hg
        · simp only [Bool.and_eq_true, Bool.not_eq_true', beq_eq_false_iff_ne, not_and, Bool.not_eq_false] at h1
          by_cases e : g.dir.toList = []
          · exact .inl e
          · exact .inr (h1 e)
        · exact h4.dirs g hg
      · rcases List.mem_cons.1 hg with rfl | hg
        · simpa using h3
        · exact h4.rules g hg
      · rintro d rfl g hg
        have h6 : Tr.lt d f.dir = true := by simpa [disorder] using h2
        rcases List.mem_cons.1 hg with rfl | hg
        · exact h6
        · exact Tr.lt_trans h6 (h5 g hg)
    · rintro ⟨h1, h2⟩
      obtain ⟨h3, h4⟩ := List.pairwise_cons.1 h1.own
      rw [if_neg, if_neg, if_neg]
      · exact ih.2 ⟨⟨fun g hg => h1.dirs g (List.mem_cons_of_mem _ hg), fun g hg => h1.rules g (List.mem_cons_of_mem _ hg), h4⟩, fun d e g hg => by cases e; exact h3 g hg⟩
      · simpa using h1.rules f (List.mem_cons_self ..)
      · cases o with
        | none => simp [disorder]
        | some d => simpa [disorder] using h2 d rfl f (List.mem_cons_self ..)
      · simp only [Bool.and_eq_true, Bool.not_eq_true', beq_eq_false_iff_ne, not_and, Bool.not_eq_false]
        intro e
        rcases h1.dirs f (List.mem_cons_self ..) with k | k
        · exact (e k).elim
        · exact k
theorem fcheck_zero {l : List Fi} : fcheck l = 0 ↔ l.length ≤ 200 ∧ Fine l := by
  unfold fcheck
  by_cases h : 200 < l.length
  · rw [if_pos h]
    constructor
    · intro k; cases k
    · intro k; omega
  · rw [if_neg h, fgo_zero]
    constructor
    · rintro ⟨h1, _⟩; exact ⟨by omega, h1⟩
    · rintro ⟨_, h1⟩; exact ⟨h1, fun d e => by cases e⟩
theorem Fine.filter {l : List Fi} (h : Fine l) (p : Fi → Bool) : Fine (l.filter p) :=
  ⟨fun f hf => h.dirs f (List.mem_filter.1 hf).1, fun f hf => h.rules f (List.mem_filter.1 hf).1, List.Pairwise.filter p h.own⟩
theorem fcheck_filter {l : List Fi} (h : fcheck l = 0) (p : Fi → Bool) : fcheck (l.filter p) = 0 := by
  obtain ⟨h1, h2⟩ := fcheck_zero.1 h
  exact fcheck_zero.2 ⟨Nat.le_trans (List.length_filter_le _ _) h1, h2.filter p⟩
def Ignored (l : List Fi) (path : ByteArray) (isDir : Bool) : Bool := decide (fcheck l = 0) && (Qm.isPath path && ignored l (L path) isDir)
/-- THE LAW OF IgnoreElsewhere. -/
theorem elsewhere_law {l : List Fi} {path : ByteArray} {isDir : Bool} (h : fcheck l = 0) : Ignored l path isDir = Ignored (l.filter (within (L path))) path isDir := by
  unfold Ignored
  rw [decide_eq_true h, decide_eq_true (fcheck_filter h _), ignored_filter]
end Ig
end Go.Proofs.YtnjcifppkijanaaGreatDoor
namespace Go.Proofs.YtnjcifppkijanaaGreatDoor
open Go Go.RowKit
namespace Ig

/-! ### Trees -/
def keep (l : List Fi) (f : Pf) : Bool := !ignored l (L f.path) (f.ty == 4)
theorem keep_good {l : List Fi} {t : List Pf} (h : Tr.Good t) : Tr.Good (t.filter (keep l)) := by
  refine ⟨Nat.le_trans (List.length_filter_le _ _) h.len, fun f hf => h.el f (List.mem_filter.1 hf).1, List.Pairwise.filter _ h.srt, fun f hf => ?_⟩
  obtain ⟨hm, hk⟩ := List.mem_filter.1 hf
  rw [Tr.isDir_iff]
  rcases Tr.isDir_iff.1 (h.dirs f hm) with h0 | ⟨g, hg, h1, h2⟩
  · exact .inl h0
  · rcases Tr.parent_cases f.path with ⟨_, h3⟩ | ⟨name, _, h3⟩
    · exact .inl h3
    · refine .inr ⟨g, List.mem_filter.2 ⟨hg, ?_⟩, h1, h2⟩
      unfold keep at hk ⊢
      rw [Bool.not_eq_true'] at hk ⊢
      rw [← h2] at h3
      cases hi : ignored l (L g.path) (g.ty == 4)
      · rfl
      · rw [h1] at hi
        have := ignored_below (path := name) (x := f.ty == 4) hi
        have e : L f.path = L g.path ++ 47 :: name := h3
        rw [← e, hk] at this
        cases this
def filt (l : List Fi) (t : List Pf) : List Pf × Int := if fcheck l ≠ 0 then ([], fcheck l) else if Tr.checkTree t ≠ 0 then ([], Tr.checkTree t) else (t.filter (keep l), 0)
/-- THE LAW OF IgnoreTrees. -/
theorem trees_law {l : List Fi} {t : List Pf} (h : (filt l t).2 = 0) : fcheck l = 0 ∧ Tr.checkTree t = 0 ∧ (filt l t).1 = t.filter (keep l) ∧ Tr.checkTree (t.filter (keep l)) = 0 ∧ filt l (t.filter (keep l)) = (t.filter (keep l), 0) := by
  unfold filt at h
  by_cases h1 : fcheck l ≠ 0
  · rw [if_pos h1] at h; exact (h1 h).elim
  rw [if_neg h1] at h
  by_cases h2 : Tr.checkTree t ≠ 0
  · rw [if_pos h2] at h; exact (h2 h).elim
  have h3 : Tr.checkTree t = 0 := by simpa using h2
  have h4 := Tr.good_iff.2 (keep_good (l := l) (Tr.good_iff.1 h3))
  refine ⟨by simpa using h1, h3, by unfold filt; rw [if_neg h1, if_neg h2], h4, ?_⟩
  unfold filt
  rw [if_neg h1, if_neg (by simpa using h4), List.filter_filter]
  simp

/-! ### The reference's way -/
def refDec (path : List UInt8) (isDir : Bool) (f : Fi) : Option Bool := f.rules.foldl (fun o r => if fitsR (L f.dir) path isDir r = true then some (!r.neg) else o) none
theorem refDec_eq (path : List UInt8) (isDir : Bool) (f : Fi) : refDec path isDir f = dec path isDir f := by
  unfold refDec dec
  generalize f.rules = rs
  have : ∀ (l : List Ru) (o : Option Bool), l.foldl (fun o r => if fitsR (L f.dir) path isDir r = true then some (!r.neg) else o) o = match l.reverse.find? (fitsR (L f.dir) path isDir) with
      | some r => some (!r.neg)
      | none => o := by
    intro l
    induction l with
    | nil => intro o; rfl
    | cons r l ih =>
      intro o
      rw [List.foldl_cons, ih, List.reverse_cons, List.find?_append]
      cases hl : l.reverse.find? (fitsR (L f.dir) path isDir) with
      | some x => rfl
      | none =>
        by_cases hf : fitsR (L f.dir) path isDir r = true
        · simp [hf]
        · simp [hf]
  rw [this]
  cases rs.reverse.find? (fitsR (L f.dir) path isDir) <;> rfl
/-- The last name behind the last slash. -/
theorem lastN_slash {a b : List UInt8} (h : 47 ∉ b) : lastN (a ++ 47 :: b) = b := by
  have key : ∀ a : List UInt8, (cut 47 (a ++ 47 :: b)).getLast? = some b := by
    intro a
    induction a with
    | nil =>
      rw [List.nil_append, cut_hit, cut_none h]
      rfl
    | cons x a ih =>
      rw [List.cons_append]
      by_cases hx : x = 47
      · subst hx
        rw [cut_hit, List.getLast?_cons, ih]
        rfl
      · rw [cut_miss hx]
        have hl := cut_length 47 (a ++ 47 :: b)
        rw [List.count_append, List.count_cons_self] at hl
        cases hc : cut 47 (a ++ 47 :: b) with
        | nil => exact (cut_ne _ _ hc).elim
        | cons l r =>
          rw [hc] at ih hl
          cases r with
          | nil => simp at hl
          | cons m r => exact ih
  unfold lastN
  rw [key a]
  rfl
theorem lastN_none {b : List UInt8} (h : 47 ∉ b) : lastN b = b := by
  unfold lastN
  rw [cut_none h]
  rfl

/-! ### Paths and pieces -/
theorem pieces_cut : ∀ (n : Nat) (s : ByteArray), s.size ≤ n → pieces s = (cut 47 (L s)).map bs
  | n, s, hn => by
    by_cases hm : Lib.indexByte s.data.toList 47 = -1
    · have hnot : (47 : UInt8) ∉ s.data.toList := fun k => by
        obtain ⟨i, hi⟩ := List.getElem?_of_mem k
        exact Lib.indexByte_none hm i hi
      rw [pieces_miss hm, cut_none hnot]
      rfl
    · have h0 := Lib.indexByte_ge s.data.toList 47
      obtain ⟨k, hk⟩ : ∃ k : Nat, Lib.indexByte s.data.toList 47 = k := ⟨(Lib.indexByte s.data.toList 47).toNat, by omega⟩
      obtain ⟨h1, h2⟩ := Lib.indexByte_some hk
      have hlt : k < s.data.toList.length := (List.getElem?_eq_some_iff.1 h1).1
      have hsz : s.data.toList.length = s.size := by simp
      cases n with
      | zero => omega
      | succ n =>
        rw [pieces_hit hk]
        have e1 : L (s.extract 0 k) = (L s).take k := by
          show (s.extract 0 k).data.toList = s.data.toList.take k
          simp [List.extract_eq_take_drop]
        have e2 : L (s.extract (k + 1) s.size) = (L s).drop (k + 1) := by
          show (s.extract (k + 1) s.size).data.toList = s.data.toList.drop (k + 1)
          rw [Lib.extract_to_end]
        have e3 : L s = (L s).take k ++ 47 :: (L s).drop (k + 1) := by
          have h3 := (List.getElem?_eq_some_iff.1 h1).2
          have := List.getElem_cons_drop (show k < (L s).length from hlt)
          rw [show (L s)[k]'hlt = 47 from h3] at this
          rw [this, List.take_append_drop]
        have hnot : (47 : UInt8) ∉ (L s).take k := fun hh => by
          obtain ⟨j, hj⟩ := List.getElem?_of_mem hh
          have hjl := (List.getElem?_eq_some_iff.1 hj).1
          rw [List.length_take] at hjl
          rw [List.getElem?_take_of_lt (by omega)] at hj
          exact h2 j (by omega) hj
        have ih := pieces_cut n (s.extract (k + 1) s.size) (by rw [ByteArray.size_extract]; omega)
        rw [ih, e2]
        conv => rhs; rw [e3, cut_app _ hnot]
        rw [List.map_cons]
        congr 1
        exact ByteArray.ext (Array.toList_inj.1 e1)
theorem isPath_cut (s : ByteArray) : Qm.isPath s = (decide (s.size ≤ 200) && (cut 47 (L s)).all fun p => Qm.isName (bs p)) := by
  show (decide (s.size ≤ 200) && (pieces s).all Qm.isName) = _
  rw [pieces_cut s.size s (Nat.le_refl _), List.all_map]
  rfl
theorem cut_join : ∀ (a b : List UInt8), cut 47 (a ++ 47 :: b) = cut 47 a ++ cut 47 b
  | [], b => by rw [List.nil_append, cut_hit]; rfl
  | x :: a, b => by
    rw [List.cons_append]
    by_cases h : x = 47
    · subst h
      rw [cut_hit, cut_hit, cut_join a b]
      rfl
    · rw [cut_miss h, cut_miss h, cut_join a b]
      cases hc : cut 47 a with
      | nil => exact (cut_ne _ _ hc).elim
      | cons l r => rfl
theorem isPath_join {a b c : ByteArray} (ha : Qm.isPath a = true) (hb : Qm.isPath b = true) (hc : L c = L a ++ 47 :: L b) (hs : a.size + b.size < 200) : Qm.isPath c = true := by
  rw [isPath_cut, Bool.and_eq_true] at ha hb ⊢
  have : c.size = a.size + b.size + 1 := by
    have := congrArg List.length hc
    simp at this
    omega
  refine ⟨decide_eq_true (by omega), ?_⟩
  rw [hc, cut_join, List.all_append, ha.2, hb.2]
  rfl
/-- THE LAW OF IgnoreBelow. -/
theorem below_law {l : List Fi} {dir path c : ByteArray} (h : Ignored l dir true = true) (hp : Qm.isPath path = true) (hc : L c = L dir ++ 47 :: L path) (hs : dir.size + path.size < 200) (x : Bool) : Ignored l c x = true := by
  unfold Ignored at h ⊢
  rw [Bool.and_eq_true, Bool.and_eq_true] at h ⊢
  refine ⟨h.1, isPath_join h.2.1 hp hc hs, ?_⟩
  rw [hc]
  exact ignored_below h.2.2
end Ig
end Go.Proofs.YtnjcifppkijanaaGreatDoor
namespace Go.Proofs.YtnjcifppkijanaaGreatDoor
open Go Go.RowKit
namespace Ig

/-- A glob that matches exactly a name. -/
def quoted (l : List UInt8) : List UInt8 := l.flatMap fun c => [92, c]
theorem one_quoted (c : UInt8) (s : List UInt8) : Gl.one (92 :: c :: s) = some (some (fun x => x == c), s) := by
  rw [Gl.one_lit _ (by decide) (by decide) (by decide), Gl.plain_esc]
  rfl
theorem elems_quoted : ∀ (l : List UInt8) (n : Nat), (quoted l).length ≤ n → Gl.elems n (quoted l) = some (l.map fun c => some (fun x => x == c))
  | [], n, _ => by cases n <;> rfl
  | c :: l, 0, h => by simp [quoted] at h
  | c :: l, n + 1, h => by
    have e : quoted (c :: l) = 92 :: c :: quoted l := rfl
    rw [e] at h ⊢
    simp only [List.length_cons] at h
    show (match Gl.one (92 :: c :: quoted l) with
      | none => none
      | some (e, r) => (Gl.elems n r).map (e :: ·)) = _
    rw [one_quoted]
    dsimp only
    rw [elems_quoted l n (by omega)]
    rfl
theorem quoted_mem {l : List UInt8} {c : UInt8} (hc : c ≠ 92) : c ∈ quoted l ↔ c ∈ l := by
  unfold quoted
  rw [List.mem_flatMap]
  constructor
  · rintro ⟨x, hx, h⟩
    rcases List.mem_cons.1 h with h | h
    · exact (hc h).elim
    · obtain rfl := List.mem_singleton.1 h
      exact hx
  · intro h
    exact ⟨c, h, by simp⟩
theorem quoted_length (l : List UInt8) : (quoted l).length = 2 * l.length := by
  induction l with
  | nil => rfl
  | cons c l ih =>
    show (92 :: c :: quoted l).length = _
    simp only [List.length_cons, ih]
    omega
theorem comps_quoted {l : List UInt8} (h0 : l ≠ []) (h47 : 47 ∉ l) : Gl.comps (cut 47 (quoted l)) = some [some (l.map fun c => some (fun x => x == c))] := by
  have hn : 47 ∉ quoted l := fun k => h47 ((quoted_mem (by decide)).1 k)
  rw [cut_none hn]
  obtain ⟨c, t, rfl⟩ : ∃ c t, l = c :: t := by
    cases l with
    | nil => exact (h0 rfl).elim
    | cons c t => exact ⟨c, t, rfl⟩
  have hc : Gl.comp (quoted (c :: t)) = some (some ((c :: t).map fun c => some (fun x => x == c))) := by
    unfold Gl.comp
    rw [if_neg (by simp [quoted]), if_neg (by show ¬ (92 :: c :: quoted t) = [42, 42]; simp), elems_quoted _ _ (Nat.le_refl _)]
    rfl
  show (match Gl.comp (quoted (c :: t)) with
    | none => none
    | some d => (Gl.comps []).map (d :: ·)) = _
  rw [hc]
  rfl
theorem fit_quoted : ∀ l : List UInt8, Gl.fitE (l.map fun c => some (fun x => x == c)) l = true
  | [] => by simp [Gl.fitE, Gl.fit]
  | c :: l => by
    have := fit_quoted l
    unfold Gl.fitE at this ⊢
    simp [Gl.fit, this]
theorem gmatch_quoted {l : List UInt8} (h0 : l ≠ []) (h47 : 47 ∉ l) (hl : l.length ≤ 100) : gmatch (quoted l) l = true := by
  unfold gmatch
  rw [if_neg (by rw [quoted_length]; omega), comps_quoted h0 h47]
  dsimp only
  rw [if_neg h0, cut_none h47]
  have := fit_quoted l
  unfold Gl.fitG
  simp [Gl.fit, this]
theorem gcheck_quoted {l : List UInt8} (h0 : l ≠ []) (h47 : 47 ∉ l) (hl : l.length ≤ 100) : gcheck (quoted l) = 0 := by
  unfold gcheck
  rw [if_neg (by rw [quoted_length]; omega), comps_quoted h0 h47]
  rfl
theorem ruleErr_quoted {l : List UInt8} (h0 : l ≠ []) (h47 : 47 ∉ l) (h10 : 10 ∉ l) (hl : l.length ≤ 100) (neg : Bool) : ruleErr ⟨neg, false, true, bs (quoted l)⟩ = 0 := by
  show (if gcheck (quoted l) ≠ 0 then gcheck (quoted l) else if (marked (quoted l) || (quoted l).contains 10 || (!true && deep (quoted l))) = true then 1 else 0) = (0 : Int)
  rw [if_neg (by simpa using gcheck_quoted h0 h47 hl), if_neg]
  have hm : marked (quoted l) = false := by
    cases l with
    | nil => exact (h0 rfl).elim
    | cons c t => rfl
  have hc : (quoted l).contains 10 = false := by
    rw [Bool.eq_false_iff, ne_eq, List.contains_iff_mem, quoted_mem (by decide)]
    exact h10
  rw [hm, hc]
  simp

/-- Ignore files with one more rule. -/
def addTo (dir : ByteArray) (x : Ru) : List Fi → List Fi
  | [] => [⟨dir, [x]⟩]
  | f :: r => if Tr.lt f.dir dir = true then f :: addTo dir x r else if Qm.eqB f.dir dir = true then ⟨f.dir, f.rules ++ [x]⟩ :: r else ⟨dir, [x]⟩ :: f :: r
theorem addTo_mem {dir : ByteArray} {x : Ru} : ∀ {l : List Fi} {g : Fi}, g ∈ addTo dir x l → g ∈ l ∨ (g.dir = dir ∧ ((∃ f ∈ l, f.dir = dir ∧ g.rules = f.rules ++ [x]) ∨ g.rules = [x]))
  | [], g, h => by
    obtain rfl := List.mem_singleton.1 h
    exact .inr ⟨rfl, .inr rfl⟩
  | f :: r, g, h => by
    unfold addTo at h
    split at h
    · rcases List.mem_cons.1 h with rfl | h
      · exact .inl (List.mem_cons_self ..)
      · rcases addTo_mem h with h | ⟨h1, ⟨f', h2, h3⟩ | h2⟩
        · exact .inl (List.mem_cons_of_mem _ h)
        · exact .inr ⟨h1, .inl ⟨f', List.mem_cons_of_mem _ h2, h3⟩⟩
        · exact .inr ⟨h1, .inr h2⟩
    · split at h
      · rename_i he
        have he := Qm.eqB_iff.1 he
        rcases List.mem_cons.1 h with rfl | h
        · exact .inr ⟨he, .inl ⟨f, List.mem_cons_self .., he, rfl⟩⟩
        · exact .inl (List.mem_cons_of_mem _ h)
      · rcases List.mem_cons.1 h with rfl | h
        · exact .inr ⟨rfl, .inr rfl⟩
        · exact .inl h
/-- The file of the directory itself. -/
theorem addTo_own (dir : ByteArray) (x : Ru) : ∀ l : List Fi, ∃ g ∈ addTo dir x l, g.dir = dir ∧ ∃ rs, g.rules = rs ++ [x]
  | [] => ⟨_, List.mem_singleton.2 rfl, rfl, [], rfl⟩
  | f :: r => by
    unfold addTo
    split
    · obtain ⟨g, h1, h2⟩ := addTo_own dir x r
      exact ⟨g, List.mem_cons_of_mem _ h1, h2⟩
    · split
      · rename_i he
        exact ⟨_, List.mem_cons_self .., Qm.eqB_iff.1 he, f.rules, rfl⟩
      · exact ⟨_, List.mem_cons_self .., rfl, [], rfl⟩
/-- Every other file stays. -/
theorem addTo_other {dir : ByteArray} {x : Ru} : ∀ {l : List Fi} {f : Fi}, f ∈ l → f.dir ≠ dir → f ∈ addTo dir x l
  | g :: r, f, h, hd => by
    unfold addTo
    split
    · rcases List.mem_cons.1 h with rfl | h
      · exact List.mem_cons_self ..
      · exact List.mem_cons_of_mem _ (addTo_other h hd)
    · split
      · rename_i he
        rcases List.mem_cons.1 h with rfl | h
        · exact (hd (Qm.eqB_iff.1 he)).elim
        · exact List.mem_cons_of_mem _ h
      · exact List.mem_cons_of_mem _ h
theorem addTo_ord {dir : ByteArray} {x : Ru} : ∀ {l : List Fi}, Own l → Own (addTo dir x l)
  | [], _ => List.pairwise_singleton ..
  | f :: r, h => by
    obtain ⟨h1, h2⟩ := List.pairwise_cons.1 h
    unfold addTo
    by_cases hl : Tr.lt f.dir dir = true
    · rw [if_pos hl]
      refine List.pairwise_cons.2 ⟨fun g hg => ?_, addTo_ord h2⟩
      rcases addTo_mem hg with hg | ⟨hg, _⟩
      · exact h1 g hg
      · rw [hg]; exact hl
    · rw [if_neg hl]
      by_cases he : Qm.eqB f.dir dir = true
      · rw [if_pos he]
        exact List.pairwise_cons.2 ⟨h1, h2⟩
      · rw [if_neg he]
        have hlt : Tr.lt dir f.dir = true := Tr.lt_of (by simpa using hl) (fun e => he (Qm.eqB_iff.2 e.symm))
        refine List.pairwise_cons.2 ⟨fun g hg => ?_, h⟩
        rcases List.mem_cons.1 hg with rfl | hg
        · exact hlt
        · exact Tr.lt_trans hlt (h1 g hg)
theorem addTo_length (dir : ByteArray) (x : Ru) : ∀ l : List Fi, (addTo dir x l).length ≤ l.length + 1
  | [] => by simp [addTo]
  | f :: r => by
    have := addTo_length dir x r
    unfold addTo
    split
    · simp only [List.length_cons]; omega
    · split
      · simp
      · simp
theorem print_snoc {l : List Ru} {x : Ru} (h : (print l).2 = 0) (hl : l.length < 100) (hx : ruleErr x = 0) : (print (l ++ [x])).2 = 0 := by
  obtain ⟨_, h2, _⟩ := print_ok h
  unfold print
  rw [if_neg (by rw [List.length_append, List.length_singleton]; omega), if_neg]
  simp only [ne_eq, Decidable.not_not]
  refine rulesErr_zero.2 fun r hr => ?_
  rcases List.mem_append.1 hr with hr | hr
  · exact h2 r hr
  · obtain rfl := List.mem_singleton.1 hr
    exact hx
theorem addTo_fcheck {l : List Fi} {dir : ByteArray} {x : Ru} (h : fcheck l = 0) (hl : l.length < 200) (hr : ∀ f ∈ l, f.rules.length < 100) (hd : dir.toList = [] ∨ Qm.isPath dir = true) (hx : ruleErr x = 0) : fcheck (addTo dir x l) = 0 := by
  obtain ⟨_, h2⟩ := fcheck_zero.1 h
  refine fcheck_zero.2 ⟨Nat.le_trans (addTo_length dir x l) hl, ⟨fun g hg => ?_, fun g hg => ?_, addTo_ord h2.own⟩⟩
  · rcases addTo_mem hg with hg | ⟨hg, _⟩
    · exact h2.dirs g hg
    · rw [hg]; exact hd
  · rcases addTo_mem hg with hg | ⟨_, ⟨f, hf, _, e⟩ | e⟩
    · exact h2.rules g hg
    · rw [e]; exact print_snoc (h2.rules f hf) (hr f hf) hx
    · rw [e]; exact print_snoc (l := []) rfl (by simp) hx
/-- Where the directory's own file does not matter, nothing turns. -/
theorem sel_addTo {dir : ByteArray} {x : Ru} {q : List UInt8} {isDir : Bool} (hq : rest (L dir) q = none) {l : List Fi} (h : Own l) : sel (addTo dir x l) q isDir = sel l q isDir := by
  have hw : ∀ f : Fi, f.dir = dir → within q f = false := fun f e => by unfold within; rw [e, hq]; rfl
  refine Best.uniq h ?_ (sel_best l q isDir)
  have hb := sel_best (addTo dir x l) q isDir
  generalize sel (addTo dir x l) q isDir = o at hb ⊢
  have hin : ∀ f ∈ l, dec q isDir f ≠ none → f ∈ addTo dir x l := fun f hf hn => addTo_other hf fun e => hn (dec_within (hw f e))
  cases o with
  | none =>
    intro f hf
    exact Classical.byContradiction fun hn => hn (hb f (hin f hf hn))
  | some z =>
    obtain ⟨n, b⟩ := z
    obtain ⟨⟨g, hg, h1, h2⟩, h3⟩ := hb
    refine ⟨⟨g, ?_, h1, h2⟩, fun f hf hn => h3 f (hin f hf hn) hn⟩
    rcases addTo_mem hg with hg | ⟨hg, _⟩
    · exact hg
    · rw [dec_within (hw g hg)] at h1; cases h1
/-- The path itself. -/
theorem sel_last {dir : ByteArray} {x : Ru} {path : List UInt8} {isDir : Bool} (hx : fitsR (L dir) path isDir x = true) (hmax : ∀ d, (rest d path).isSome = true → d.length ≤ (L dir).length) {l : List Fi} (h : Own l) : selected (addTo dir x l) path isDir = !x.neg := by
  obtain ⟨g, hg, hgd, rs, hgr⟩ := addTo_own dir x l
  have hdec : dec path isDir g = some (!x.neg) := by
    unfold dec
    rw [hgr, hgd, List.reverse_append, List.reverse_singleton, List.singleton_append, List.find?_cons_of_pos hx]
    rfl
  have hbest : Best (addTo dir x l) path isDir (some ((L dir).length, !x.neg)) := by
    refine ⟨⟨g, hg, hdec, by rw [hgd]⟩, fun f _ hn => hmax _ ?_⟩
    cases hw : within path f
    · exact (hn (dec_within hw)).elim
    · exact hw
  unfold selected
  rw [Best.uniq (addTo_ord h) (sel_best _ _ _) hbest]
  rfl
theorem rest_self (d : List UInt8) (h : d ≠ []) : ∀ q t, d = q ++ t → rest d q = none := fun q t e => by
  unfold rest
  rw [if_neg h, if_neg]
  intro hp
  have := (List.isPrefixOf_iff_prefix.1 hp).length_le
  rw [e] at this
  simp only [List.length_append, List.length_singleton] at this
  omega
/-- THE LAW OF IgnoreLast. The path is dir / name, or name alone. -/
theorem last_law39 {l : List Fi} {dir : ByteArray} {name path : List UInt8} {neg isDir : Bool} (h : fcheck l = 0) (h0 : name ≠ []) (h47 : 47 ∉ name) (hl : name.length ≤ 100)
    (hp : path = if L dir = [] then name else L dir ++ 47 :: name) :
    ignored (addTo dir ⟨neg, false, true, bs (quoted name)⟩ l) path isDir = ((!(decide (L dir = [])) && ignored l (L dir) true) || !neg) := by
  obtain ⟨_, hf⟩ := fcheck_zero.1 h
  have hrest : rest (L dir) path = some name := by
    unfold rest
    by_cases e : L dir = []
    · rw [if_pos e, hp, if_pos e]
    · rw [if_neg e, hp, if_neg e, if_pos (List.isPrefixOf_iff_prefix.2 ⟨name, by simp⟩)]
      congr 1
      rw [List.drop_append]
      simp
  have hfits : fitsR (L dir) path isDir ⟨neg, false, true, bs (quoted name)⟩ = true := by
    unfold fitsR
    rw [hrest]
    exact gmatch_quoted h0 h47 hl
  have hmax : ∀ d, (rest d path).isSome = true → d.length ≤ (L dir).length := by
    intro d hd
    unfold rest at hd
    by_cases e : d = []
    · simp [e]
    rw [if_neg e] at hd
    by_cases hpre : (d ++ [47]).isPrefixOf path = true
    · obtain ⟨t, ht⟩ := List.isPrefixOf_iff_prefix.1 hpre
      refine Nat.le_of_not_lt fun hlt => ?_
      -- the slash behind d would lie in the name
      have hat : path[d.length]? = some 47 := by rw [← ht]; simp
      rw [hp] at hat
      split at hat
      · exact h47 (List.mem_of_getElem? hat)
      · rw [List.getElem?_append_right (by omega)] at hat
        have : d.length - (L dir).length = (d.length - (L dir).length - 1) + 1 := by omega
        rw [this, List.getElem?_cons_succ] at hat
        exact h47 (List.mem_of_getElem? hat)
    · rw [if_neg hpre] at hd; cases hd
  unfold ignored
  rw [sel_last hfits hmax hf.own]
  congr 1
  by_cases e : L dir = []
  · rw [if_pos e] at hp
    have : prefs path = [] := by
      rw [List.eq_nil_iff_forall_not_mem]
      intro q hq
      obtain ⟨t, ht⟩ := prefs_mem.1 hq
      rw [← hp, ht] at h47
      exact h47 (by simp)
    rw [this, decide_eq_true e]
    rfl
  · rw [if_neg e] at hp
    have key : ∀ q t, L dir = q ++ t → selected (addTo dir ⟨neg, false, true, bs (quoted name)⟩ l) q true = selected l q true := fun q t hq => by
      unfold selected
      rw [sel_addTo (rest_self _ e q t hq) hf.own]
    rw [decide_eq_false e]
    show _ = ((prefs (L dir)).any (fun q => selected l q true) || selected l (L dir) true)
    rw [Bool.eq_iff_iff, Bool.or_eq_true, List.any_eq_true, List.any_eq_true]
    constructor
    · rintro ⟨q, hq, hs⟩
      obtain ⟨t, ht⟩ := prefs_mem.1 hq
      rw [hp] at ht
      rcases List.append_eq_append_iff.1 ht with ⟨c, h1, h2⟩ | ⟨c, h1, h2⟩
      · -- q = dir ++ c
        cases c with
        | nil =>
          rw [List.append_nil] at h1
          rw [h1, key _ [] (by simp)] at hs
          exact .inr hs
        | cons y c =>
          exfalso
          simp only [List.cons_append, List.cons.injEq] at h2
          exact h47 (by rw [h2.2]; simp)
      · cases c with
        | nil =>
          rw [List.append_nil] at h1
          rw [← h1, key _ [] (by simp)] at hs
          exact .inr hs
        | cons y c =>
          simp only [List.cons_append, List.cons.injEq] at h2
          rw [key q (y :: c) h1] at hs
          exact .inl ⟨q, prefs_mem.2 ⟨c, by rw [h1, ← h2.1]⟩, hs⟩
    · rintro (⟨q, hq, hs⟩ | hs)
      · obtain ⟨t, ht⟩ := prefs_mem.1 hq
        refine ⟨q, prefs_mem.2 ⟨t ++ 47 :: name, by rw [hp, ht]; simp⟩, ?_⟩
        rw [key q (47 :: t) ht]
        exact hs
      · refine ⟨L dir, prefs_mem.2 ⟨name, hp⟩, ?_⟩
        rw [key _ [] (by simp)]
        exact hs
end Ig
end Go.Proofs.YtnjcifppkijanaaGreatDoor
namespace Go.Proofs.YtnjcifppkijanaaGreatDoor
open Go Go.RowKit Go.Maps Go.WideMaps
namespace Ig
/-- The first file of a list that falls by length decides as the nearest one. -/
theorem first_best {l s : List Fi} {path : List UInt8} {isDir : Bool} (hp : ∀ f, f ∈ s ↔ f ∈ l) (hs : s.Pairwise fun f g => (L g.dir).length ≤ (L f.dir).length) :
    Best l path isDir ((s.find? fun f => (dec path isDir f).isSome).bind fun f => (dec path isDir f).map fun b => ((L f.dir).length, b)) := by
  cases hf : s.find? (fun f => (dec path isDir f).isSome) with
  | none =>
    intro f hm
    have := List.find?_eq_none.1 hf f ((hp f).2 hm)
    simpa using this
  | some f =>
    obtain ⟨h1, pre, post, h2, h3⟩ := List.find?_eq_some_iff_append.1 hf
    cases hd : dec path isDir f with
    | none => rw [hd] at h1; cases h1
    | some b =>
      have hin : f ∈ l := (hp f).1 (by rw [h2]; simp)
      show Best l path isDir ((dec path isDir f).map fun b => ((L f.dir).length, b))
      rw [hd]
      refine ⟨⟨f, hin, hd, rfl⟩, fun g hg hn => ?_⟩
      have hg := (hp g).2 hg
      rw [h2] at hg hs
      rcases List.mem_append.1 hg with hg | hg
      · have := h3 g hg
        rw [Bool.not_eq_true', Option.isSome_eq_false_iff, Option.isNone_iff_eq_none] at this
        exact (hn this).elim
      · rcases List.mem_cons.1 hg with rfl | hg
        · exact Nat.le_refl _
        · exact (List.pairwise_cons.1 (List.pairwise_append.1 hs).2.1).1 g hg
theorem selected_first {l s : List Fi} {path : List UInt8} {isDir : Bool} (ho : Own l) (hp : ∀ f, f ∈ s ↔ f ∈ l) (hs : s.Pairwise fun f g => (L g.dir).length ≤ (L f.dir).length) :
    selected l path isDir = ((s.find? fun f => (dec path isDir f).isSome).bind (dec path isDir)).getD false := by
  unfold selected
  rw [Best.uniq ho (sel_best l path isDir) (first_best hp hs)]
  cases s.find? (fun f => (dec path isDir f).isSome) with
  | none => rfl
  | some f =>
    simp only [Option.bind_some]
    cases dec path isDir f <;> rfl
end Ig

/-! ### Sets of numbers, kept as maps -/
abbrev ikey (i : Nat) : Lit := .int .i64 i
abbrev DatU := DataW Unit
theorem ikey_inj {i j : Nat} (h : ikey i = ikey j) : i = j := by
  simp only [ikey, Lit.int.injEq, true_and] at h
  omega
theorem ikey_lit (i : Nat) : WideAt.IsKeyLit (ikey i) := by simp [WideAt.IsKeyLit, ikey]
structure Sets (D : DatU) (S : Nat → Prop) : Prop where
  isMap : IsMap D
  has : ∀ i : Nat, Maps.has D (ikey i) = true ↔ S i
  val : ∀ i : Nat, Maps.has D (ikey i) = true → ∀ z, D.atKey (ikey i) z = .lit (.bool true)
theorem Sets.empty : Sets (.map []) (fun _ => False) := ⟨⟨[], rfl⟩, fun i => by simp [has_eq], fun i h => by simp [has_eq] at h⟩
theorem Sets.put {D : DatU} {S : Nat → Prop} (h : Sets D S) (k : Nat) : Sets (D.put (ikey k) (.lit (.bool true))) (fun i => S i ∨ i = k) := by
  refine ⟨h.isMap.put _ _, fun i => ?_, fun i hi z => ?_⟩
  · by_cases e : i = k
    · subst e
      simp [has_put_same h.isMap (ikey_lit _)]
    · rw [has_put_other (fun x => e (ikey_inj x)), h.has]
      simp [e]
  · by_cases e : i = k
    · subst e
      exact atKey_put_same h.isMap (ikey_lit _) _ _
    · have hne : ikey i ≠ ikey k := fun x => e (ikey_inj x)
      rw [has_put_other hne] at hi
      rw [atKey_put_other hne]
      exact h.val i hi z
theorem Sets.congr {D : DatU} {S T : Nat → Prop} (h : Sets D S) (e : ∀ i, S i ↔ T i) : Sets D T := ⟨h.isMap, fun i => (h.has i).trans (e i), h.val⟩
end Go.Proofs.YtnjcifppkijanaaGreatDoor
