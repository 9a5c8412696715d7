/- Laws of reviews, in plain Lean. No program. -/
import Derived.Test.YtojfgidoobgcaaaGreatDoorNa
set_option linter.unusedSimpArgs false
set_option linter.unusedVariables false
namespace Go.Proofs.YtojfgidoobgcaaaGreatDoor
open Go
namespace Vw

theorem votes_zero : ∀ {l : List Vt}, votes l = 0 ↔ ∀ v ∈ l, vote v = 0
  | [] => by simp [votes]
  | v :: l => by
    unfold votes
    by_cases h : vote v = 0
    · rw [if_neg (by simpa using h), votes_zero]
      simp [h]
    · rw [if_pos h]
      exact ⟨fun e => (h e).elim, fun e => (h (e v (List.mem_cons_self ..))).elim⟩
theorem body_zero {r : Rv} : body r = 0 ↔ (Qm.isName r.author = true ∧ Qm.isName r.branch = true) ∧ ids r.ids = 0 ∧ (1 ≤ r.state ∧ r.state ≤ 5) ∧ r.votes.length ≤ 100 ∧ ∀ v ∈ r.votes, vote v = 0 := by
  unfold body
  by_cases h1 : Qm.isName r.author = false ∨ Qm.isName r.branch = false
  · rw [if_pos h1]
    refine ⟨fun h => (by cases h), fun h => ?_⟩
    rcases h1 with k | k
    · rw [h.1.1] at k; cases k
    · rw [h.1.2] at k; cases k
  rw [if_neg h1]
  rw [not_or, Bool.not_eq_false, Bool.not_eq_false] at h1
  by_cases h2 : ids r.ids = 0
  · rw [if_neg (by simpa using h2)]
    by_cases h3 : r.state < 1 ∨ 5 < r.state
    · rw [if_pos h3]
      exact ⟨fun h => (by cases h), fun h => by omega⟩
    rw [if_neg h3]
    by_cases h4 : 100 < r.votes.length
    · rw [if_pos h4]
      exact ⟨fun h => (by cases h), fun h => by omega⟩
    rw [if_neg h4, votes_zero]
    exact ⟨fun h => ⟨h1, h2, by omega, by omega, h⟩, fun h => h.2.2.2.2⟩
  · rw [if_pos h2]
    exact ⟨fun h => (h2 h).elim, fun h => (h2 h.2.1).elim⟩
theorem checkFrom_zero : ∀ {l : List Rv} {k : Nat}, checkFrom k l = 0 ↔ ∀ i r, l[i]? = some r → r.number = ((k + i + 1 : Nat) : Int) ∧ body r = 0
  | [], k => by simp [checkFrom]
  | x :: l, k => by
    unfold checkFrom
    by_cases h1 : x.number = ((k + 1 : Nat) : Int)
    · rw [if_neg (by simpa using h1)]
      by_cases h2 : body x = 0
      · rw [if_neg (by simpa using h2), checkFrom_zero]
        constructor
        · intro h i r hr
          cases i with
          | zero =>
            obtain rfl : x = r := by simpa using hr
            exact ⟨h1, h2⟩
          | succ i =>
            have := h i r (by simpa using hr)
            exact ⟨by rw [this.1]; congr 1; omega, this.2⟩
        · intro h i r hr
          have := h (i + 1) r (by simpa using hr)
          exact ⟨by rw [this.1]; congr 1; omega, this.2⟩
      · rw [if_pos h2]
        exact ⟨fun h => (h2 h).elim, fun h => (h2 (h 0 x rfl).2).elim⟩
    · rw [if_pos h1]
      exact ⟨fun h => (by cases h), fun h => (h1 (by have := (h 0 x rfl).1; simpa using this)).elim⟩
theorem check_zero {l : List Rv} : check l = 0 ↔ l.length ≤ 100 ∧ ∀ i r, l[i]? = some r → r.number = ((i + 1 : Nat) : Int) ∧ body r = 0 := by
  unfold check
  by_cases h : 100 < l.length
  · rw [if_pos h]
    exact ⟨fun h => (by cases h), fun k => by omega⟩
  · rw [if_neg h, checkFrom_zero]
    simp only [Nat.zero_add]
    exact ⟨fun k => ⟨by omega, k⟩, fun k => k.2⟩

/-- An act. -/
structure Ac where
  kind : Int
  number : Int
  who : ByteArray
  branch : ByteArray
  ids : List Dg
  vote : Vt
  need : Int
  state : Int
/-- What an act makes of reviews. -/
def act (l : List Rv) (a : Ac) : List Rv × Int × Int :=
  if a.kind = 0 then propose l a.who a.branch a.ids
  else if a.kind = 1 then ((update l a.number a.who a.ids).1, 0, (update l a.number a.who a.ids).2)
  else if a.kind = 2 then ((addVote l a.number a.vote a.need).1, 0, (addVote l a.number a.vote a.need).2)
  else if a.kind = 3 then ((close l a.number a.who a.state).1, 0, (close l a.number a.who a.state).2)
  else (l, 0, 8)
def after (l : List Rv) (a : Ac) : List Rv × Bool := if (act l a).2.2 ≠ 0 then (l, false) else ((act l a).1, true)

theorem changed_ok {l : List Rv} {n : Int} {f : Rv → Rv × Int} (h : (changed l n f).2 = 0) : ∃ i r, n = ((i + 1 : Nat) : Int) ∧ l[i]? = some r ∧ ended r = false ∧ (f r).2 = 0 ∧ (changed l n f).1 = l.set i (f r).1 := by
  unfold changed at h ⊢
  split at h
  · cases h
  rename_i h1
  rw [if_neg h1]
  split at h
  · cases h
  rename_i r hr
  split at h
  · cases h
  rename_i h2
  rw [if_neg h2]
  split at h
  · rename_i h3; exact (h3 h).elim
  rename_i h3
  rw [if_neg h3]
  exact ⟨(n - 1).toNat, r, by omega, hr, by simpa using h2, by simpa using h3, rfl⟩
theorem follows_in (r : Rv) (need : Int) : 1 ≤ follows r need ∧ follows r need ≤ 3 := by
  unfold follows
  repeat' split
  all_goals omega
/-- What one step keeps. -/
structure Keep (l m : List Rv) : Prop where
  ok : check m = 0
  le : l.length ≤ m.length
  ge : m.length ≤ l.length + 1
  at_ : ∀ (i : Nat) (r : Rv), l[i]? = some r → ∃ x, m[i]? = some x ∧ x.number = r.number ∧ x.author = r.author ∧ x.branch = r.branch ∧ (ended r = true → x = r)
theorem Keep.same {l : List Rv} (h : check l = 0) : Keep l l := ⟨h, Nat.le_refl _, Nat.le_succ _, fun i r hr => ⟨r, hr, rfl, rfl, rfl, fun _ => rfl⟩⟩
theorem Keep.set {l : List Rv} {i : Nat} {r x : Rv} (h : check l = 0) (hr : l[i]? = some r) (he : ended r = false) (h1 : x.number = r.number) (h2 : x.author = r.author) (h3 : x.branch = r.branch) (hb : body x = 0) : Keep l (l.set i x) := by
  obtain ⟨h4, h5⟩ := check_zero.1 h
  have hi := (List.getElem?_eq_some_iff.1 hr).1
  refine ⟨check_zero.2 ⟨by rw [List.length_set]; exact h4, fun j y hy => ?_⟩, by rw [List.length_set]; exact Nat.le_refl _, by rw [List.length_set]; exact Nat.le_succ _, fun j y hy => ?_⟩
  · rw [List.getElem?_set] at hy
    split at hy
    · rename_i e
      subst e
      try rw [if_pos hi] at hy
      obtain rfl := Option.some.inj hy
      exact ⟨by rw [h1]; exact (h5 _ r hr).1, hb⟩
    · exact h5 j y hy
  · by_cases e : i = j
    · subst e
      obtain rfl := Option.some.inj (hr.symm.trans hy)
      exact ⟨x, by rw [List.getElem?_set_self hi], h1, h2, h3, fun k => by rw [he] at k; cases k⟩
    · exact ⟨y, by rw [List.getElem?_set_ne e]; exact hy, rfl, rfl, rfl, fun _ => rfl⟩
theorem propose_keep {l : List Rv} {author branch : ByteArray} {d : List Dg} (h : (propose l author branch d).2.2 = 0) : Keep l (propose l author branch d).1 := by
  unfold propose at h ⊢
  split at h
  · rename_i h1; exact (h1 h).elim
  rename_i h1
  rw [if_neg h1]
  split at h
  · cases h
  rename_i h2
  rw [if_neg h2]
  split at h
  · rename_i h3; exact (h3 h).elim
  rename_i h3
  rw [if_neg h3]
  split at h
  · cases h
  rename_i h4
  rw [if_neg h4]
  split at h
  · cases h
  rename_i h5
  rw [if_neg h5]
  have h1' : check l = 0 := by simpa using h1
  obtain ⟨k1, k2⟩ := check_zero.1 h1'
  rw [not_or, Bool.not_eq_false, Bool.not_eq_false] at h2
  have h3' : ids d = 0 := by simpa using h3
  refine ⟨check_zero.2 ⟨by rw [List.length_append, List.length_singleton]; omega, fun i r hr => ?_⟩, by rw [List.length_append]; omega, by rw [List.length_append, List.length_singleton]; exact Nat.le_refl _, fun i r hr => ?_⟩
  · by_cases hi : i < l.length
    · rw [List.getElem?_append_left hi] at hr
      exact k2 i r hr
    · rw [List.getElem?_append_right (by omega)] at hr
      have hi0 : i - l.length = 0 := by
        have := (List.getElem?_eq_some_iff.1 hr).1
        simpa using this
      rw [hi0] at hr
      obtain rfl := Option.some.inj hr
      refine ⟨?_, body_zero.2 ⟨h2, h3', ⟨(by show (1 : Int) ≤ 1; decide), (by show (1 : Int) ≤ 5; decide)⟩, Nat.zero_le _, fun v hv => by cases hv⟩⟩
      show ((l.length : Int) + 1) = _
      have : i = l.length := by omega
      rw [this]
      rfl
  · have hi := (List.getElem?_eq_some_iff.1 hr).1
    exact ⟨r, by rw [List.getElem?_append_left hi]; exact hr, rfl, rfl, rfl, fun _ => rfl⟩
theorem update_keep {l : List Rv} {n : Int} {who : ByteArray} {d : List Dg} (h : (update l n who d).2 = 0) : Keep l (update l n who d).1 := by
  unfold update at h ⊢
  split at h
  · rename_i h1; exact (h1 h).elim
  rename_i h1
  rw [if_neg h1]
  have h1' : check l = 0 := by simpa using h1
  obtain ⟨i, r, _, hr, he, hf, e⟩ := changed_ok h
  rw [e]
  try dsimp only at hf ⊢
  split at hf
  · cases hf
  rename_i h2
  rw [if_neg h2]
  have hb := body_zero.1 ((check_zero.1 h1').2 i r hr).2
  exact Keep.set h1' hr he rfl rfl rfl (body_zero.2 ⟨hb.1, hf, ⟨(by show (1 : Int) ≤ 1; decide), (by show (1 : Int) ≤ 5; decide)⟩, hb.2.2.2.1, hb.2.2.2.2⟩)
/-- A vote that went through. -/
theorem addVote_ok {l : List Rv} {n : Int} {v : Vt} {need : Int} (h : (addVote l n v need).2 = 0) : check l = 0 ∧ ∃ i r, n = ((i + 1 : Nat) : Int) ∧ l[i]? = some r ∧ ended r = false ∧ vote v = 0 ∧ v.ids = r.ids ∧ r.votes.length ≠ 100 ∧ (addVote l n v need).1 = l.set i (voted v need r) := by
  unfold addVote at h ⊢
  split at h
  · rename_i h1; exact (h1 h).elim
  rename_i h1
  rw [if_neg h1]
  split at h
  · cases h
  rename_i h0
  rw [if_neg h0]
  obtain ⟨i, r, hn, hr, he, hf, e⟩ := changed_ok h
  rw [e]
  try dsimp only at hf ⊢
  split at hf
  · rename_i h2; exact (h2 hf).elim
  rename_i h2
  split at hf
  · cases hf
  rename_i h3
  split at hf
  · cases hf
  rename_i h4
  rw [if_neg h2, if_neg h3, if_neg h4]
  exact ⟨by simpa using h1, i, r, hn, hr, he, by simpa using h2, by simpa using h3, h4, rfl⟩
theorem voted_body {r : Rv} {v : Vt} {need : Int} (hb : body r = 0) (hv : vote v = 0) (hl : r.votes.length ≠ 100) : body (voted v need r) = 0 := by
  obtain ⟨h1, h2, h3, h4, h5⟩ := body_zero.1 hb
  have hf := follows_in { r with votes := r.votes ++ [v] } need
  refine body_zero.2 ⟨h1, h2, ⟨hf.1, ?_⟩, ?_, fun x hx => ?_⟩
  · show follows _ _ ≤ 5
    omega
  · show (r.votes ++ [v]).length ≤ 100
    rw [List.length_append, List.length_singleton]
    omega
  · rcases List.mem_append.1 (show x ∈ r.votes ++ [v] from hx) with hx | hx
    · exact h5 x hx
    · rw [List.mem_singleton.1 hx]; exact hv
theorem addVote_keep {l : List Rv} {n : Int} {v : Vt} {need : Int} (h : (addVote l n v need).2 = 0) : Keep l (addVote l n v need).1 := by
  obtain ⟨h1, i, r, _, hr, he, hv, _, hl, e⟩ := addVote_ok h
  rw [e]
  exact Keep.set h1 hr he rfl rfl rfl (voted_body ((check_zero.1 h1).2 i r hr).2 hv hl)
theorem close_keep {l : List Rv} {n : Int} {who : ByteArray} {s : Int} (h : (close l n who s).2 = 0) : Keep l (close l n who s).1 := by
  unfold close at h ⊢
  split at h
  · rename_i h1; exact (h1 h).elim
  rename_i h1
  rw [if_neg h1]
  split at h
  · cases h
  rename_i h0
  rw [if_neg h0]
  obtain ⟨i, r, _, hr, he, hf, e⟩ := changed_ok h
  rw [e]
  try dsimp only at hf ⊢
  have h1' : check l = 0 := by simpa using h1
  split at hf
  · cases hf
  rename_i h2
  split at hf
  · cases hf
  rename_i h3
  rw [if_neg h2, if_neg h3]
  have hb := body_zero.1 ((check_zero.1 h1').2 i r hr).2
  refine Keep.set h1' hr he rfl rfl rfl (body_zero.2 ⟨hb.1, hb.2.1, ?_, hb.2.2.2.1, hb.2.2.2.2⟩)
  show 1 ≤ s ∧ s ≤ 5
  omega
/-- THE LAW OF ReviewStory. -/
theorem story {l : List Rv} (h : check l = 0) (a : Ac) : Keep l (after l a).1 := by
  unfold after
  split
  · exact Keep.same h
  · rename_i h0
    have h0' : (act l a).2.2 = 0 := by simpa using h0
    unfold act at h0' ⊢
    split at h0'
    · rename_i k; rw [if_pos k]; exact propose_keep h0'
    rename_i k0
    rw [if_neg k0]
    split at h0'
    · rename_i k; rw [if_pos k]; exact update_keep h0'
    rename_i k1
    rw [if_neg k1]
    split at h0'
    · rename_i k; rw [if_pos k]; exact addVote_keep h0'
    rename_i k2
    rw [if_neg k2]
    split at h0'
    · rename_i k; rw [if_pos k]; exact close_keep h0'
    · cases h0'
end Vw
end Go.Proofs.YtojfgidoobgcaaaGreatDoor
