/- Laws of opinions on reviews, in plain Lean. No program. -/
import Derived.Test.YtojfgidoobgcaaaGreatDoorNl
set_option linter.unusedSimpArgs false
set_option linter.unusedVariables false
namespace Go.Proofs.YtojfgidoobgcaaaGreatDoor
open Go
namespace Vw

theorem opinOf_append {who : ByteArray} : ∀ {a b : List Vt} {o : Int}, opinOf who (a ++ b) o = opinOf who b (opinOf who a o)
  | [], b, o => rfl
  | v :: a, b, o => by
    rw [List.cons_append, opinOf, opinOf_append]
    rfl
theorem counts_eq {r x : Rv} (h1 : x.author = r.author) (h2 : x.ids = r.ids) : counts x = counts r := by
  funext v
  unfold counts
  rw [h1, h2]
/-- One vote more. -/
theorem opin_more {r x : Rv} {v : Vt} (h1 : x.author = r.author) (h2 : x.ids = r.ids) (h3 : x.votes = r.votes ++ [v]) (who : ByteArray) : opin x who = if counts r v = true ∧ v.who = who then v.kind else opin r who := by
  unfold opin
  rw [counts_eq h1 h2, h3, List.filter_append, opinOf_append]
  by_cases hc : counts r v = true
  · rw [List.filter_cons_of_pos hc]
    show (if Qm.eqB v.who who = true then v.kind else _) = _
    by_cases hw : v.who = who
    · rw [if_pos (Qm.eqB_iff.2 hw), if_pos ⟨hc, hw⟩]
    · rw [if_neg (fun k => hw (Qm.eqB_iff.1 k)), if_neg (fun k => hw k.2)]
  · rw [List.filter_cons_of_neg hc, if_neg (fun k => hc k.1)]
    rfl
theorem people_same {r x : Rv} (h : ∀ who, opin x who = opin r who) {k : Int} (hk : k ≠ 0) : people x k = people r k :=
  (people_up x k).ext (people_up r k) fun w => by rw [people_mem hk, people_mem hk, h]
theorem opin_same {r x : Rv} (h1 : x.author = r.author) (h2 : x.ids = r.ids) (h3 : x.votes = r.votes) (who : ByteArray) : opin x who = opin r who := by
  unfold opin
  rw [counts_eq h1 h2, h3]
/-- An opinion has a vote that bears it. -/
theorem opin_vote {r : Rv} {who : ByteArray} (h : opin r who ≠ 0) : ∃ v ∈ r.votes, v.who = who ∧ v.kind = opin r who ∧ v.ids = r.ids ∧ who ≠ r.author ∧ (v.kind = 1 ∨ v.kind = 2) := by
  obtain ⟨v, hv, h1, h2⟩ := opinOf_mem h
  obtain ⟨h3, h4⟩ := List.mem_filter.1 hv
  unfold counts at h4
  simp only [Bool.and_eq_true, Bool.not_eq_true', decide_eq_true_eq, Bool.or_eq_true, beq_iff_eq] at h4
  refine ⟨v, h3, h1, h2, h4.2.2, fun e => ?_, h4.2.1⟩
  rw [← h1] at e
  rw [Qm.eqB_iff.2 e] at h4
  cases h4.1
theorem opin_range (r : Rv) (who : ByteArray) : opin r who = 0 ∨ opin r who = 1 ∨ opin r who = 2 := by
  by_cases h : opin r who = 0
  · exact .inl h
  · obtain ⟨v, _, _, h1, _, _, h2⟩ := opin_vote h
    rw [← h1]
    exact .inr h2
theorem opin_author (r : Rv) : opin r r.author = 0 := by
  by_cases h : opin r r.author = 0
  · exact h
  · obtain ⟨_, _, _, _, _, h1, _⟩ := opin_vote h
    exact (h1 rfl).elim
theorem Up.filter {l : List ByteArray} (h : Up l) (p : ByteArray → Bool) : Up (l.filter p) := List.Pairwise.filter p h
/-- THE LAW OF ReviewLast. -/
theorem last_law {r x : Rv} {v : Vt} (h1 : x.author = r.author) (h2 : x.ids = r.ids) (h3 : x.votes = r.votes ++ [v]) (hv : v.ids = r.ids) (hk : 1 ≤ v.kind ∧ v.kind ≤ 3) :
    ((people r 1).filter (fun w => !Qm.eqB w v.who) = (people x 1).filter (fun w => !Qm.eqB w v.who)) ∧ r.author ∉ people x 1 ∧
    (v.kind = 3 ∨ v.who = r.author → people r 1 = people x 1) ∧ (v.kind ≠ 3 → v.who ≠ r.author → (v.who ∈ people x 1 ↔ v.kind = 1)) := by
  have ho := opin_more h1 h2 h3
  refine ⟨((people_up r 1).filter _).ext ((people_up x 1).filter _) fun w => ?_, fun hm => ?_, fun hn => ?_, fun k3 ka => ?_⟩
  · rw [List.mem_filter, List.mem_filter, people_mem (by decide), people_mem (by decide), ho]
    by_cases e : v.who = w
    · subst e
      simp [Qm.eqB_iff.2]
    · rw [if_neg (fun k => e k.2)]
  · rw [people_mem (by decide), ← h1, opin_author] at hm
    cases hm
  · refine (people_same (fun w => ?_) (by decide)).symm
    rw [ho, if_neg]
    rintro ⟨k, _⟩
    unfold counts at k
    simp only [Bool.and_eq_true, Bool.not_eq_true', decide_eq_true_eq, Bool.or_eq_true, beq_iff_eq] at k
    rcases hn with hn | hn
    · omega
    · rw [Qm.eqB_iff.2 hn] at k
      cases k.1
  · rw [people_mem (by decide), ho, if_pos]
    refine ⟨?_, rfl⟩
    unfold counts
    simp only [Bool.and_eq_true, Bool.not_eq_true', decide_eq_true_eq, Bool.or_eq_true, beq_iff_eq]
    refine ⟨?_, by omega, hv⟩
    cases e : Qm.eqB v.who r.author
    · rfl
    · exact (ka (Qm.eqB_iff.1 e)).elim
theorem ids_zero_ne {l : List Dg} (h : ids l = 0) : l ≠ [] := fun e => by
  rw [e] at h
  cases h
/-- An update that went through. -/
theorem update_ok {l : List Rv} {n : Int} {who : ByteArray} {d : List Dg} (h : (update l n who d).2 = 0) : check l = 0 ∧ ∃ i r, n = ((i + 1 : Nat) : Int) ∧ l[i]? = some r ∧ ended r = false ∧ who = r.author ∧ ids d = 0 ∧ (update l n who d).1 = l.set i { r with ids := d, state := 1 } := by
  unfold update at h ⊢
  split at h
  · rename_i h1; exact (h1 h).elim
  rename_i h1
  rw [if_neg h1]
  obtain ⟨i, r, hn, hr, he, hf, e⟩ := changed_ok h
  rw [e]
  split at hf
  · cases hf
  rename_i h2
  rw [if_neg h2]
  exact ⟨by simpa using h1, i, r, hn, hr, he, Qm.eqB_iff.1 (by simpa using h2), hf, rfl⟩
theorem update_of {l : List Rv} {i : Nat} {r : Rv} {d : List Dg} (h : check l = 0) (hr : l[i]? = some r) (he : ended r = false) (hd : ids d = 0) : update l ((i + 1 : Nat) : Int) r.author d = (l.set i { r with ids := d, state := 1 }, 0) := by
  unfold update changed
  rw [if_neg (by simpa using h), if_neg (by omega)]
  have e : ((((i + 1 : Nat) : Int) - 1).toNat) = i := by omega
  rw [e, hr]
  dsimp only
  rw [he, if_neg (by simp)]
  have e2 : Qm.eqB r.author r.author = true := Qm.eqB_iff.2 rfl
  simp [hd, e2]
/-- THE LAW OF ReviewUpdates. -/
theorem updates_law {l m : List Rv} {i : Nat} {r : Rv} {d : List Dg} (hr : l[i]? = some r) (h : update l ((i + 1 : Nat) : Int) r.author d = (m, 0)) :
    m.length = l.length ∧ ∃ x, m[i]? = some x ∧ x.state = 1 ∧ x.votes = r.votes ∧ x.ids = d ∧ (∀ who ∈ people x 1, ∃ v ∈ x.votes, v.who = who ∧ v.ids = d) ∧
      ∃ b y, update m ((i + 1 : Nat) : Int) r.author r.ids = (b, 0) ∧ b.length = l.length ∧ b[i]? = some y ∧ people y 1 = people r 1 := by
  obtain ⟨h1, j, r', hn, hr', he, _, hd, e⟩ := update_ok (l := l) (n := ((i + 1 : Nat) : Int)) (who := r.author) (d := d) (by rw [h])
  obtain rfl : i = j := by omega
  obtain rfl := Option.some.inj (hr.symm.trans hr')
  rw [h] at e
  have e : m = l.set i { r with ids := d, state := 1 } := e
  have hi := (List.getElem?_eq_some_iff.1 hr).1
  have hm : m[i]? = some { r with ids := d, state := 1 } := by rw [e, List.getElem?_set_self hi]
  have hck : check m = 0 := by
    have := update_keep (l := l) (n := ((i + 1 : Nat) : Int)) (who := r.author) (d := d) (by rw [h])
    rw [h] at this
    exact this.ok
  have hri : ids r.ids = 0 := (body_zero.1 ((check_zero.1 h1).2 i r hr).2).2.1
  refine ⟨by rw [e, List.length_set], _, hm, rfl, rfl, rfl, fun who hw => ?_, ?_⟩
  · rw [people_mem (by decide)] at hw
    obtain ⟨v, hv, g1, _, g2, _⟩ := opin_vote (r := { r with ids := d, state := 1 }) (who := who) (by rw [hw]; decide)
    exact ⟨v, hv, g1, g2⟩
  · have hu := update_of (d := r.ids) hck hm rfl hri
    have hu : update m ((i + 1 : Nat) : Int) r.author r.ids = _ := hu
    refine ⟨_, { r with ids := r.ids, state := 1 }, hu, by rw [List.length_set, e, List.length_set], by rw [List.getElem?_set_self (by rw [e, List.length_set]; exact hi)], ?_⟩
    exact people_same (opin_same rfl rfl rfl) (by decide)

/-! ### The last word of a person -/
theorem opinOf_last {who : ByteArray} : ∀ {l : List Vt} {o : Int}, opinOf who l o = match l.reverse.find? (fun v => Qm.eqB v.who who) with
    | some v => v.kind
    | none => o
  | [], o => rfl
  | v :: l, o => by
    unfold opinOf
    rw [opinOf_last, List.reverse_cons, List.find?_append]
    cases h : l.reverse.find? (fun v => Qm.eqB v.who who) with
    | some x => rfl
    | none =>
      by_cases hv : Qm.eqB v.who who = true
      · simp [hv]
      · simp [hv]
/-- The kind of the last vote of a person that is no comment and has seen the patches. -/
def lastKind (r : Rv) (who : ByteArray) : Int := match r.votes.reverse.find? (fun v => Qm.eqB v.who who && (v.kind != 3 && decide (v.ids = r.ids))) with
  | some v => v.kind
  | none => 0
theorem find_filter {α : Type} {p q : α → Bool} : ∀ {l : List α}, (l.filter p).find? q = l.find? (fun x => p x && q x)
  | [] => rfl
  | x :: l => by
    by_cases h : p x = true
    · rw [List.filter_cons_of_pos h, List.find?_cons, List.find?_cons, find_filter, h]
      rfl
    · rw [List.filter_cons_of_neg h, List.find?_cons, find_filter]
      simp [h]
theorem lastKind_opin {r : Rv} (hv : ∀ v ∈ r.votes, 1 ≤ v.kind ∧ v.kind ≤ 3) {who : ByteArray} (hw : who ≠ r.author) : lastKind r who = opin r who := by
  unfold lastKind opin
  rw [opinOf_last, ← List.filter_reverse, find_filter]
  have : r.votes.reverse.find? (fun v => Qm.eqB v.who who && (v.kind != 3 && decide (v.ids = r.ids))) = r.votes.reverse.find? (fun v => counts r v && Qm.eqB v.who who) := by
    have key : ∀ {l : List Vt}, (∀ v ∈ l, 1 ≤ v.kind ∧ v.kind ≤ 3) → l.find? (fun v => Qm.eqB v.who who && (v.kind != 3 && decide (v.ids = r.ids))) = l.find? (fun v => counts r v && Qm.eqB v.who who) := by
      intro l
      induction l with
      | nil => intro _; rfl
      | cons x l ih =>
        intro h
        have hx := h x (List.mem_cons_self ..)
        have e : (Qm.eqB x.who who && (x.kind != 3 && decide (x.ids = r.ids))) = (counts r x && Qm.eqB x.who who) := by
          unfold counts
          cases h1 : Qm.eqB x.who who
          · simp
          · have h2 := Qm.eqB_iff.1 h1
            have h3 : Qm.eqB x.who r.author = false := by
              cases h4 : Qm.eqB x.who r.author
              · rfl
              · exact (hw (h2 ▸ Qm.eqB_iff.1 h4)).elim
            rw [h3]
            have h5 : (x.kind != 3) = (x.kind == 1 || x.kind == 2) := by
              rcases (by omega : x.kind = 1 ∨ x.kind = 2 ∨ x.kind = 3) with k | k | k <;> rw [k] <;> rfl
            rw [h5]
            simp
        rw [List.find?_cons, List.find?_cons, e, ih (fun v hv => h v (List.mem_cons_of_mem _ hv))]
    exact key (fun v h => hv v (by simpa using h))
  rw [this]
/-- THE LAW OF ReviewApproval. -/
theorem approval_law {l m : List Rv} {n : Int} {v : Vt} {need : Int} (h : addVote l n v need = (m, 0)) : ∃ i x, n = ((i + 1 : Nat) : Int) ∧ m[i]? = some x ∧ (∀ y ∈ x.votes, 1 ≤ y.kind ∧ y.kind ≤ 3) ∧
    (x.state = 2 ↔ people x 2 = [] ∧ need ≤ (people x 1).length) ∧ (x.state = 3 ↔ people x 2 ≠ []) := by
  obtain ⟨h1, i, r, hn, hr, _, hv, _, hl, e⟩ := addVote_ok (l := l) (n := n) (v := v) (need := need) (by rw [h])
  rw [h] at e
  have e : m = l.set i (voted v need r) := e
  have hi := (List.getElem?_eq_some_iff.1 hr).1
  have hb := voted_body (need := need) ((check_zero.1 h1).2 i r hr).2 hv hl
  refine ⟨i, voted v need r, hn, by rw [e, List.getElem?_set_self hi], fun y hy => ?_, ?_⟩
  · have := (body_zero.1 hb).2.2.2.2 y hy
    unfold vote at this
    split at this
    · cases this
    split at this
    · cases this
    rename_i k
    omega
  · have e2 : ∀ {k : Int}, k ≠ 0 → people (voted v need r) k = people { r with votes := r.votes ++ [v] } k := fun hk => people_same (opin_same rfl rfl rfl) hk
    rw [e2 (by decide), e2 (by decide)]
    show (follows _ _ = 2 ↔ _) ∧ (follows _ _ = 3 ↔ _)
    unfold follows
    by_cases h2 : people { r with votes := r.votes ++ [v] } 2 = []
    · rw [if_neg (by simpa using h2)]
      by_cases h3 : need ≤ (people { r with votes := r.votes ++ [v] } 1).length
      · rw [if_pos h3]
        exact ⟨⟨fun _ => ⟨h2, h3⟩, fun _ => rfl⟩, ⟨fun k => absurd k (by decide), fun k => (k h2).elim⟩⟩
      · rw [if_neg h3]
        exact ⟨⟨fun k => absurd k (by decide), fun k => (h3 k.2).elim⟩, ⟨fun k => absurd k (by decide), fun k => (k h2).elim⟩⟩
    · rw [if_pos h2]
      exact ⟨⟨fun k => absurd k (by decide), fun k => (h2 k.1).elim⟩, ⟨fun _ => h2, fun _ => rfl⟩⟩
end Vw
end Go.Proofs.YtojfgidoobgcaaaGreatDoor
