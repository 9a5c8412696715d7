/- run's parts, out of it and into it. Plain Lean, no program. -/
import Derived.Test.YtgfiddlmeopebaaGreatDoorRt
set_option linter.unusedSimpArgs false
set_option linter.unusedVariables false
namespace Go.Proofs.YtgfiddlmeopebaaGreatDoor
open Go.RowKit Pa

theorem news_iff {a b : Qp} : Qm.news a.kind a.path a.to_ b.kind b.path b.to_ = true ↔ ∀ s, New a s → New b s → False := by
  unfold Qm.news
  have h : ∀ s t : ByteArray, (!Qm.eqB s t) = true ↔ s ≠ t := fun s t => by
    rw [Bool.not_eq_true', ← Bool.not_eq_true, Qm.eqB_iff]
  rw [Bool.or_eq_true, Bool.or_eq_true, h, Bool.not_eq_true', Bool.not_eq_true']
  constructor
  · intro k s h1 h2
    rw [newPath_iff] at h1 h2
    rw [h1, h2] at k
    rcases k with k | k | k
    · cases k
    · cases k
    · exact k rfl
  · intro k
    cases e1 : (Qm.newPath a.kind a.path a.to_).2
    · exact .inl rfl
    cases e2 : (Qm.newPath b.kind b.path b.to_).2
    · exact .inr (.inl rfl)
    refine .inr (.inr fun e => k _ (newPath_iff.2 (Prod.ext rfl e1)) (newPath_iff.2 (Prod.ext e.symm e2)))
theorem free_iff {a b c d : Qp} : Qp.free a b c d = true ↔ (∀ s, New c s → Qm.frees a.kind = true → s ≠ a.path) ∧ (∀ s, New a s → New b s → False) ∧ (∀ s, New d s → New c s → False) := by
  unfold Qp.free Qm.xfree
  dsimp only [Qp.bare, Qp.pv]
  rw [Bool.and_eq_true, Bool.and_eq_true, news_iff, news_iff]
  refine and_congr ?_ Iff.rfl
  rw [Bool.not_eq_true', ← Bool.not_eq_true, Bool.and_eq_true, Bool.and_eq_true, Qm.eqB_iff]
  constructor
  · rintro k s h1 h2 h3
    rw [newPath_iff] at h1
    rw [h1] at k
    exact k ⟨⟨rfl, h2⟩, h3⟩
  · rintro k ⟨⟨h1, h2⟩, h3⟩
    exact k _ (newPath_iff.2 (Prod.ext rfl h1)) h2 h3
theorem Th.shq {q q' r r' : Qp} (h : Th q r r') (k : Sh q q') : Th q' r r' := by
  obtain ⟨k1, k2, k3⟩ := k
  exact ⟨h.kind, fun e => by rw [← k1, ← k2, ← k3]; exact h.new e, fun e => by rw [← k1, ← k2, ← k3]; exact h.old e, fun e => by rw [← k1, ← k2, ← k3]; exact h.to5 e, h.to0⟩
theorem Th.shr {q r r' r2 : Qp} (h : Th q r r') (k : Sh r' r2) : Th q r r2 := by
  obtain ⟨k1, k2, k3⟩ := k
  exact ⟨by rw [← k1]; exact h.kind, fun e => by rw [← k2]; exact h.new e, fun e => by rw [← k2]; exact h.old e, fun e => by rw [← k3]; exact h.to5 e, fun e => by rw [← k3]; exact h.to0 e⟩
theorem New.sh {q q' : Qp} {s : ByteArray} (h : New q s) (k : Sh q q') : New q' s := by
  obtain ⟨k1, k2, k3⟩ := k
  unfold New at h ⊢
  rw [← k1, ← k2, ← k3]
  exact h
/-- Out of run. -/
theorem run_pieces {a b c d : Qp} (h : a.run b = (c, d, true)) (ka : 1 ≤ a.kind ∧ a.kind ≤ 8) (kb : 1 ≤ b.kind ∧ b.kind ≤ 8) :
    Th a.inv b c ∧ Th c a d ∧ (∀ s, New a s → New b s → False) ∧ (∀ s, New d s → New c s → False) ∧ (a.kind = 5 → b.kind = 5 → a.to_ ≠ b.path) ∧ Qp.contents a b { b with path := c.path, to_ := c.to_ } { a with path := d.path, to_ := d.to_ } = (c, d, true) ∧ (∀ s, New c s → Qm.frees a.kind = true → s ≠ a.path) := by
  unfold Qp.run Qp.runOf at h
  split at h
  rotate_left
  · simp only [Prod.mk.injEq] at h
    exact absurd h.2.2 (by decide)
  rename_i hh
  simp only [Bool.and_eq_true, decide_eq_true_eq] at hh
  obtain ⟨⟨k1, k2⟩, hf, he, hm, hc, z1, z2⟩ := hh
  simp only [Prod.mk.injEq, and_true] at h
  obtain ⟨rfl, rfl⟩ := h
  have p1 := through_th (inv_kinds ka).1 k1
  have hcore := contents_core a b (Qp.through b a.inv).1 (Qp.through a (Qp.through b a.inv).1).1
  have kC : (Qp.through b a.inv).1.kind = b.kind := rfl
  have p2 := through_th (by rw [kC]; exact kb) k2
  have c1 : (Qp.through b a.inv).1 = { b with path := (Qp.through b a.inv).1.path, to_ := (Qp.through b a.inv).1.to_ } := rfl
  have c2 : (Qp.through a (Qp.through b a.inv).1).1 = { a with path := (Qp.through a (Qp.through b a.inv).1).1.path, to_ := (Qp.through a (Qp.through b a.inv).1).1.to_ } := rfl
  generalize (Qp.through b a.inv).1 = C at *
  generalize (Qp.through a C).1 = D at *
  obtain ⟨_, _, g3, g4⟩ := hcore
  obtain ⟨f1, f2, f3⟩ := free_iff.1 hf
  refine ⟨p1.shr g3, (p2.shq g3).shr g4, f2, fun s h1 h2 => f3 s (h1.sh g4.symm) (h2.sh g3.symm), moves_iff.1 hm, ?_, fun s h1 h2 => f1 s (h1.sh g3.symm) h2⟩
  rw [← g3.2.1, ← g3.2.2, ← g4.2.1, ← g4.2.2, ← c1, ← c2, ← hc]
/-- Into run. -/
theorem run_of {a b c d : Qp} (ka : 1 ≤ a.kind ∧ a.kind ≤ 8) (kb : 1 ≤ b.kind ∧ b.kind ≤ 8) (hc : Th a.inv b c) (hd : Th c a d) (f1 : ∀ s, New c s → Qm.frees a.kind = true → s ≠ a.path) (f2 : ∀ s, New a s → New b s → False) (f3 : ∀ s, New d s → New c s → False)
    (hm : a.kind = 5 → b.kind = 5 → a.to_ ≠ b.path) (hk : Qp.contents a b { b with path := c.path, to_ := c.to_ } { a with path := d.path, to_ := d.to_ } = (c, d, true)) (z1 : c.check = 0) (z2 : d.check = 0) : a.run b = (c, d, true) := by
  have e1 := th_through (inv_kinds ka).1 hc
  have sc : Sh c { b with path := c.path, to_ := c.to_ } := ⟨hc.kind, rfl, rfl⟩
  have sd : Sh d { a with path := d.path, to_ := d.to_ } := ⟨hd.kind, rfl, rfl⟩
  have e2 := th_through (q := { b with path := c.path, to_ := c.to_ }) kb (hd.shq sc)
  unfold Qp.run Qp.runOf
  rw [e1]
  dsimp only
  rw [e2]
  dsimp only
  rw [hk]
  rw [if_pos]
  rw [free_iff.2 ⟨fun s h => f1 s (h.sh sc.symm), f2, fun s h h' => f3 s (h.sh sd.symm) (h'.sh sc.symm)⟩, moves_iff.2 hm, empty_of (b := b) (c := { b with path := c.path, to_ := c.to_ }) (d := d) rfl (hd.shq sc)]
  simp [z1, z2]
/-- What an inverse makes, the patch has freed. -/
theorem new_inv {q : Qp} (kq : 1 ≤ q.kind ∧ q.kind ≤ 8) {s : ByteArray} (h : New q.inv s) : (q.kind = 2 ∨ q.kind = 4 ∨ q.kind = 5) ∧ s = q.path := by
  by_cases k5 : q.kind = 5
  · obtain ⟨j1, j2, j3⟩ := inv_mv k5
    rcases h with ⟨e, _⟩ | ⟨_, e⟩
    · have := adds_iff.1 e
      omega
    · exact ⟨by omega, by rw [e, j3]⟩
  · by_cases k6 : 6 ≤ q.kind
    · obtain ⟨j1, j2, j3⟩ := inv_edit k6
      rcases h with ⟨e, _⟩ | ⟨e, _⟩
      · have := adds_iff.1 e
        omega
      · omega
    · by_cases k1 : q.kind = 1 ∨ q.kind = 3
      · obtain ⟨j0, j1, j2, j3⟩ := inv_makes k1
        rcases h with ⟨e, _⟩ | ⟨e, _⟩
        · have := adds_iff.1 e
          omega
        · omega
      · obtain ⟨j0, j1, j2, j3⟩ := inv_undoes (q := q) (by omega)
        rcases h with ⟨_, e⟩ | ⟨e, _⟩
        · exact ⟨by omega, by rw [e, j2]⟩
        · omega
/-- What an inverse frees, the patch has made. -/
theorem frees_inv {q : Qp} (kq : 1 ≤ q.kind ∧ q.kind ≤ 8) (h : Qm.frees q.inv.kind = true) : New q q.inv.path := by
  unfold Qm.frees at h
  simp only [Bool.or_eq_true, beq_iff_eq] at h
  by_cases k5 : q.kind = 5
  · exact .inr ⟨k5, (inv_mv k5).2.1⟩
  · by_cases k6 : 6 ≤ q.kind
    · have := (inv_edit k6).1
      omega
    · by_cases k1 : q.kind = 1 ∨ q.kind = 3
      · exact .inl ⟨adds_iff.2 k1, (inv_makes k1).2.2.1⟩
      · have := (inv_undoes (q := q) (by omega)).2.1
        omega
/-- The two patches do not free one path. -/
theorem Th.freed {x b c : Qp} (kx : 1 ≤ x.kind ∧ x.kind ≤ 8) (kb : 1 ≤ b.kind ∧ b.kind ≤ 8) (mx : Out x) (h : Th x.inv b c) : ∀ s, New b.inv s → New x.inv s → False := by
  intro s h1 h2
  obtain ⟨b1, rfl⟩ := new_inv kb h1
  obtain ⟨x1, x2⟩ := new_inv kx h2
  have := h.old (adds_not.2 (by omega))
  unfold Af at this
  by_cases k5 : x.kind = 5
  · obtain ⟨i1, i2, i3⟩ := inv_mv k5
    rw [if_pos i1, i2, i3, x2] at this
    rcases this with ⟨e, e1, e2, e3⟩ | ⟨_, e2, _⟩
    · exact (mx k5).1 ⟨e, e1, e2⟩
    · exact e2 (wi.refl _)
  · obtain ⟨i0, i1, i2, i3⟩ := inv_undoes (q := x) (by omega)
    rw [if_neg (by omega), if_pos (by omega), i2, x2] at this
    exact this.2 (wi.refl _)
/-- THE SQUARE READ BACKWARDS: run, the contents left. -/
theorem run_turn {x b c d : Qp} (hx : x.check = 0) (hb : b.check = 0) (hc : c.check = 0) (hd : d.check = 0) (h1 : x.run b = (c, d, true)) (h2 : c.run d = (x, b, true))
    (hk : Qp.contents b.inv x.inv { x.inv with path := d.inv.path, to_ := d.inv.to_ } { b.inv with path := c.inv.path, to_ := c.inv.to_ } = (d.inv, c.inv, true)) : b.inv.run x.inv = (d.inv, c.inv, true) := by
  have kx := (check_parts hx).1
  have kb := (check_parts hb).1
  have kc := (check_parts hc).1
  have kd := (check_parts hd).1
  have mx : Out x := fun e => check_move hx e
  have mb : Out b := fun e => check_move hb e
  have mc : Out c := fun e => check_move hc e
  have md : Out d := fun e => check_move hd e
  obtain ⟨p1, p2, p3, p4, p5, _⟩ := run_pieces h1 kx kb
  obtain ⟨q1, q2, q3, q4, q5, _⟩ := run_pieces h2 kc kd
  have ap := Th.apart kx kc mx mc p1 q2 p2 p5
  refine run_of (inv_kinds kb).1 (inv_kinds kx).1 ?_ (Th.turn2 kx kc mx mb mc md p1 q2 p2 p3 p5) (fun s h h' e => ap s (by rw [e]; exact frees_inv kb h') h) (Th.freed kx kb mx p1) (fun s h h' => Th.freed kc kd mc q1 s h' h) (fun e1 e2 e => ?_) hk (inv_check hd) (inv_check hc)
  · rw [inv_inv hb]
    exact Th.turn kx kc mx mc (fun e => (mb e).2) q2 p2 p3 p5
  · have k1 := (inv_kinds kb).2 e1
    have k2 := (inv_kinds kx).2 e2
    rw [(inv_mv k1).2.2, (inv_mv k2).2.1] at e
    exact p5 k2 k1 e.symm
/-- Two edits exchanged, read backwards. -/
theorem Cross.turn {p q q' p' : Int} {l1 l2 m1 m2 : Nat} (h : Cross p l1 l2 q m1 m2 q' p') : Cross q m2 m1 p l2 l1 p' q' := by
  unfold Cross at *
  omega
/-- An inverse has the inverse of what does not turn. -/
theorem Core.inv {q q' : Qp} (h : Core q q') : Core q.inv q'.inv := by
  obtain ⟨h1, h2, h3, h4, h5, h6, h7, h8⟩ := h
  unfold Qp.inv
  rw [h1]
  repeat' split
  all_goals exact ⟨by simp_all, by simp_all, by simp_all, by simp_all, by simp_all, by simp_all, by simp_all, by simp_all⟩
/-- Hunks that commute do so backwards. -/
theorem hunks_turn {a b a' b' : Hv} (h : (a.commute b).2.2 = true) (e1 : a'.at_ = a.at_) (e2 : a'.n1 = a.n2) (e3 : a'.n2 = a.n1) (e4 : b'.at_ = b.at_) (e5 : b'.n1 = b.n2) (e6 : b'.n2 = b.n1) : (b'.commute a').2.2 = true := by
  have c1 : a'.check = a.check := by unfold Hv.check; rw [e1, e2, e3, Nat.add_comm a.n2]
  have c2 : b'.check = b.check := by unfold Hv.check; rw [e4, e5, e6, Nat.add_comm b.n2]
  unfold Hv.commute at h ⊢
  rw [c1, c2]
  split at h
  · cases h
  rename_i g0
  rw [if_neg (fun k => g0 k.symm)]
  rw [e1, e4, e6, e2]
  have k1 : (b'.shift a'.growth).at_ = (b.shift (-a.growth)).at_ := by simp only [Hv.shift, Hv.growth, e2, e3, e4]; omega
  have k2 : (a'.shift (-b'.growth)).at_ = (a.shift b.growth).at_ := by simp only [Hv.shift, Hv.growth, e1, e5, e6]; omega
  rw [k1, k2]
  by_cases g1 : a.at_ + (a.n2 : Int) < b.at_
  · rw [if_pos g1] at h
    by_cases g2 : (b.shift (-a.growth)).at_ ≤ 1099511627776
    · rw [if_neg (by omega), if_pos g1, if_pos g2]
    · rw [if_neg g2] at h
      cases h
  · rw [if_neg g1] at h
    by_cases g2 : b.at_ + (b.n1 : Int) < a.at_
    · rw [if_pos g2] at h
      by_cases g3 : (a.shift b.growth).at_ ≤ 1099511627776
      · rw [if_pos g2, if_pos g3]
      · rw [if_neg g3] at h
        cases h
    · rw [if_neg g2] at h
      cases h
/-- Bytes that are exchanged are so backwards. -/
theorem bytes_turn {a b c d a' b' c' d' : Pv} (h : (a.xbytes b c d).2.2 = true) (e1 : a'.off = a.off) (e2 : a'.so = a.sn) (e3 : a'.sn = a.so) (e4 : b'.off = b.off) (e5 : b'.so = b.sn) (e6 : b'.sn = b.so) : (b'.xbytes a' c' d').2.2 = true := by
  unfold Pv.xbytes at h ⊢
  rw [e1, e2, e3, e4, e5, e6]
  split at h
  · rename_i g1
    rw [if_neg (by omega), if_pos g1]
  · rename_i g1
    split at h
    · rename_i g2
      rw [if_pos g2]
    · cases h
/-- The contents of two edits of one file: what the flag says. -/
theorem contents_edits {x b C D : Qp} (kx : 6 ≤ x.kind) (kb : 6 ≤ b.kind) (hp : x.path = C.path) (h : (Qp.contents x b C D).2.2 = true) :
    ¬ (x.kind = 8 ∧ b.kind = 8) ∧ (x.kind = 6 → b.kind = 6 → (x.bare.hunk.commute b.bare.hunk).2.2 = true) ∧ (x.kind = 7 → b.kind = 7 → (x.bare.xbytes b.bare C.bare D.bare).2.2 = true) ∧ ¬ (x.kind = 6 ∧ b.kind = 7) ∧ ¬ (x.kind = 7 ∧ b.kind = 6) := by
  have a1 : Qm.adds x.kind = false := adds_not.2 (by omega)
  have a2 : Qm.adds b.kind = false := adds_not.2 (by omega)
  have a3 : Qm.eqB x.path C.path = true := Qm.eqB_iff.2 hp
  unfold Qp.contents at h
  rw [if_neg (by simp [a1, a2, a3])] at h
  by_cases g1 : b.kind = 2 ∨ (x.kind = 8 ∧ b.kind = 8)
  · rw [if_pos g1] at h
    cases h
  rw [if_neg g1] at h
  by_cases g2 : x.kind = 6 ∧ b.kind = 6
  · rw [if_pos g2] at h
    by_cases g3 : (x.bare.hunk.commute b.bare.hunk).2.2 = true
    · exact ⟨by omega, fun _ _ => g3, fun e => by omega, by omega, by omega⟩
    · rw [if_neg g3] at h
      cases h
  rw [if_neg g2] at h
  by_cases g4 : x.kind = 7 ∧ b.kind = 7
  · rw [if_pos g4] at h
    exact ⟨by omega, fun e => by omega, fun _ _ => h, by omega, by omega⟩
  rw [if_neg g4] at h
  by_cases g5 : (x.kind = 6 ∨ x.kind = 7) ∧ (b.kind = 6 ∨ b.kind = 7)
  · rw [if_pos g5] at h
    cases h
  · exact ⟨by omega, fun e1 e2 => by omega, fun e1 e2 => by omega, by omega, by omega⟩
/-- When the contents say yes. -/
theorem contents_yes {a b C D : Qp} (h : Qm.adds a.kind = false → Qm.adds b.kind = false → a.path = C.path → b.kind ≠ 2 ∧ ¬ (a.kind = 8 ∧ b.kind = 8) ∧ (a.kind = 6 → b.kind = 6 → (a.bare.hunk.commute b.bare.hunk).2.2 = true) ∧ (a.kind = 7 → b.kind = 7 → (a.bare.xbytes b.bare C.bare D.bare).2.2 = true) ∧ ¬ (a.kind = 6 ∧ b.kind = 7) ∧ ¬ (a.kind = 7 ∧ b.kind = 6)) : (Qp.contents a b C D).2.2 = true := by
  unfold Qp.contents
  by_cases g0 : Qm.adds a.kind = true ∨ Qm.adds b.kind = true ∨ Qm.eqB a.path C.path = false
  · rw [if_pos g0]
  rw [if_neg g0]
  simp only [not_or, Bool.not_eq_true, Bool.not_eq_false] at g0
  obtain ⟨k1, k2, k3, k4, k5, k6⟩ := h g0.1 g0.2.1 (Qm.eqB_iff.1 g0.2.2)
  rw [if_neg (by omega)]
  by_cases g2 : a.kind = 6 ∧ b.kind = 6
  · rw [if_pos g2, if_pos (k3 g2.1 g2.2)]
  rw [if_neg g2]
  by_cases g4 : a.kind = 7 ∧ b.kind = 7
  · rw [if_pos g4]
    exact k4 g4.1 g4.2
  rw [if_neg g4, if_neg (by omega)]
theorem inv_edit_eq {q : Qp} (h : 6 ≤ q.kind) : q.inv = { q with old := q.new, new := q.old, so := q.sn, sn := q.so, om := q.nm, nm := q.om } := by
  unfold Qp.inv
  rw [if_neg (by omega), if_neg (by omega), if_neg (by omega), if_neg (by omega), if_neg (by omega)]
theorem inv_high {q : Qp} (k : 1 ≤ q.kind ∧ q.kind ≤ 8) (h : 6 ≤ q.inv.kind) : 6 ≤ q.kind := by
  by_cases k5 : q.kind = 5
  · have := (inv_mv k5).1
    omega
  · by_cases k6 : 6 ≤ q.kind
    · exact k6
    · by_cases k1 : q.kind = 1 ∨ q.kind = 3
      · have := (inv_makes k1).2.1
        omega
      · have := (inv_undoes (q := q) (by omega)).2.1
        omega
theorem inv_two {q : Qp} (k : 1 ≤ q.kind ∧ q.kind ≤ 8) (h : q.inv.kind = 2) : q.kind = 1 := by
  by_cases k5 : q.kind = 5
  · have := (inv_mv k5).1
    omega
  · by_cases k6 : 6 ≤ q.kind
    · have := (inv_edit k6).1
      omega
    · by_cases k1 : q.kind = 1 ∨ q.kind = 3
      · have := (inv_makes k1).2.1
        omega
      · have := (inv_undoes (q := q) (by omega)).2.1
        omega
/-- THE SQUARE READ BACKWARDS: the contents say yes. -/
theorem contents_turn {x b c d C D C' D' : Qp} (kx : 1 ≤ x.kind ∧ x.kind ≤ 8) (kb : 1 ≤ b.kind ∧ b.kind ≤ 8) (hb : Th x c b) (hd : Th c x d) (hn : ∀ s, New x s → New b s → False)
    (hC : C.path = c.path) (hC' : C'.path = d.inv.path) (h : (Qp.contents x b C D).2.2 = true) : (Qp.contents b.inv x.inv C' D').2.2 = true := by
  have kbc := hb.kind
  have kdx := hd.kind
  refine contents_yes fun h1 h2 hp => ?_
  rw [hC'] at hp
  have edits : 6 ≤ x.kind → 6 ≤ b.kind → x.path = C.path := by
    intro e1 e2
    rw [(inv_edit e2).2.1, (inv_edit (q := d) (by omega)).2.1, (hb.still (by omega)).1, (hd.still (by omega)).1] at hp
    rw [hC, hp]
  have all : 6 ≤ x.inv.kind → 6 ≤ b.inv.kind → ¬ (x.kind = 8 ∧ b.kind = 8) ∧ (x.kind = 6 → b.kind = 6 → (x.bare.hunk.commute b.bare.hunk).2.2 = true) ∧ (x.kind = 7 → b.kind = 7 → (x.bare.xbytes b.bare C.bare D.bare).2.2 = true) ∧ ¬ (x.kind = 6 ∧ b.kind = 7) ∧ ¬ (x.kind = 7 ∧ b.kind = 6) ∧ x.inv.kind = x.kind ∧ b.inv.kind = b.kind := by
    intro e1 e2
    have e3 := inv_high kx e1
    have e4 := inv_high kb e2
    obtain ⟨c1, c2, c3, c4, c5⟩ := contents_edits e3 e4 (edits e3 e4) h
    exact ⟨c1, c2, c3, c4, c5, (inv_edit e3).1, (inv_edit e4).1⟩
  refine ⟨fun e => ?_, fun e => ?_, fun e1 e2 => ?_, fun e1 e2 => ?_, fun e => ?_, fun e => ?_⟩
  · have x1 := inv_two kx e
    have nb := adds_not.1 h1
    obtain ⟨_, _, j2, _⟩ := inv_makes (q := d) (by omega)
    rw [j2] at hp
    obtain ⟨sp, st⟩ := hb.still (by omega)
    have hnew := hd.new (adds_iff.2 (by omega))
    unfold Na at hnew
    by_cases b5 : b.kind = 5
    · rw [(inv_mv b5).2.1, st] at hp
      rw [if_pos (by omega), ← hp] at hnew
      rcases hnew with ⟨f, f0, f1, f2, f3⟩ | ⟨_, _, f3⟩
      · exact f0 (by simpa using f3)
      · exact hn x.path (.inl ⟨adds_iff.2 (by omega), rfl⟩) (.inr ⟨b5, by rw [st]; exact (L_inj f3).symm⟩)
    · rw [if_neg (by omega)] at hnew
      have dp : d.path = x.path := L_inj hnew.1
      by_cases b6 : 6 ≤ b.kind
      · rw [(inv_edit b6).2.1, sp, dp] at hp
        have := hb.old (adds_not.2 (by omega))
        unfold Af at this
        rw [if_neg (by omega), if_pos (by omega)] at this
        exact this.2 (by rw [hp]; exact wi.refl _)
      · by_cases b1 : b.kind = 1 ∨ b.kind = 3
        · rw [(inv_makes b1).2.2.1, dp] at hp
          exact hn x.path (.inl ⟨adds_iff.2 (by omega), rfl⟩) (.inl ⟨adds_iff.2 b1, hp.symm⟩)
        · have := (inv_undoes (q := b) (by omega)).1
          omega
  · obtain ⟨c1, c2, c3, c4, c5, c6, c7⟩ := all (by omega) (by omega)
    omega
  · obtain ⟨c1, c2, c3, c4, c5, c6, c7⟩ := all (by omega) (by omega)
    refine hunks_turn (c2 (by omega) (by omega)) ?_ ?_ ?_ ?_ ?_ ?_ <;> first | (rw [inv_edit_eq (q := x) (by omega)]; rfl) | (rw [inv_edit_eq (q := b) (by omega)]; rfl)
  · obtain ⟨c1, c2, c3, c4, c5, c6, c7⟩ := all (by omega) (by omega)
    refine bytes_turn (c3 (by omega) (by omega)) ?_ ?_ ?_ ?_ ?_ ?_ <;> first | (rw [inv_edit_eq (q := x) (by omega)]; done) | (rw [inv_edit_eq (q := b) (by omega)]; done)
  · obtain ⟨c1, c2, c3, c4, c5, c6, c7⟩ := all (by omega) (by omega)
    omega
  · obtain ⟨c1, c2, c3, c4, c5, c6, c7⟩ := all (by omega) (by omega)
    omega
/-- Two edits exchanged come to stand where they must. -/
theorem Cross.uniq {p q q1 p1 q2 p2 : Int} {l1 l2 m1 m2 : Nat} (h : Cross p l1 l2 q m1 m2 q1 p1) (k : Cross p l1 l2 q m1 m2 q2 p2) : q1 = q2 ∧ p1 = p2 := by
  unfold Cross at h k
  omega
theorem inv_at {q q' : Qp} (hk : q'.kind = q.kind) (h : 6 ≤ q.kind → q'.at_ = q.at_) (k : 1 ≤ q.kind ∧ q.kind ≤ 8) : q'.inv.at_ = q.inv.at_ := by
  by_cases h6 : 6 ≤ q.kind
  · rw [inv_edit_eq h6, inv_edit_eq (q := q') (by omega)]
    exact h h6
  · unfold Qp.inv
    rw [hk]
    repeat' split
    all_goals first | rfl | (exfalso; omega)
theorem inv_off {q q' : Qp} (hk : q'.kind = q.kind) (h : 6 ≤ q.kind → q'.off = q.off) (k : 1 ≤ q.kind ∧ q.kind ≤ 8) : q'.inv.off = q.inv.off := by
  by_cases h6 : 6 ≤ q.kind
  · rw [inv_edit_eq h6, inv_edit_eq (q := q') (by omega)]
    exact h h6
  · unfold Qp.inv
    rw [hk]
    repeat' split
    all_goals first | rfl | (exfalso; omega)
/-- THE SQUARE READ BACKWARDS: the contents. -/
theorem contents_back {x b c d : Qp} (kx : 1 ≤ x.kind ∧ x.kind ≤ 8) (kb : 1 ≤ b.kind ∧ b.kind ≤ 8) (hb : Th x c b) (hd : Th c x d) (hn : ∀ s, New x s → New b s → False)
    (h : Qp.contents x b { b with path := c.path, to_ := c.to_ } { x with path := d.path, to_ := d.to_ } = (c, d, true)) :
    Qp.contents b.inv x.inv { x.inv with path := d.inv.path, to_ := d.inv.to_ } { b.inv with path := c.inv.path, to_ := c.inv.to_ } = (d.inv, c.inv, true) := by
  have hf : (Qp.contents x b { b with path := c.path, to_ := c.to_ } { x with path := d.path, to_ := d.to_ }).2.2 = true := by rw [h]
  have co := contents_core x b { b with path := c.path, to_ := c.to_ } { x with path := d.path, to_ := d.to_ }
  have fa := contents_at (a := x) (b := b) (c := { b with path := c.path, to_ := c.to_ }) (d := { x with path := d.path, to_ := d.to_ }) rfl rfl hf
  have fo := contents_off (a := x) (b := b) (c := { b with path := c.path, to_ := c.to_ }) (d := { x with path := d.path, to_ := d.to_ }) rfl rfl hf
  rw [h] at co fa fo
  dsimp only at co fa fo
  have cc : Core b c := Core.trans ⟨rfl, rfl, rfl, rfl, rfl, rfl, rfl, rfl⟩ co.1
  have cd : Core x d := Core.trans ⟨rfl, rfl, rfl, rfl, rfl, rfl, rfl, rfl⟩ co.2.1
  have gf := contents_turn kx kb hb hd hn (C := { b with path := c.path, to_ := c.to_ }) (C' := { x.inv with path := d.inv.path, to_ := d.inv.to_ }) (D' := { b.inv with path := c.inv.path, to_ := c.inv.to_ }) rfl rfl hf
  have go := contents_core b.inv x.inv { x.inv with path := d.inv.path, to_ := d.inv.to_ } { b.inv with path := c.inv.path, to_ := c.inv.to_ }
  have ga := contents_at (a := b.inv) (b := x.inv) (c := { x.inv with path := d.inv.path, to_ := d.inv.to_ }) (d := { b.inv with path := c.inv.path, to_ := c.inv.to_ }) rfl rfl gf
  have gg := contents_off (a := b.inv) (b := x.inv) (c := { x.inv with path := d.inv.path, to_ := d.inv.to_ }) (d := { b.inv with path := c.inv.path, to_ := c.inv.to_ }) rfl rfl gf
  generalize Qp.contents b.inv x.inv { x.inv with path := d.inv.path, to_ := d.inv.to_ } { b.inv with path := c.inv.path, to_ := c.inv.to_ } = E at gf go ga gg ⊢
  obtain ⟨E1, E2, E3⟩ := E
  dsimp only at gf go ga gg
  obtain ⟨g1, g2, g3, g4⟩ := go
  have kc := hb.kind
  have kd := hd.kind
  have cci := cc.inv
  have cdi := cd.inv
  have edits : ∀ n : Int, 6 ≤ n → ((b.inv.kind = n ∧ x.inv.kind = n ∧ b.inv.path = d.inv.path) ↔ (x.kind = n ∧ b.kind = n ∧ x.path = c.path)) := by
    intro n hn6
    constructor
    · rintro ⟨e1, e2, e3⟩
      have kb6 := inv_high kb (by omega)
      have kx6 := inv_high kx (by omega)
      rw [(inv_edit kb6).1] at e1
      rw [(inv_edit kx6).1] at e2
      rw [(inv_edit kb6).2.1, (inv_edit (q := d) (by omega)).2.1, (hb.still (by omega)).1, (hd.still (by omega)).1] at e3
      exact ⟨e2, e1, e3.symm⟩
    · rintro ⟨e1, e2, e3⟩
      refine ⟨by rw [(inv_edit (q := b) (by omega)).1]; exact e2, by rw [(inv_edit (q := x) (by omega)).1]; exact e1, ?_⟩
      rw [(inv_edit (q := b) (by omega)).2.1, (inv_edit (q := d) (by omega)).2.1, (hb.still (by omega)).1, (hd.still (by omega)).1, e3]
  have at_eq : E1.at_ = d.inv.at_ ∧ E2.at_ = c.inv.at_ := by
    by_cases e : x.kind = 6 ∧ b.kind = 6 ∧ x.path = c.path
    · have e' := (edits 6 (by omega)).2 e
      have k1 := ga.1 e'.1 e'.2.1 e'.2.2
      have k2 := (fa.1 e.1 e.2.1 e.2.2).turn
      rw [inv_edit_eq (q := b) (by omega), inv_edit_eq (q := x) (by omega)] at k1
      rw [inv_edit_eq (q := c) (by omega), inv_edit_eq (q := d) (by omega)]
      exact k1.uniq k2
    · have k1 := ga.2 (fun e' => e ((edits 6 (by omega)).1 e'))
      have k2 := fa.2 e
      rw [k1.1, k1.2]
      exact ⟨(inv_at kd (fun _ => k2.2) kx).symm, (inv_at kc.symm (fun _ => k2.1) kb).symm⟩
  have off_eq : E1.off = d.inv.off ∧ E2.off = c.inv.off := by
    by_cases e : x.kind = 7 ∧ b.kind = 7 ∧ x.path = c.path
    · have e' := (edits 7 (by omega)).2 e
      have k1 := gg.1 e'.1 e'.2.1 e'.2.2
      have k2 := (fo.1 e.1 e.2.1 e.2.2).turn
      rw [inv_edit_eq (q := b) (by omega), inv_edit_eq (q := x) (by omega)] at k1
      rw [inv_edit_eq (q := c) (by omega), inv_edit_eq (q := d) (by omega)]
      exact k1.uniq k2
    · have k1 := gg.2 (fun e' => e ((edits 7 (by omega)).1 e'))
      have k2 := fo.2 e
      rw [k1.1, k1.2]
      exact ⟨(inv_off kd (fun _ => k2.2) kx).symm, (inv_off kc.symm (fun _ => k2.1) kb).symm⟩
  have r1 : E1 = d.inv := Core.eq (r := x.inv) (Core.trans ⟨rfl, rfl, rfl, rfl, rfl, rfl, rfl, rfl⟩ g1) cdi ⟨g3.1.symm.trans cdi.1.symm, g3.2.1.symm, g3.2.2.symm⟩ at_eq.1 off_eq.1
  have r2 : E2 = c.inv := Core.eq (r := b.inv) (Core.trans ⟨rfl, rfl, rfl, rfl, rfl, rfl, rfl, rfl⟩ g2) cci ⟨g4.1.symm.trans cci.1.symm, g4.2.1.symm, g4.2.2.symm⟩ at_eq.2 off_eq.2
  rw [r1, r2, gf]
/-- One half of the law R. -/
theorem run_back {x b c d : Qp} (hx : x.check = 0) (hb : b.check = 0) (hc : c.check = 0) (hd : d.check = 0) (h1 : x.run b = (c, d, true)) (h2 : c.run d = (x, b, true)) : b.inv.run x.inv = (d.inv, c.inv, true) := by
  have kx := (check_parts hx).1
  have kb := (check_parts hb).1
  have kc := (check_parts hc).1
  have kd := (check_parts hd).1
  obtain ⟨p1, p2, p3, p4, p5, p6, _⟩ := run_pieces h1 kx kb
  obtain ⟨q1, q2, q3, q4, q5, q6, _⟩ := run_pieces h2 kc kd
  exact run_turn hx hb hc hd h1 h2 (contents_back kx kb q2 p2 p3 p6)
/-- A patch exchanged: what is known. -/
theorem commute_pieces {a b c d : Qp} (h : a.commute b = (c, d, true)) : a.check = 0 ∧ b.check = 0 ∧ c.check = 0 ∧ d.check = 0 ∧ a.run b = (c, d, true) ∧ c.run d = (a, b, true) := by
  unfold Qp.commute at h
  split at h
  · simp only [Prod.mk.injEq] at h
    exact absurd h.2.2 (by decide)
  rename_i h0
  simp only [ne_eq, not_or, Decidable.not_not] at h0
  split at h
  · simp only [Prod.mk.injEq] at h
    exact absurd h.2.2 (by decide)
  rename_i h1
  split at h
  · rename_i h2
    simp only [Prod.mk.injEq, and_true] at h
    obtain ⟨rfl, rfl⟩ := h
    simp only [Bool.and_eq_true] at h2
    have r1 : a.run b = ((a.run b).1, (a.run b).2.1, true) := by
      have : (a.run b).2.2 = true := by simpa using h1
      rw [← this]
    have r2 : (a.run b).1.run (a.run b).2.1 = (a, b, true) := by
      exact Prod.ext (Qp.same_iff.1 h2.2.1) (Prod.ext (Qp.same_iff.1 h2.2.2) h2.1)
    have zz : (a.run b).1.check = 0 ∧ (a.run b).2.1.check = 0 := by
      unfold Qp.run Qp.runOf at r1
      split at r1
      rotate_left
      · simp only [Prod.mk.injEq] at r1
        exact absurd r1.2.2 (by decide)
      rename_i hh
      unfold Qp.run Qp.runOf
      rw [if_pos hh]
      simp only [Bool.and_eq_true, decide_eq_true_eq] at hh
      exact hh.2.2.2.2.2
    exact ⟨h0.1, h0.2, zz.1, zz.2, r1, r2⟩
  · simp only [Prod.mk.injEq] at h
    exact absurd h.2.2 (by decide)
theorem commute_of {a b c d : Qp} (ha : a.check = 0) (hb : b.check = 0) (h1 : a.run b = (c, d, true)) (h2 : c.run d = (a, b, true)) : a.commute b = (c, d, true) := by
  unfold Qp.commute
  rw [if_neg (by simp [ha, hb]), h1]
  simp only [h2, Bool.true_eq_false, if_false]
  rw [if_pos (by simp [Qp.same_iff.2])]
/-- THE LAW R: the square read backwards. -/
theorem commute_inv {a b c d : Qp} (h : a.commute b = (c, d, true)) : b.inv.commute a.inv = (d.inv, c.inv, true) := by
  obtain ⟨ha, hb, hc, hd, r1, r2⟩ := commute_pieces h
  exact commute_of (inv_check hb) (inv_check ha) (run_back ha hb hc hd r1 r2) (run_back hc hd ha hb r2 r1)
end Go.Proofs.YtgfiddlmeopebaaGreatDoor
