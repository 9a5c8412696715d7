/- The quarter turn of a square of two exchanged patches. Plain Lean, no program. -/
import Derived.Test.YtgfiddlmeopebaaGreatDoorRu
set_option linter.unusedSimpArgs false
set_option linter.unusedVariables false
namespace Go.Proofs.YtgfiddlmeopebaaGreatDoor
open Go.RowKit Pa

/-- Hunks that commute do so a quarter further on. -/
theorem hunks_quarter {a b c d a' : Hv} (h : (a.commute b).2.2 = true) (h2 : (c.commute d).2.2 = true) (cr : Cross a.at_ a.n1 a.n2 b.at_ b.n1 b.n2 c.at_ d.at_) (c1 : c.n1 = b.n1) (c2 : c.n2 = b.n2) (e1 : a'.at_ = a.at_) (e2 : a'.n1 = a.n2) (e3 : a'.n2 = a.n1) : (a'.commute c).2.2 = true := by
  have ca : a'.check = a.check := by unfold Hv.check; rw [e1, e2, e3, Nat.add_comm a.n2]
  have k1 : (a.check == 0) = true ∧ (b.check == 0) = true := by
    unfold Hv.commute at h
    split at h
    · cases h
    · simp_all
  have k2 : (c.check == 0) = true ∧ (d.check == 0) = true := by
    unfold Hv.commute at h2
    split at h2
    · cases h2
    · simp_all
  have bb := Hv.check_bounds k1.2
  have bd := Hv.check_bounds k2.2
  unfold Hv.commute
  rw [if_neg (by rw [ca, k1.1, k2.1]; simp)]
  have s1 : (c.shift (-a'.growth)).at_ = c.at_ - ((a.n1 : Int) - a.n2) := by simp only [Hv.shift, Hv.growth, e2, e3]; omega
  have s2 : (a'.shift c.growth).at_ = a.at_ + ((b.n2 : Int) - b.n1) := by simp only [Hv.shift, Hv.growth, e1, c1, c2]
  rw [s1, s2, e1, e3, c1]
  unfold Cross at cr
  rcases cr with ⟨g1, g2, g3⟩ | ⟨g1, g2, g3, g4⟩
  · rw [if_pos (by omega), if_pos (by omega)]
  · rw [if_neg (by omega), if_pos (by omega), if_pos (by omega)]
theorem bytes_quarter {a b c d a' C' D' : Pv} (cr : Cross a.off a.so.size a.sn.size b.off b.so.size b.sn.size c.off d.off) (c1 : c.so = b.so) (c2 : c.sn = b.sn) (e1 : a'.off = a.off) (e2 : a'.so = a.sn) (e3 : a'.sn = a.so) : (a'.xbytes c C' D').2.2 = true := by
  unfold Pv.xbytes
  rw [e1, e2, e3, c1]
  unfold Cross at cr
  rcases cr with ⟨g1, g2, g3⟩ | ⟨g1, g2, g3, g4⟩
  · rw [if_pos (by omega)]
  · rw [if_neg (by omega), if_pos (by omega)]
/-- A QUARTER TURN: the contents say yes. -/
theorem contents_quarter {a b c d C D A B C' D' : Qp} (ka : 1 ≤ a.kind ∧ a.kind ≤ 8) (kb : 1 ≤ b.kind ∧ b.kind ≤ 8) (cc : Core b c) (cd : Core a d) (pc : Th a.inv b c) (hb : Th a c b) (hd : Th c a d) (hn : ∀ s, New a s → New b s → False)
    (hm : a.kind = 5 → b.kind = 5 → a.to_ ≠ b.path) (hC : C.path = c.path) (hC' : C'.path = b.path) (hA : A.path = a.path) (h : (Qp.contents a b C D).2.2 = true) (h2 : (Qp.contents c d A B).2.2 = true)
    (ca : a.kind = 6 → b.kind = 6 → a.path = c.path → Cross a.at_ a.old.length a.new.length b.at_ b.old.length b.new.length c.at_ d.at_)
    (co : a.kind = 7 → b.kind = 7 → a.path = c.path → Cross a.off a.so.size a.sn.size b.off b.so.size b.sn.size c.off d.off) : (Qp.contents a.inv c C' D').2.2 = true := by
  have kbc := hb.kind
  have kda := hd.kind
  refine contents_yes fun h1 h3 hp => ?_
  rw [hC'] at hp
  have all : 6 ≤ a.inv.kind → 6 ≤ c.kind → a.path = c.path ∧ ¬ (a.kind = 8 ∧ b.kind = 8) ∧ (a.kind = 6 → b.kind = 6 → (a.bare.hunk.commute b.bare.hunk).2.2 = true ∧ (c.bare.hunk.commute d.bare.hunk).2.2 = true) ∧ ¬ (a.kind = 6 ∧ b.kind = 7) ∧ ¬ (a.kind = 7 ∧ b.kind = 6) ∧ a.inv.kind = a.kind := by
    intro e1 e2
    have e3 := inv_high ka e1
    have pe : a.path = c.path := by
      rw [(inv_edit e3).2.1, (hb.still (by omega)).1] at hp
      exact hp
    obtain ⟨c1, c2, c3, c4, c5⟩ := contents_edits e3 (by omega) (by rw [hC]; exact pe) h
    obtain ⟨d1, d2, d3, d4, d5⟩ := contents_edits (by omega) (by omega) (by rw [hA]; exact pe.symm) h2
    exact ⟨pe, c1, fun f1 f2 => ⟨c2 f1 f2, d2 (by omega) (by omega)⟩, c4, c5, (inv_edit e3).1⟩
  refine ⟨fun e => ?_, fun e => ?_, fun e1 e2 => ?_, fun e1 e2 => ?_, fun e => ?_, fun e => ?_⟩
  · -- c removes the file that the inverse touches
    have b2 : b.kind = 2 := by omega
    have no : Qm.adds a.kind = false → a.path = c.path → False := by
      intro n1 n2
      unfold Qp.contents at h
      rw [if_neg (by rw [n1, b2, hC, Qm.eqB_iff.2 n2]; simp [Qm.adds]), if_pos (.inl b2)] at h
      cases h
    by_cases k5 : a.kind = 5
    · rw [(inv_mv k5).2.1] at hp
      refine no (adds_not.2 (by omega)) ?_
      have := pc.old (adds_not.2 (by omega))
      obtain ⟨i1, i2, i3⟩ := inv_mv k5
      unfold Af at this
      rw [if_pos i1, i2, i3, ← hp] at this
      rcases this with ⟨f, f1, f2, f3⟩ | ⟨f1, _, _⟩
      · have f0 : f = [] := by simpa using f2
        exact (L_inj (by rw [f3, f0]; simp)).symm
      · exact (f1 (wi.refl _)).elim
    · by_cases k6 : 6 ≤ a.kind
      · rw [(inv_edit k6).2.1, (hb.still k5).1] at hp
        exact no (adds_not.2 (by omega)) hp
      · by_cases k1 : a.kind = 1 ∨ a.kind = 3
        · obtain ⟨j0, j1, j2, j3⟩ := inv_makes k1
          rw [j2] at hp
          have := pc.old (adds_not.2 (by omega))
          unfold Af at this
          rw [if_neg (by omega), if_pos (by omega), j2, hp] at this
          exact this.2 (wi.refl _)
        · have := (inv_undoes (q := a) (by omega)).1
          have := adds_not.1 h1
          omega
  · obtain ⟨c0, c1, c2, c3, c4, c5⟩ := all (by omega) (by omega)
    omega
  · obtain ⟨c0, c1, c2, c3, c4, c5⟩ := all (by omega) (by omega)
    obtain ⟨f1, f2⟩ := c2 (by omega) (by omega)
    refine hunks_quarter (b := b.bare.hunk) (d := d.bare.hunk) f1 f2 (ca (by omega) (by omega) c0) ?_ ?_ ?_ ?_ ?_
    · show c.old.length = b.old.length
      rw [cc.2.2.1]
    · show c.new.length = b.new.length
      rw [cc.2.2.2.1]
    all_goals (rw [inv_edit_eq (q := a) (by omega)]; rfl)
  · obtain ⟨c0, c1, c2, c3, c4, c5⟩ := all (by omega) (by omega)
    refine bytes_quarter (a := a.bare) (b := b.bare) (c := c.bare) (d := d.bare) (co (by omega) (by omega) c0) cc.2.2.2.2.1 cc.2.2.2.2.2.1 ?_ ?_ ?_
    all_goals (rw [inv_edit_eq (q := a) (by omega)]; done)
  · obtain ⟨c0, c1, c2, c3, c4, c5⟩ := all (by omega) (by omega)
    omega
  · obtain ⟨c0, c1, c2, c3, c4, c5⟩ := all (by omega) (by omega)
    omega
theorem Cross.quarter {p q q' p' : Int} {l1 l2 m1 m2 : Nat} (h : Cross p l1 l2 q m1 m2 q' p') : Cross p l2 l1 q' m1 m2 q p' := by
  unfold Cross at *
  omega
/-- A quarter turn of a run, one half. -/
theorem run_quarter {a b c d : Qp} (ha : a.check = 0) (hb : b.check = 0) (hc : c.check = 0) (hd : d.check = 0) (h1 : a.run b = (c, d, true)) (h2 : c.run d = (a, b, true)) : a.inv.run c = (b, d.inv, true) := by
  have ka := (check_parts ha).1
  have kb := (check_parts hb).1
  have kc := (check_parts hc).1
  have kd := (check_parts hd).1
  have ma : Out a := fun e => check_move ha e
  have mb : Out b := fun e => check_move hb e
  have mc : Out c := fun e => check_move hc e
  obtain ⟨p1, p2, p3, p4, p5, p6, p7⟩ := run_pieces h1 ka kb
  obtain ⟨q1, q2, q3, q4, q5, q6, q7⟩ := run_pieces h2 kc kd
  have kbc := q2.kind
  have kda := p2.kind
  have hf : (Qp.contents a b { b with path := c.path, to_ := c.to_ } { a with path := d.path, to_ := d.to_ }).2.2 = true := by rw [p6]
  have hf2 : (Qp.contents c d { d with path := a.path, to_ := a.to_ } { c with path := b.path, to_ := b.to_ }).2.2 = true := by rw [q6]
  have co := contents_core a b { b with path := c.path, to_ := c.to_ } { a with path := d.path, to_ := d.to_ }
  have fa := contents_at (a := a) (b := b) (c := { b with path := c.path, to_ := c.to_ }) (d := { a with path := d.path, to_ := d.to_ }) rfl rfl hf
  have fo := contents_off (a := a) (b := b) (c := { b with path := c.path, to_ := c.to_ }) (d := { a with path := d.path, to_ := d.to_ }) rfl rfl hf
  rw [p6] at co fa fo
  dsimp only at co fa fo
  have cc : Core b c := Core.trans ⟨rfl, rfl, rfl, rfl, rfl, rfl, rfl, rfl⟩ co.1
  have cd : Core a d := Core.trans ⟨rfl, rfl, rfl, rfl, rfl, rfl, rfl, rfl⟩ co.2.1
  have cb : Core c b := ⟨cc.1.symm, cc.2.1.symm, cc.2.2.1.symm, cc.2.2.2.1.symm, cc.2.2.2.2.1.symm, cc.2.2.2.2.2.1.symm, cc.2.2.2.2.2.2.1.symm, cc.2.2.2.2.2.2.2.symm⟩
  have gf := contents_quarter ka kb cc cd p1 q2 p2 p3 p5 (C := { b with path := c.path, to_ := c.to_ }) (C' := { c with path := b.path, to_ := b.to_ }) (D' := { a.inv with path := d.inv.path, to_ := d.inv.to_ }) (A := { d with path := a.path, to_ := a.to_ }) rfl rfl rfl hf hf2 fa.1 fo.1
  have th1 : Th b a.inv d.inv := Th.turn ka kc ma mc (fun e => (mb e).2) q2 p2 p3 p5
  have th0 : Th a.inv.inv c b := by rw [inv_inv ha]; exact q2
  refine run_of (inv_kinds ka).1 kc th0 th1 (fun s h h' e => p3 s (by rw [e]; exact frees_inv ka h') h) (fun s h h' => ?_) (fun s h h' => Th.apart ka kc ma mc p1 q2 p2 p5 s h' h) (fun e1 e2 e => ?_) ?_ hb (inv_check hd)
  · obtain ⟨a1, rfl⟩ := new_inv ka h
    refine p7 _ h' ?_ rfl
    unfold Qm.frees
    rcases a1 with e | e | e <;> simp [e]
  · -- both move
    have a5 := (inv_kinds ka).2 e1
    rw [(inv_mv a5).2.2] at e
    have := p1.old (adds_not.2 (by omega))
    obtain ⟨i1, i2, i3⟩ := inv_mv a5
    unfold Af at this
    rw [if_pos i1, i2, i3] at this
    rcases this with ⟨f, f1, f2, f3⟩ | ⟨_, f2, f3⟩
    · have f0 : f = [] := by
        have := congrArg List.length f3
        rw [← e] at this
        simp at this
        exact this
      exact p5 a5 (by omega) (L_inj (by rw [f2, f0]; simp)).symm
    · exact f2 (by rw [← f3, ← e]; exact wi.refl _)
  · have go := contents_core a.inv c { c with path := b.path, to_ := b.to_ } { a.inv with path := d.inv.path, to_ := d.inv.to_ }
    have ga := contents_at (a := a.inv) (b := c) (c := { c with path := b.path, to_ := b.to_ }) (d := { a.inv with path := d.inv.path, to_ := d.inv.to_ }) rfl rfl gf
    have gg := contents_off (a := a.inv) (b := c) (c := { c with path := b.path, to_ := b.to_ }) (d := { a.inv with path := d.inv.path, to_ := d.inv.to_ }) rfl rfl gf
    generalize Qp.contents a.inv c { c with path := b.path, to_ := b.to_ } { a.inv with path := d.inv.path, to_ := d.inv.to_ } = E at gf go ga gg ⊢
    obtain ⟨E1, E2, E3⟩ := E
    dsimp only at gf go ga gg
    obtain ⟨g1, g2, g3, g4⟩ := go
    have cdi := cd.inv
    have edits : ∀ n : Int, 6 ≤ n → ((a.inv.kind = n ∧ c.kind = n ∧ a.inv.path = b.path) ↔ (a.kind = n ∧ b.kind = n ∧ a.path = c.path)) := by
      intro n hn6
      constructor
      · rintro ⟨e1, e2, e3⟩
        have ka6 := inv_high ka (by omega)
        rw [(inv_edit ka6).1] at e1
        rw [(inv_edit ka6).2.1, (q2.still (by omega)).1] at e3
        exact ⟨e1, by omega, e3⟩
      · rintro ⟨e1, e2, e3⟩
        refine ⟨by rw [(inv_edit (q := a) (by omega)).1]; exact e1, by omega, ?_⟩
        rw [(inv_edit (q := a) (by omega)).2.1, (q2.still (by omega)).1, e3]
    have at_eq : E1.at_ = b.at_ ∧ E2.at_ = d.inv.at_ := by
      by_cases e : a.kind = 6 ∧ b.kind = 6 ∧ a.path = c.path
      · have e' := (edits 6 (by omega)).2 e
        have k1 := ga.1 e'.1 e'.2.1 e'.2.2
        have k2 := (fa.1 e.1 e.2.1 e.2.2).quarter
        rw [inv_edit_eq (q := a) (by omega), cc.2.2.1, cc.2.2.2.1] at k1
        rw [inv_edit_eq (q := d) (by omega)]
        exact k1.uniq k2
      · have k1 := ga.2 (fun e' => e ((edits 6 (by omega)).1 e'))
        have k2 := fa.2 e
        rw [k1.1, k1.2]
        exact ⟨k2.1, (inv_at kda (fun _ => k2.2) ka).symm⟩
    have off_eq : E1.off = b.off ∧ E2.off = d.inv.off := by
      by_cases e : a.kind = 7 ∧ b.kind = 7 ∧ a.path = c.path
      · have e' := (edits 7 (by omega)).2 e
        have k1 := gg.1 e'.1 e'.2.1 e'.2.2
        have k2 := (fo.1 e.1 e.2.1 e.2.2).quarter
        rw [inv_edit_eq (q := a) (by omega), cc.2.2.2.2.1, cc.2.2.2.2.2.1] at k1
        rw [inv_edit_eq (q := d) (by omega)]
        exact k1.uniq k2
      · have k1 := gg.2 (fun e' => e ((edits 7 (by omega)).1 e'))
        have k2 := fo.2 e
        rw [k1.1, k1.2]
        exact ⟨k2.1, (inv_off kda (fun _ => k2.2) ka).symm⟩
    have r1 : E1 = b := Core.eq (r := c) (Core.trans ⟨rfl, rfl, rfl, rfl, rfl, rfl, rfl, rfl⟩ g1) cb ⟨g3.1.symm.trans cc.1, g3.2.1.symm, g3.2.2.symm⟩ at_eq.1 off_eq.1
    have r2 : E2 = d.inv := Core.eq (r := a.inv) (Core.trans ⟨rfl, rfl, rfl, rfl, rfl, rfl, rfl, rfl⟩ g2) cdi ⟨g4.1.symm.trans cdi.1.symm, g4.2.1.symm, g4.2.2.symm⟩ at_eq.2 off_eq.2
    rw [r1, r2, gf]
/-- THE QUARTER TURN. -/
theorem commute_quarter {a b c d : Qp} (h : a.commute b = (c, d, true)) : a.inv.commute c = (b, d.inv, true) := by
  obtain ⟨ha, hb, hc, hd, r1, r2⟩ := commute_pieces h
  obtain ⟨_, _, _, _, s1, s2⟩ := commute_pieces (commute_inv h)
  have t := run_quarter (inv_check hb) (inv_check ha) (inv_check hd) (inv_check hc) s1 s2
  rw [inv_inv hb, inv_inv hc] at t
  exact commute_of (inv_check ha) hc (run_quarter ha hb hc hd r1 r2) t
end Go.Proofs.YtgfiddlmeopebaaGreatDoor
