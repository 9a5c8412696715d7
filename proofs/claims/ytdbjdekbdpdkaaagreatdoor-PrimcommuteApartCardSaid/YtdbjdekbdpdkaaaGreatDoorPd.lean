/- Patches exchanged: paths and places. Plain Lean. -/
import Derived.Test.YtdbjdekbdpdkaaaGreatDoorPc
set_option linter.unusedSimpArgs false
set_option linter.unusedVariables false
namespace Go.Proofs.YtdbjdekbdpdkaaaGreatDoor
open Go.RowKit Pa

/-- Two edits at one file exchanged: their places. -/
def Cross (p l1 l2 q m1 m2 q' p' : Int) : Prop := (p + l2 < q ∧ q' = q - (l2 - l1) ∧ p' = p) ∨ (q + m1 < p ∧ ¬ p + l2 < q ∧ q' = q ∧ p' = p + (m2 - m1))
/-- What does not turn. -/
def Core (q q' : Qp) : Prop := q'.kind = q.kind ∧ q'.ty = q.ty ∧ q'.old = q.old ∧ q'.new = q.new ∧ q'.so = q.so ∧ q'.sn = q.sn ∧ q'.om = q.om ∧ q'.nm = q.nm
theorem Core.refl (q : Qp) : Core q q := ⟨rfl, rfl, rfl, rfl, rfl, rfl, rfl, rfl⟩
theorem Core.trans {a b c : Qp} (h : Core a b) (k : Core b c) : Core a c :=
  ⟨k.1.trans h.1, k.2.1.trans h.2.1, k.2.2.1.trans h.2.2.1, k.2.2.2.1.trans h.2.2.2.1, k.2.2.2.2.1.trans h.2.2.2.2.1, k.2.2.2.2.2.1.trans h.2.2.2.2.2.1, k.2.2.2.2.2.2.1.trans h.2.2.2.2.2.2.1, k.2.2.2.2.2.2.2.trans h.2.2.2.2.2.2.2⟩
theorem Core.eq {q q' r : Qp} (h : Core r q) (k : Core r q') (s : Sh q q') (ha : q.at_ = q'.at_) (ho : q.off = q'.off) : q = q' := by
  obtain ⟨k1, k2, k3, k4, k5, k6, k7, k8⟩ := h
  obtain ⟨l1, l2, l3, l4, l5, l6, l7, l8⟩ := k
  obtain ⟨s1, s2, s3⟩ := s
  cases q
  cases q'
  simp_all
/-- a, b exchanged: c, d. -/
structure Cm (a b c d : Qp) : Prop where
  cc : Core b c
  cd : Core a d
  pc : PR a c b
  pd : PR c a d
  x1 : a.kind = 5 → b.kind = 5 → a.to_ ≠ b.path
  x2 : a.kind = 5 → b.kind = 5 → c.to_ ≠ a.path
  x3 : a.kind = 5 → b.kind = 5 → a.to_ ≠ b.to_
  va : a.kind = 5 → ¬ wi (L a.to_) (L a.path)
  vb : b.kind = 5 → ¬ wi (L b.path) (L b.to_) ∧ ¬ wi (L b.to_) (L b.path)
  vc : c.kind = 5 → ¬ wi (L c.to_) (L c.path)
  at6 : a.kind = 6 → b.kind = 6 → a.path = c.path → Cross a.at_ a.old.length a.new.length b.at_ b.old.length b.new.length c.at_ d.at_
  atN : ¬ (a.kind = 6 ∧ b.kind = 6 ∧ a.path = c.path) → c.at_ = b.at_ ∧ d.at_ = a.at_
  of7 : a.kind = 7 → b.kind = 7 → a.path = c.path → Cross a.off a.so.size a.sn.size b.off b.so.size b.sn.size c.off d.off
  ofN : ¬ (a.kind = 7 ∧ b.kind = 7 ∧ a.path = c.path) → c.off = b.off ∧ d.off = a.off

theorem check_move {q : Qp} (h : q.check = 0) (hk : q.kind = 5) : ¬ wi (L q.path) (L q.to_) ∧ ¬ wi (L q.to_) (L q.path) := by
  unfold Qp.check Pv.check at h
  split at h
  · cases h
  split at h
  · cases h
  split at h
  · cases h
  unfold Pv.actCheck at h
  rw [if_neg (by show ¬ (q.kind = 1 ∨ q.kind = 3); omega), if_neg (by show ¬ (q.kind = 2 ∨ q.kind = 4); omega), if_pos (by exact hk)] at h
  unfold Pv.movCheck at h
  split at h
  · cases h
  rename_i hn
  simp only [not_or] at hn
  obtain ⟨h1, h2, h3⟩ := hn
  constructor
  · intro w
    rcases w.eq_or with w | w
    · exact h1 (Qm.eqB_iff.2 (L_inj w).symm)
    · exact h3 (below_iff.2 w)
  · intro w
    rcases w.eq_or with w | w
    · exact h1 (Qm.eqB_iff.2 (L_inj w))
    · exact h2 (below_iff.2 w)

/-- The contents leave all but the places alone. -/
theorem contents_core (a b c d : Qp) : Core c (Qp.contents a b c d).1 ∧ Core d (Qp.contents a b c d).2.1 ∧ Sh c (Qp.contents a b c d).1 ∧ Sh d (Qp.contents a b c d).2.1 := by
  unfold Qp.contents
  repeat' split
  all_goals exact ⟨⟨rfl, rfl, rfl, rfl, rfl, rfl, rfl, rfl⟩, ⟨rfl, rfl, rfl, rfl, rfl, rfl, rfl, rfl⟩, ⟨rfl, rfl, rfl⟩, ⟨rfl, rfl, rfl⟩⟩
theorem contents_at {a b c d : Qp} (hc : c.at_ = b.at_) (hd : d.at_ = a.at_) (h : (Qp.contents a b c d).2.2 = true) :
    (a.kind = 6 → b.kind = 6 → a.path = c.path → Cross a.at_ a.old.length a.new.length b.at_ b.old.length b.new.length (Qp.contents a b c d).1.at_ (Qp.contents a b c d).2.1.at_) ∧
    (¬ (a.kind = 6 ∧ b.kind = 6 ∧ a.path = c.path) → (Qp.contents a b c d).1.at_ = b.at_ ∧ (Qp.contents a b c d).2.1.at_ = a.at_) := by
  unfold Qp.contents at h ⊢
  split
  · rename_i h0
    refine ⟨fun ha hb hp => ?_, fun _ => ⟨hc, hd⟩⟩
    rw [ha, hb, hp] at h0
    simp [Qm.adds, Qm.eqB_iff.2] at h0
  · rename_i h0
    rw [if_neg h0] at h
    split
    · rename_i h1
      rw [if_pos h1] at h
      cases h
    · rename_i h1
      rw [if_neg h1] at h
      split
      · rename_i h2
        rw [if_pos h2] at h
        split
        · rename_i h3
          refine ⟨fun _ _ _ => ?_, fun hn => ?_⟩
          · unfold Hv.commute at h3 ⊢
            split at h3
            · cases h3
            rename_i g0
            rw [if_neg g0]
            split at h3
            · rename_i g1
              rw [if_pos g1]
              split at h3
              · rename_i g2
                rw [if_pos g2]
                exact .inl ⟨g1, by simp only [Hv.shift, Hv.growth, Pv.hunk]; omega, rfl⟩
              · cases h3
            · rename_i g1
              rw [if_neg g1]
              split at h3
              · rename_i g2
                rw [if_pos g2]
                split at h3
                · rename_i g3
                  rw [if_pos g3]
                  exact .inr ⟨g2, g1, rfl, by simp only [Hv.shift, Hv.growth, Pv.hunk]⟩
                · cases h3
              · cases h3
          · refine (hn ⟨h2.1, h2.2, ?_⟩).elim
            simp only [not_or] at h0
            exact Qm.eqB_iff.1 (by simpa using h0.2.2)
        · rename_i h3
          rw [if_neg h3] at h
          cases h
      · rename_i h2
        repeat' split
        all_goals exact ⟨fun ha hb _ => (h2 ⟨ha, hb⟩).elim, fun _ => ⟨hc, hd⟩⟩
theorem contents_off {a b c d : Qp} (hc : c.off = b.off) (hd : d.off = a.off) (h : (Qp.contents a b c d).2.2 = true) :
    (a.kind = 7 → b.kind = 7 → a.path = c.path → Cross a.off a.so.size a.sn.size b.off b.so.size b.sn.size (Qp.contents a b c d).1.off (Qp.contents a b c d).2.1.off) ∧
    (¬ (a.kind = 7 ∧ b.kind = 7 ∧ a.path = c.path) → (Qp.contents a b c d).1.off = b.off ∧ (Qp.contents a b c d).2.1.off = a.off) := by
  unfold Qp.contents at h ⊢
  split
  · rename_i h0
    refine ⟨fun ha hb hp => ?_, fun _ => ⟨hc, hd⟩⟩
    rw [ha, hb, hp] at h0
    simp [Qm.adds, Qm.eqB_iff.2] at h0
  · rename_i h0
    rw [if_neg h0] at h
    split
    · rename_i h1
      rw [if_pos h1] at h
      cases h
    · rename_i h1
      rw [if_neg h1] at h
      split
      · rename_i h2
        split
        all_goals exact ⟨fun ha _ _ => by omega, fun _ => ⟨hc, hd⟩⟩
      · rename_i h2
        rw [if_neg h2] at h
        split
        · rename_i h3
          rw [if_pos h3] at h
          refine ⟨fun _ _ _ => ?_, fun hn => ?_⟩
          · dsimp only at h ⊢
            unfold Pv.xbytes at h ⊢
            split at h
            · rename_i g1
              rw [if_pos g1]
              exact .inl ⟨g1, rfl, hd⟩
            · rename_i g1
              rw [if_neg g1]
              split at h
              · rename_i g2
                rw [if_pos g2]
                refine .inr ⟨g2, g1, hc, ?_⟩
                dsimp only
                omega
              · cases h
          · refine (hn ⟨h3.1, h3.2, ?_⟩).elim
            simp only [not_or] at h0
            exact Qm.eqB_iff.1 (by simpa using h0.2.2)
        · rename_i h3
          repeat' split
          all_goals exact ⟨fun ha hb _ => (h3 ⟨ha, hb⟩).elim, fun _ => ⟨hc, hd⟩⟩

theorem run_cm {a b c d : Qp} (h : a.run b = (c, d, true)) (ha : a.check = 0) (hb : b.check = 0) : Cm a b c d := by
  unfold Qp.run Qp.runOf at h
  split at h
  rotate_left
  · simp only [Prod.mk.injEq] at h
    exact absurd h.2.2 (by decide)
  rename_i hh
  simp only [Bool.and_eq_true, decide_eq_true_eq] at hh
  obtain ⟨⟨k1, k2⟩, hf, he, hm, hc, z1, z2⟩ := hh
  simp only [Prod.mk.injEq, and_true] at h
  obtain ⟨rfl, rfl⟩ := h
  have p1 := through_pr k1
  have p2 := through_pr k2
  have hcore := contents_core a b (Qp.through b a.inv).1 (Qp.through a (Qp.through b a.inv).1).1
  have hat := contents_at (a := a) (b := b) (c := (Qp.through b a.inv).1) (d := (Qp.through a (Qp.through b a.inv).1).1) rfl rfl hc
  have hof := contents_off (a := a) (b := b) (c := (Qp.through b a.inv).1) (d := (Qp.through a (Qp.through b a.inv).1).1) rfl rfl hc
  have c1 : Core b (Qp.through b a.inv).1 := ⟨rfl, rfl, rfl, rfl, rfl, rfl, rfl, rfl⟩
  have c2 : Core a (Qp.through a (Qp.through b a.inv).1).1 := ⟨rfl, rfl, rfl, rfl, rfl, rfl, rfl, rfl⟩
  generalize hC : (Qp.through b a.inv).1 = C at *
  generalize hD : (Qp.through a C).1 = D at *
  generalize hE : Qp.contents a b C D = E at *
  obtain ⟨g1, g2, g3, g4⟩ := hcore
  refine ⟨c1.trans g1, c2.trans g2, (pr_inv p1).shl g3, (p2.sh g3).shr g4, ?_, ?_, ?_, fun k => (check_move ha k).2, fun k => check_move hb k, fun k => (check_move z1 k).2, ?_, ?_, ?_, ?_⟩
  · intro ka kb e
    unfold Qp.moves Qm.xmoves at hm
    rw [ka, kb, Qm.eqB_iff.2 e] at hm
    simp at hm
  · intro ka kb e
    unfold Qp.free Qm.xfree at hf
    simp only [Bool.and_eq_true] at hf
    have h1 := hf.1
    have kC : C.kind = 5 := by rw [← hC]; exact kb
    have e' : C.to_ = a.path := by rw [← g3.2.2] at e; exact e
    simp only [Qm.newPath, Qm.frees, Qm.adds, kC, ka, e'] at h1
    simp [Qm.eqB_iff.2] at h1
  · intro ka kb e
    unfold Qp.free Qm.xfree at hf
    simp only [Bool.and_eq_true] at hf
    have h1 := hf.2.1
    unfold Qm.news at h1
    simp only [Qm.newPath, Qm.adds, ka, kb, e] at h1
    simp [Qm.eqB_iff.2] at h1
  · rw [← g3.2.1]; exact hat.1
  · rw [← g3.2.1]; exact hat.2
  · rw [← g3.2.1]; exact hof.1
  · rw [← g3.2.1]; exact hof.2
end Go.Proofs.YtdbjdekbdpdkaaaGreatDoor
