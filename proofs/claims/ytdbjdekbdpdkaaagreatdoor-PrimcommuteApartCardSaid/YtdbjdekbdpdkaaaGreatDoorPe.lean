/- Three patches brought into the opposite order in both ways: the results are equal. Plain Lean. -/
import Derived.Test.YtdbjdekbdpdkaaaGreatDoorPd
set_option linter.unusedSimpArgs false
set_option linter.unusedVariables false
namespace Go.Proofs.YtdbjdekbdpdkaaaGreatDoor
open Go.RowKit Pa

theorem L_of (l : List UInt8) : ∃ s : ByteArray, L s = l := ⟨⟨l.toArray⟩, by simp⟩
theorem Cm.square {a b c d : Qp} (h : Cm a b c d) (ka : a.kind = 5) (kb : b.kind = 5) : Square (L a.path) (L a.to_) (L b.path) (L b.to_) (L c.path) (L c.to_) (L d.path) (L d.to_) := by
  have kc : c.kind = 5 := h.cc.1.trans kb
  have n5 : ∀ k : Int, k = 5 → Qm.adds k = false := fun k hk => by rw [hk]; rfl
  refine ⟨h.va ka, (h.vb kb).1, (h.vb kb).2, h.vc kc, fun e => h.x1 ka kb (L_inj e), fun e => h.x2 ka kb (L_inj e), fun e => h.x3 ka kb (L_inj e), ?_, ?_, ?_, ?_⟩
  · have := h.pc.old (n5 _ kc)
    unfold Ex at this
    rw [if_pos ka] at this
    exact this.symm
  · have := h.pc.to5 kc
    unfold Nw at this
    rw [if_pos ka] at this
    exact this.symm
  · have := h.pd.old (n5 _ ka)
    unfold Ex at this
    rwa [if_pos kc] at this
  · have := h.pd.to5 ka
    unfold Nw at this
    rwa [if_pos kc] at this
theorem Cm.ex {a b c d : Qp} (h : Cm a b c d) {u m z : ByteArray} (h1 : Ex a u m) (h2 : Ex b m z) : ∃ u', Ex c u u' ∧ Ex d u' z := by
  have kc := h.cc.1
  have kd := h.cd.1
  by_cases ka : a.kind = 5 <;> by_cases kb : b.kind = 5
  · unfold Ex at h1 h2
    rw [if_pos ka] at h1
    rw [if_pos kb] at h2
    obtain ⟨l, q1, q2⟩ := Pa.square (h.square ka kb) h1 h2
    obtain ⟨u', rfl⟩ := L_of l
    refine ⟨u', ?_, ?_⟩
    · unfold Ex; rw [if_pos (kc.trans kb)]; exact q1
    · unfold Ex; rw [if_pos (kd.trans ka)]; exact q2
  · have hz : z = m := by unfold Ex at h2; rwa [if_neg kb] at h2
    subst hz
    have hs := h.pd.still (by rw [kc]; exact kb)
    exact ⟨u, by unfold Ex; rw [if_neg (by rw [kc]; exact kb)], h1.sh hs.symm⟩
  · have hz : m = u := by unfold Ex at h1; rwa [if_neg ka] at h1
    subst hz
    have hs := h.pc.still ka
    exact ⟨z, h2.sh hs, by unfold Ex; rw [if_neg (by rw [kd]; exact ka)]⟩
  · have hz : z = m := by unfold Ex at h2; rwa [if_neg kb] at h2
    have hz2 : m = u := by unfold Ex at h1; rwa [if_neg ka] at h1
    subst hz hz2
    exact ⟨z, by unfold Ex; rw [if_neg (by rw [kc]; exact kb)], by unfold Ex; rw [if_neg (by rw [kd]; exact ka)]⟩
theorem Cm.nw {a b c d : Qp} (h : Cm a b c d) {u m z : ByteArray} (h1 : Nw a u m) (h2 : Nw b m z) : ∃ u', Nw c u u' ∧ Nw d u' z := by
  have kc := h.cc.1
  have kd := h.cd.1
  by_cases ka : a.kind = 5 <;> by_cases kb : b.kind = 5
  · unfold Nw at h1 h2
    rw [if_pos ka] at h1
    rw [if_pos kb] at h2
    obtain ⟨l, q1, q2⟩ := Pa.square_new (h.square ka kb) h1 h2
    obtain ⟨u', rfl⟩ := L_of l
    refine ⟨u', ?_, ?_⟩
    · unfold Nw; rw [if_pos (kc.trans kb)]; exact q1
    · unfold Nw; rw [if_pos (kd.trans ka)]; exact q2
  · have hz : z = m := by unfold Nw at h2; rwa [if_neg kb] at h2
    subst hz
    have hs := h.pd.still (by rw [kc]; exact kb)
    exact ⟨u, by unfold Nw; rw [if_neg (by rw [kc]; exact kb)], h1.sh hs.symm⟩
  · have hz : m = u := by unfold Nw at h1; rwa [if_neg ka] at h1
    subst hz
    have hs := h.pc.still ka
    exact ⟨z, h2.sh hs, by unfold Nw; rw [if_neg (by rw [kd]; exact ka)]⟩
  · have hz : z = m := by unfold Nw at h2; rwa [if_neg kb] at h2
    have hz2 : m = u := by unfold Nw at h1; rwa [if_neg ka] at h1
    subst hz hz2
    exact ⟨z, by unfold Nw; rw [if_neg (by rw [kc]; exact kb)], by unfold Nw; rw [if_neg (by rw [kd]; exact ka)]⟩
theorem Cm.pr {a b c d : Qp} (h : Cm a b c d) {r r1 z : Qp} (h1 : PR a r r1) (h2 : PR b r1 z) : ∃ r', PR c r r' ∧ PR d r' z := by
  have k1 := h1.kind
  have hx : ∃ s, (Qm.adds r.kind = true → Nw c r.path s ∧ Nw d s z.path) ∧ (Qm.adds r.kind = false → Ex c r.path s ∧ Ex d s z.path) := by
    cases e : Qm.adds r.kind
    · obtain ⟨s, q1, q2⟩ := h.ex (h1.old e) (h2.old (by rw [k1]; exact e))
      exact ⟨s, (fun h => nomatch h), fun _ => ⟨q1, q2⟩⟩
    · obtain ⟨s, q1, q2⟩ := h.nw (h1.new e) (h2.new (by rw [k1]; exact e))
      exact ⟨s, fun _ => ⟨q1, q2⟩, (fun h => nomatch h)⟩
  have hy : ∃ t, (r.kind = 5 → Nw c r.to_ t ∧ Nw d t z.to_) ∧ (r.kind ≠ 5 → t = r.to_ ∧ z.to_ = r.to_) := by
    by_cases e : r.kind = 5
    · obtain ⟨t, q1, q2⟩ := h.nw (h1.to5 e) (h2.to5 (k1.trans e))
      exact ⟨t, fun _ => ⟨q1, q2⟩, fun h => (h e).elim⟩
    · exact ⟨r.to_, fun h => (e h).elim, fun _ => ⟨rfl, by rw [h2.to0 (by rw [k1]; exact e), h1.to0 e]⟩⟩
  obtain ⟨s, s1, s2⟩ := hx
  obtain ⟨t, t1, t2⟩ := hy
  refine ⟨{ r with path := s, to_ := t }, ⟨rfl, fun e => (s1 e).1, fun e => (s2 e).1, fun e => (t1 e).1, fun e => (t2 e).1⟩, ⟨h2.kind.trans k1, fun e => (s1 e).2, fun e => (s2 e).2, fun e => (t1 e).2, fun e => ?_⟩⟩
  show z.to_ = t
  rw [(t2 e).1, (t2 e).2]

/-- The places of three edits. -/
theorem places {P Q R : Prop} {A B C a1 b1 c1 a2 b2 c2 x1 y1 x2 z1 y2 z2 : Int} {l1 l2 m1 m2 n1 n2 : Nat} (t1 : P → Q → R) (t2 : P → R → Q) (t3 : Q → R → P)
    (e1 : P → Cross A l1 l2 B m1 m2 b1 a1) (f1 : ¬ P → b1 = B ∧ a1 = A) (e2 : Q → Cross a1 l1 l2 C n1 n2 c1 a2) (f2 : ¬ Q → c1 = C ∧ a2 = a1) (e3 : R → Cross b1 m1 m2 c1 n1 n2 c2 b2) (f3 : ¬ R → c2 = c1 ∧ b2 = b1)
    (e4 : R → Cross B m1 m2 C n1 n2 x1 y1) (f4 : ¬ R → x1 = C ∧ y1 = B) (e5 : Q → Cross A l1 l2 x1 n1 n2 x2 z1) (f5 : ¬ Q → x2 = x1 ∧ z1 = A) (e6 : P → Cross z1 l1 l2 y1 m1 m2 y2 z2) (f6 : ¬ P → y2 = y1 ∧ z2 = z1) :
    c2 = x2 ∧ b2 = y2 ∧ a2 = z2 := by
  by_cases p : P <;> by_cases q : Q <;> by_cases r : R
  · have e1 := e1 p
    have e2 := e2 q
    have e3 := e3 r
    have e4 := e4 r
    have e5 := e5 q
    have e6 := e6 p
    unfold Cross at e1 e2 e3 e4 e5 e6
    rcases e1 with e1 | e1 <;> rcases e4 with e4 | e4 <;> rcases e2 with e2 | e2 <;> rcases e3 with e3 | e3 <;> rcases e5 with e5 | e5 <;> rcases e6 with e6 | e6 <;> omega
  · exact (r (t1 p q)).elim
  · exact (q (t2 p r)).elim
  · have e1 := e1 p
    have e6 := e6 p
    have f2 := f2 q
    have f3 := f3 r
    have f4 := f4 r
    have f5 := f5 q
    unfold Cross at e1 e6
    omega
  · exact (p (t3 q r)).elim
  · have e2 := e2 q
    have e5 := e5 q
    have f1 := f1 p
    have f3 := f3 r
    have f4 := f4 r
    have f6 := f6 p
    unfold Cross at e2 e5
    omega
  · have e3 := e3 r
    have e4 := e4 r
    have f1 := f1 p
    have f2 := f2 q
    have f5 := f5 q
    have f6 := f6 p
    unfold Cross at e3 e4
    omega
  · have f1 := f1 p
    have f2 := f2 q
    have f3 := f3 r
    have f4 := f4 r
    have f5 := f5 q
    have f6 := f6 p
    omega

theorem permute_at {a b c b1 a1 c1 a2 c2 b2 x1 y1 x2 z1 y2 z2 : Qp} (h1 : Cm a b b1 a1) (h2 : Cm a1 c c1 a2) (h3 : Cm b1 c1 c2 b2) (h4 : Cm b c x1 y1) (h5 : Cm a x1 x2 z1) (h6 : Cm z1 y1 y2 z2) (sc : Sh c2 x2) (sb : Sh b2 y2) :
    c2.at_ = x2.at_ ∧ b2.at_ = y2.at_ ∧ a2.at_ = z2.at_ := by
  have n0 : ∀ k : Int, k = 6 → Qm.adds k = false := fun k hk => by rw [hk]; rfl
  have ka1 := h1.cd.1
  have kb1 := h1.cc.1
  have kc1 := h2.cc.1
  have kc2 := h3.cc.1
  have kx1 := h4.cc.1
  have ky1 := h4.cd.1
  have kx2 := h5.cc.1
  have kz1 := h5.cd.1
  have i1 : a.kind = 6 → b.kind = 6 → (a.path = b1.path ↔ z1.path = y2.path) := fun ha hb => by
    have q1 := h5.pd.old (n0 _ ha)
    have q2 := (h3.pd.old (n0 _ (kb1.trans hb))).sh sc
    rw [sb.2.1] at q2
    constructor
    · intro e; rw [e] at q1; exact q1.uniq q2
    · intro e; rw [e] at q1; exact q1.inj q2
  have i2 : a.kind = 6 → c.kind = 6 → (a.path = x2.path ↔ a1.path = c1.path) := fun ha hc => by
    have q1 := h1.pd.old (n0 _ ha)
    have q2 := h3.pc.old (n0 _ (kc2.trans (kc1.trans hc)))
    rw [sc.2.1] at q2
    constructor
    · intro e; rw [e] at q1; exact q1.uniq q2
    · intro e; rw [e] at q1; exact q1.inj q2
  have i3 : b.kind = 6 → c.kind = 6 → (b1.path = c2.path ↔ b.path = x1.path) := fun hb hc => by
    have q1 := h1.pc.old (n0 _ (kb1.trans hb))
    have q2 := h5.pc.old (n0 _ (kx2.trans (kx1.trans hc)))
    rw [← sc.2.1] at q2
    constructor
    · intro e; rw [e] at q1; exact q1.uniq q2
    · intro e; rw [e] at q1; exact q1.inj q2
  have ft : a.kind = 6 → b.kind = 6 → c.kind = 6 → (a.path = b1.path ↔ a.path = b.path) ∧ (a1.path = c1.path ↔ a.path = c.path) ∧ (b1.path = c2.path ↔ b.path = c.path) := fun ha hb hc => by
    have r1 := (h1.pc.still (by omega)).2.1
    have r2 := (h1.pd.still (by omega)).2.1
    have r3 := (h2.pc.still (by omega)).2.1
    have r4 := (h3.pc.still (by omega)).2.1
    rw [r2, ← r3, ← r1, ← r4, ← r3]
    exact ⟨Iff.rfl, Iff.rfl, Iff.rfl⟩
  have g1 := h1.cd
  have g2 := h1.cc
  have g3 := h2.cc
  have g4 := h4.cc
  have g5 := h4.cd
  have g6 := h5.cd
  refine places (P := a.kind = 6 ∧ b.kind = 6 ∧ a.path = b1.path) (Q := a.kind = 6 ∧ c.kind = 6 ∧ a1.path = c1.path) (R := b.kind = 6 ∧ c.kind = 6 ∧ b1.path = c2.path) (l1 := a.old.length) (l2 := a.new.length) (m1 := b.old.length) (m2 := b.new.length) (n1 := c.old.length) (n2 := c.new.length) (A := a.at_) (B := b.at_) (C := c.at_) (a1 := a1.at_) (b1 := b1.at_) (c1 := c1.at_) (x1 := x1.at_) (y1 := y1.at_) (z1 := z1.at_) ?_ ?_ ?_ ?_ ?_ ?_ ?_ ?_ ?_ ?_ ?_ ?_ ?_ ?_ ?_
  · rintro ⟨ha, hb, p⟩ ⟨_, hc, q⟩
    obtain ⟨f1, f2, f3⟩ := ft ha hb hc
    exact ⟨hb, hc, f3.2 ((f1.1 p).symm.trans (f2.1 q))⟩
  · rintro ⟨ha, hb, p⟩ ⟨_, hc, r⟩
    obtain ⟨f1, f2, f3⟩ := ft ha hb hc
    exact ⟨ha, hc, f2.2 ((f1.1 p).trans (f3.1 r))⟩
  · rintro ⟨ha, hc, q⟩ ⟨hb, _, r⟩
    obtain ⟨f1, f2, f3⟩ := ft ha hb hc
    exact ⟨ha, hb, f1.2 ((f2.1 q).trans (f3.1 r).symm)⟩
  · rintro ⟨ha, hb, p⟩
    exact h1.at6 ha hb p
  · exact h1.atN
  · rintro ⟨ha, hc, q⟩
    have := h2.at6 (ka1.trans ha) hc q
    simp only [g1.2.2.1, g1.2.2.2.1, g1.2.2.2.2.1, g1.2.2.2.2.2.1] at this
    exact this
  · rw [← ka1]; exact h2.atN
  · rintro ⟨hb, hc, r⟩
    have := h3.at6 (kb1.trans hb) (kc1.trans hc) r
    simp only [g2.2.2.1, g2.2.2.2.1, g2.2.2.2.2.1, g2.2.2.2.2.2.1, g3.2.2.1, g3.2.2.2.1, g3.2.2.2.2.1, g3.2.2.2.2.2.1] at this
    exact this
  · rw [← kb1, ← kc1]; exact h3.atN
  · rintro ⟨hb, hc, r⟩
    exact h4.at6 hb hc ((i3 hb hc).1 r)
  · intro hn
    exact h4.atN (fun ⟨hb, hc, r⟩ => hn ⟨hb, hc, (i3 hb hc).2 r⟩)
  · rintro ⟨ha, hc, q⟩
    have := h5.at6 ha (kx1.trans hc) ((i2 ha hc).2 q)
    simp only [g4.2.2.1, g4.2.2.2.1, g4.2.2.2.2.1, g4.2.2.2.2.2.1] at this
    exact this
  · intro hn
    exact h5.atN (fun ⟨ha, hc, q⟩ => hn ⟨ha, kx1.symm.trans hc, (i2 ha (kx1.symm.trans hc)).1 q⟩)
  · rintro ⟨ha, hb, p⟩
    have := h6.at6 (kz1.trans ha) (ky1.trans hb) ((i1 ha hb).1 p)
    simp only [g5.2.2.1, g5.2.2.2.1, g5.2.2.2.2.1, g5.2.2.2.2.2.1, g6.2.2.1, g6.2.2.2.1, g6.2.2.2.2.1, g6.2.2.2.2.2.1] at this
    exact this
  · intro hn
    exact h6.atN (fun ⟨ha, hb, p⟩ => hn ⟨kz1.symm.trans ha, ky1.symm.trans hb, (i1 (kz1.symm.trans ha) (ky1.symm.trans hb)).2 p⟩)

theorem permute_off {a b c b1 a1 c1 a2 c2 b2 x1 y1 x2 z1 y2 z2 : Qp} (h1 : Cm a b b1 a1) (h2 : Cm a1 c c1 a2) (h3 : Cm b1 c1 c2 b2) (h4 : Cm b c x1 y1) (h5 : Cm a x1 x2 z1) (h6 : Cm z1 y1 y2 z2) (sc : Sh c2 x2) (sb : Sh b2 y2) :
    c2.off = x2.off ∧ b2.off = y2.off ∧ a2.off = z2.off := by
  have n0 : ∀ k : Int, k = 7 → Qm.adds k = false := fun k hk => by rw [hk]; rfl
  have ka1 := h1.cd.1
  have kb1 := h1.cc.1
  have kc1 := h2.cc.1
  have kc2 := h3.cc.1
  have kx1 := h4.cc.1
  have ky1 := h4.cd.1
  have kx2 := h5.cc.1
  have kz1 := h5.cd.1
  have i1 : a.kind = 7 → b.kind = 7 → (a.path = b1.path ↔ z1.path = y2.path) := fun ha hb => by
    have q1 := h5.pd.old (n0 _ ha)
    have q2 := (h3.pd.old (n0 _ (kb1.trans hb))).sh sc
    rw [sb.2.1] at q2
    constructor
    · intro e; rw [e] at q1; exact q1.uniq q2
    · intro e; rw [e] at q1; exact q1.inj q2
  have i2 : a.kind = 7 → c.kind = 7 → (a.path = x2.path ↔ a1.path = c1.path) := fun ha hc => by
    have q1 := h1.pd.old (n0 _ ha)
    have q2 := h3.pc.old (n0 _ (kc2.trans (kc1.trans hc)))
    rw [sc.2.1] at q2
    constructor
    · intro e; rw [e] at q1; exact q1.uniq q2
    · intro e; rw [e] at q1; exact q1.inj q2
  have i3 : b.kind = 7 → c.kind = 7 → (b1.path = c2.path ↔ b.path = x1.path) := fun hb hc => by
    have q1 := h1.pc.old (n0 _ (kb1.trans hb))
    have q2 := h5.pc.old (n0 _ (kx2.trans (kx1.trans hc)))
    rw [← sc.2.1] at q2
    constructor
    · intro e; rw [e] at q1; exact q1.uniq q2
    · intro e; rw [e] at q1; exact q1.inj q2
  have ft : a.kind = 7 → b.kind = 7 → c.kind = 7 → (a.path = b1.path ↔ a.path = b.path) ∧ (a1.path = c1.path ↔ a.path = c.path) ∧ (b1.path = c2.path ↔ b.path = c.path) := fun ha hb hc => by
    have r1 := (h1.pc.still (by omega)).2.1
    have r2 := (h1.pd.still (by omega)).2.1
    have r3 := (h2.pc.still (by omega)).2.1
    have r4 := (h3.pc.still (by omega)).2.1
    rw [r2, ← r3, ← r1, ← r4, ← r3]
    exact ⟨Iff.rfl, Iff.rfl, Iff.rfl⟩
  have g1 := h1.cd
  have g2 := h1.cc
  have g3 := h2.cc
  have g4 := h4.cc
  have g5 := h4.cd
  have g6 := h5.cd
  refine places (P := a.kind = 7 ∧ b.kind = 7 ∧ a.path = b1.path) (Q := a.kind = 7 ∧ c.kind = 7 ∧ a1.path = c1.path) (R := b.kind = 7 ∧ c.kind = 7 ∧ b1.path = c2.path) (l1 := a.so.size) (l2 := a.sn.size) (m1 := b.so.size) (m2 := b.sn.size) (n1 := c.so.size) (n2 := c.sn.size) (A := a.off) (B := b.off) (C := c.off) (a1 := a1.off) (b1 := b1.off) (c1 := c1.off) (x1 := x1.off) (y1 := y1.off) (z1 := z1.off) ?_ ?_ ?_ ?_ ?_ ?_ ?_ ?_ ?_ ?_ ?_ ?_ ?_ ?_ ?_
  · rintro ⟨ha, hb, p⟩ ⟨_, hc, q⟩
    obtain ⟨f1, f2, f3⟩ := ft ha hb hc
    exact ⟨hb, hc, f3.2 ((f1.1 p).symm.trans (f2.1 q))⟩
  · rintro ⟨ha, hb, p⟩ ⟨_, hc, r⟩
    obtain ⟨f1, f2, f3⟩ := ft ha hb hc
    exact ⟨ha, hc, f2.2 ((f1.1 p).trans (f3.1 r))⟩
  · rintro ⟨ha, hc, q⟩ ⟨hb, _, r⟩
    obtain ⟨f1, f2, f3⟩ := ft ha hb hc
    exact ⟨ha, hb, f1.2 ((f2.1 q).trans (f3.1 r).symm)⟩
  · rintro ⟨ha, hb, p⟩
    exact h1.of7 ha hb p
  · exact h1.ofN
  · rintro ⟨ha, hc, q⟩
    have := h2.of7 (ka1.trans ha) hc q
    simp only [g1.2.2.1, g1.2.2.2.1, g1.2.2.2.2.1, g1.2.2.2.2.2.1] at this
    exact this
  · rw [← ka1]; exact h2.ofN
  · rintro ⟨hb, hc, r⟩
    have := h3.of7 (kb1.trans hb) (kc1.trans hc) r
    simp only [g2.2.2.1, g2.2.2.2.1, g2.2.2.2.2.1, g2.2.2.2.2.2.1, g3.2.2.1, g3.2.2.2.1, g3.2.2.2.2.1, g3.2.2.2.2.2.1] at this
    exact this
  · rw [← kb1, ← kc1]; exact h3.ofN
  · rintro ⟨hb, hc, r⟩
    exact h4.of7 hb hc ((i3 hb hc).1 r)
  · intro hn
    exact h4.ofN (fun ⟨hb, hc, r⟩ => hn ⟨hb, hc, (i3 hb hc).2 r⟩)
  · rintro ⟨ha, hc, q⟩
    have := h5.of7 ha (kx1.trans hc) ((i2 ha hc).2 q)
    simp only [g4.2.2.1, g4.2.2.2.1, g4.2.2.2.2.1, g4.2.2.2.2.2.1] at this
    exact this
  · intro hn
    exact h5.ofN (fun ⟨ha, hc, q⟩ => hn ⟨ha, kx1.symm.trans hc, (i2 ha (kx1.symm.trans hc)).1 q⟩)
  · rintro ⟨ha, hb, p⟩
    have := h6.of7 (kz1.trans ha) (ky1.trans hb) ((i1 ha hb).1 p)
    simp only [g5.2.2.1, g5.2.2.2.1, g5.2.2.2.2.1, g5.2.2.2.2.2.1, g6.2.2.1, g6.2.2.2.1, g6.2.2.2.2.1, g6.2.2.2.2.2.1] at this
    exact this
  · intro hn
    exact h6.ofN (fun ⟨ha, hb, p⟩ => hn ⟨kz1.symm.trans ha, ky1.symm.trans hb, (i1 (kz1.symm.trans ha) (ky1.symm.trans hb)).2 p⟩)

/-- Both ways lead to the same three patches. -/
theorem permute {a b c b1 a1 c1 a2 c2 b2 x1 y1 x2 z1 y2 z2 : Qp} (h1 : Cm a b b1 a1) (h2 : Cm a1 c c1 a2) (h3 : Cm b1 c1 c2 b2) (h4 : Cm b c x1 y1) (h5 : Cm a x1 x2 z1) (h6 : Cm z1 y1 y2 z2) : c2 = x2 ∧ b2 = y2 ∧ a2 = z2 := by
  have sc : Sh c2 x2 := by
    obtain ⟨m, q1, q2⟩ := h1.pr h5.pc h4.pc
    have e := q2.inj h2.pc
    exact h3.pc.inj (q1.shr e)
  have sb : Sh b2 y2 := by
    obtain ⟨m, q1, q2⟩ := h5.pr h1.pc h4.pd
    have e := q2.inj h6.pc
    exact (h3.pd.uniq (q1.sh sc.symm)).trans e
  have sa : Sh a2 z2 := by
    obtain ⟨m, q1, q2⟩ := h3.pr h1.pd h2.pd
    have e := q1.uniq (h5.pd.sh sc.symm)
    exact (q2.shl e).uniq (h6.pd.sh sb.symm)
  obtain ⟨t1, t2, t3⟩ := permute_at h1 h2 h3 h4 h5 h6 sc sb
  obtain ⟨o1, o2, o3⟩ := permute_off h1 h2 h3 h4 h5 h6 sc sb
  exact ⟨Core.eq (h2.cc.trans h3.cc) (h4.cc.trans h5.cc) sc t1 o1, Core.eq (h1.cc.trans h3.cd) (h4.cd.trans h6.cc) sb t2 o2, Core.eq (h1.cd.trans h2.cd) (h5.cd.trans h6.cd) sa t3 o3⟩
end Go.Proofs.YtdbjdekbdpdkaaaGreatDoor
