/- Paths under moves, in plain Lean: two moves that have been exchanged act on every path as before. No program. New paths under moves; the functions of the model as moves of paths. Plain Lean, no program. Patches exchanged: what the exchange does to the paths. Plain Lean. Patches exchanged: paths and places. Plain Lean. Three patches brought into the opposite order in both ways: the results are equal. Plain Lean. Patches that touch nothing in common; the inverse of a valid patch. Plain Lean. -/
import Derived.Test.YtdbokolbheileaaGreatDoorModel
import Derived.Test.YtdbokolbheileaaGreatDoorPa
import Derived.Test.YtdbokolbheileaaGreatDoorV
set_option linter.unusedSimpArgs false
set_option linter.unusedVariables false
namespace Go.Proofs.YtdbokolbheileaaGreatDoor
open Go.RowKit Pa

theorem inv_kind5 {q : Qp} : q.inv.kind = 5 ↔ q.kind = 5 := by
  unfold Qp.inv
  repeat' split
  all_goals simp_all [Qp.zero]
theorem inv_paths {q : Qp} (h : q.kind = 5) : q.inv.path = q.to_ ∧ q.inv.to_ = q.path := by
  unfold Qp.inv
  rw [if_neg (by omega), if_neg (by omega), if_neg (by omega), if_neg (by omega), if_pos h]
  exact ⟨rfl, rfl⟩
end Go.Proofs.YtdbokolbheileaaGreatDoor
namespace Go.Proofs.YtdbokolbheileaaGreatDoor
open Go.RowKit Pa

/-- Two edits at one file exchanged: their places. -/
def Cross (p l1 l2 q m1 m2 q' p' : Int) : Prop := (p + l2 < q ∧ q' = q - (l2 - l1) ∧ p' = p) ∨ (q + m1 < p ∧ ¬ p + l2 < q ∧ q' = q ∧ p' = p + (m2 - m1))
theorem check_move {q : Qp} (h : q.check = 0) (hk : q.kind = 5) : ¬ wi (L q.path) (L q.to_) ∧ ¬ wi (L q.to_) (L q.path) := by
  unfold Qp.check Pv.check at h
  split at h
  · cases h
  split at h
  · cases h
  split at h
  · cases h
  unfold Pv.actCheck at h
  rw [if_neg (by show ¬ (q.kind = 1 ∨ q.kind = 3); omega), if_neg (by show ¬ (q.kind = 2 ∨ q.kind = 4); omega), if_pos (by exact hk)] at h
  unfold Pv.movCheck at h
  split at h
  · cases h
  rename_i hn
  simp only [not_or] at hn
  obtain ⟨h1, h2, h3⟩ := hn
  constructor
  · intro w
    rcases w.eq_or with w | w
    · exact h1 (Qm.eqB_iff.2 (L_inj w).symm)
    · exact h3 (below_iff.2 w)
  · intro w
    rcases w.eq_or with w | w
    · exact h1 (Qm.eqB_iff.2 (L_inj w))
    · exact h2 (below_iff.2 w)

end Go.Proofs.YtdbokolbheileaaGreatDoor
namespace Go.Proofs.YtdbokolbheileaaGreatDoor
open Go.RowKit Pa

/-- The places of three edits. -/
theorem places {P Q R : Prop} {A B C a1 b1 c1 a2 b2 c2 x1 y1 x2 z1 y2 z2 : Int} {l1 l2 m1 m2 n1 n2 : Nat} (t1 : P → Q → R) (t2 : P → R → Q) (t3 : Q → R → P)
    (e1 : P → Cross A l1 l2 B m1 m2 b1 a1) (f1 : ¬ P → b1 = B ∧ a1 = A) (e2 : Q → Cross a1 l1 l2 C n1 n2 c1 a2) (f2 : ¬ Q → c1 = C ∧ a2 = a1) (e3 : R → Cross b1 m1 m2 c1 n1 n2 c2 b2) (f3 : ¬ R → c2 = c1 ∧ b2 = b1)
    (e4 : R → Cross B m1 m2 C n1 n2 x1 y1) (f4 : ¬ R → x1 = C ∧ y1 = B) (e5 : Q → Cross A l1 l2 x1 n1 n2 x2 z1) (f5 : ¬ Q → x2 = x1 ∧ z1 = A) (e6 : P → Cross z1 l1 l2 y1 m1 m2 y2 z2) (f6 : ¬ P → y2 = y1 ∧ z2 = z1) :
    c2 = x2 ∧ b2 = y2 ∧ a2 = z2 := by
  by_cases p : P <;> by_cases q : Q <;> by_cases r : R
  · have e1 := e1 p
    have e2 := e2 q
    have e3 := e3 r
    have e4 := e4 r
    have e5 := e5 q
    have e6 := e6 p
    unfold Cross at e1 e2 e3 e4 e5 e6
    rcases e1 with e1 | e1 <;> rcases e4 with e4 | e4 <;> rcases e2 with e2 | e2 <;> rcases e3 with e3 | e3 <;> rcases e5 with e5 | e5 <;> rcases e6 with e6 | e6 <;> omega
  · exact (r (t1 p q)).elim
  · exact (q (t2 p r)).elim
  · have e1 := e1 p
    have e6 := e6 p
    have f2 := f2 q
    have f3 := f3 r
    have f4 := f4 r
    have f5 := f5 q
    unfold Cross at e1 e6
    omega
  · exact (p (t3 q r)).elim
  · have e2 := e2 q
    have e5 := e5 q
    have f1 := f1 p
    have f3 := f3 r
    have f4 := f4 r
    have f6 := f6 p
    unfold Cross at e2 e5
    omega
  · have e3 := e3 r
    have e4 := e4 r
    have f1 := f1 p
    have f2 := f2 q
    have f5 := f5 q
    have f6 := f6 p
    unfold Cross at e3 e4
    omega
  · have f1 := f1 p
    have f2 := f2 q
    have f3 := f3 r
    have f4 := f4 r
    have f5 := f5 q
    have f6 := f6 p
    omega

end Go.Proofs.YtdbokolbheileaaGreatDoor
namespace Go.Proofs.YtdbokolbheileaaGreatDoor
open Go.RowKit Pa

/-- The paths that a patch touches. -/
def Tc (q : Qp) (s : ByteArray) : Prop := s = q.path ∨ (q.kind = 5 ∧ s = q.to_)
/-! ### The inverse -/
theorem empty_list {s : ByteArray} (h : s.toList.isEmpty = true) : s = ⟨#[]⟩ := by
  have hs := size_of_empty h
  refine L_inj ?_
  exact List.length_eq_zero_iff.1 hs
/-- What a valid patch has no use for is empty. -/
structure Qp.Lean' (q : Qp) : Prop where
  to_ : q.kind ≠ 5 → q.to_ = ⟨#[]⟩
  ty : q.kind ≠ 1 → q.kind ≠ 2 → q.ty = 0
  at_ : q.kind ≠ 6 → q.at_ = 0
  old : q.kind ≠ 6 → q.old = []
  new : q.kind ≠ 6 → q.new = []
  off : q.kind ≠ 7 → q.off = 0
  so : q.kind ≠ 2 → q.kind ≠ 7 → q.so = ⟨#[]⟩
  sn : q.kind ≠ 1 → q.kind ≠ 7 → q.sn = ⟨#[]⟩
  om : q.kind ≠ 2 → q.kind ≠ 8 → q.om = 0
  nm : q.kind ≠ 1 → q.kind ≠ 8 → q.nm = 0
theorem check_parts {q : Qp} (h : q.check = 0) : (1 ≤ q.kind ∧ q.kind ≤ 8) ∧ (q.pv none 0 none 0).tidy = true ∧ (q.pv none 0 none 0).pathsOk = true ∧ (q.pv none 0 none 0).actCheck q.old q.new = 0 := by
  unfold Qp.check Pv.check at h
  cases hk : (q.pv none 0 none 0).known
  · rw [if_pos hk] at h; cases h
  rw [if_neg (by rw [hk]; exact Bool.noConfusion)] at h
  cases ht : (q.pv none 0 none 0).tidy
  · rw [if_pos ht] at h; cases h
  rw [if_neg (by rw [ht]; exact Bool.noConfusion)] at h
  cases hp : (q.pv none 0 none 0).pathsOk
  · rw [if_pos hp] at h; cases h
  rw [if_neg (by rw [hp]; exact Bool.noConfusion)] at h
  exact ⟨by simpa [Pv.known] using hk, rfl, rfl, h⟩
theorem check_of_parts {q : Qp} (hk : 1 ≤ q.kind ∧ q.kind ≤ 8) (ht : (q.pv none 0 none 0).tidy = true) (hp : (q.pv none 0 none 0).pathsOk = true) (h : (q.pv none 0 none 0).actCheck q.old q.new = 0) : q.check = 0 := by
  unfold Qp.check Pv.check
  have hk' : (q.pv none 0 none 0).known = true := by simpa [Pv.known] using hk
  rw [if_neg (by rw [hk']; exact Bool.noConfusion), if_neg (by rw [ht]; exact Bool.noConfusion), if_neg (by rw [hp]; exact Bool.noConfusion)]
  exact h
theorem check_lean {q : Qp} (h : q.check = 0) : q.Lean' := by
  have ht := (check_parts h).2.1
  unfold Pv.tidy Pv.strip at ht
  have fin : ∀ {n m : Nat}, (n : Int) + m = 0 → n = 0 ∧ m = 0 := fun h => by omega
  by_cases k1 : q.kind = 1
  · rw [if_pos (by exact k1)] at ht
    simp only [Pv.bare, Bool.and_eq_true, beq_iff_eq] at ht
    obtain ⟨⟨⟨⟨⟨⟨⟨⟨t1, t2⟩, t3⟩, t4⟩, t5⟩, t6⟩, t7⟩, t8⟩, t9⟩ := ht
    have f := fin t4
    exact ⟨fun _ => empty_list t1, fun h => (h k1).elim, fun _ => t3, fun _ => List.length_eq_zero_iff.1 f.1, fun _ => List.length_eq_zero_iff.1 f.2, fun _ => t5, fun _ _ => empty_list t6, fun h => (h k1).elim, fun _ _ => t8, fun h => (h k1).elim⟩
  rw [if_neg (by exact k1)] at ht
  by_cases k2 : q.kind = 2
  · rw [if_pos (by exact k2)] at ht
    simp only [Pv.bare, Bool.and_eq_true, beq_iff_eq] at ht
    obtain ⟨⟨⟨⟨⟨⟨⟨⟨t1, t2⟩, t3⟩, t4⟩, t5⟩, t6⟩, t7⟩, t8⟩, t9⟩ := ht
    have f := fin t4
    exact ⟨fun _ => empty_list t1, fun _ h => (h k2).elim, fun _ => t3, fun _ => List.length_eq_zero_iff.1 f.1, fun _ => List.length_eq_zero_iff.1 f.2, fun _ => t5, fun h => (h k2).elim, fun _ _ => empty_list t7, fun h => (h k2).elim, fun _ _ => t9⟩
  rw [if_neg (by exact k2)] at ht
  by_cases k5 : q.kind = 5
  · rw [if_pos (by exact k5)] at ht
    simp only [Pv.bare, Bool.and_eq_true, beq_iff_eq] at ht
    obtain ⟨⟨⟨⟨⟨⟨⟨⟨t1, t2⟩, t3⟩, t4⟩, t5⟩, t6⟩, t7⟩, t8⟩, t9⟩ := ht
    have f := fin t4
    exact ⟨fun h => (h k5).elim, fun _ _ => t2, fun _ => t3, fun _ => List.length_eq_zero_iff.1 f.1, fun _ => List.length_eq_zero_iff.1 f.2, fun _ => t5, fun _ _ => empty_list t6, fun _ _ => empty_list t7, fun _ _ => t8, fun _ _ => t9⟩
  rw [if_neg (by exact k5)] at ht
  by_cases k6 : q.kind = 6
  · rw [if_pos (by exact k6)] at ht
    simp only [Pv.bare, Bool.and_eq_true, beq_iff_eq] at ht
    obtain ⟨⟨⟨⟨⟨⟨⟨⟨t1, t2⟩, t3⟩, t4⟩, t5⟩, t6⟩, t7⟩, t8⟩, t9⟩ := ht
    exact ⟨fun _ => empty_list t1, fun _ _ => t2, fun h => (h k6).elim, fun h => (h k6).elim, fun h => (h k6).elim, fun _ => t5, fun _ _ => empty_list t6, fun _ _ => empty_list t7, fun _ _ => t8, fun _ _ => t9⟩
  rw [if_neg (by exact k6)] at ht
  by_cases k7 : q.kind = 7
  · rw [if_pos (by exact k7)] at ht
    simp only [Pv.bare, Bool.and_eq_true, beq_iff_eq] at ht
    obtain ⟨⟨⟨⟨⟨⟨⟨⟨t1, t2⟩, t3⟩, t4⟩, t5⟩, t6⟩, t7⟩, t8⟩, t9⟩ := ht
    have f := fin t4
    exact ⟨fun _ => empty_list t1, fun _ _ => t2, fun _ => t3, fun _ => List.length_eq_zero_iff.1 f.1, fun _ => List.length_eq_zero_iff.1 f.2, fun h => (h k7).elim, fun _ h => (h k7).elim, fun _ h => (h k7).elim, fun _ _ => t8, fun _ _ => t9⟩
  rw [if_neg (by exact k7)] at ht
  by_cases k8 : q.kind = 8
  · rw [if_pos (by exact k8)] at ht
    simp only [Pv.bare, Bool.and_eq_true, beq_iff_eq] at ht
    obtain ⟨⟨⟨⟨⟨⟨⟨⟨t1, t2⟩, t3⟩, t4⟩, t5⟩, t6⟩, t7⟩, t8⟩, t9⟩ := ht
    have f := fin t4
    exact ⟨fun _ => empty_list t1, fun _ _ => t2, fun _ => t3, fun _ => List.length_eq_zero_iff.1 f.1, fun _ => List.length_eq_zero_iff.1 f.2, fun _ => t5, fun _ _ => empty_list t6, fun _ _ => empty_list t7, fun _ h => (h k8).elim, fun _ h => (h k8).elim⟩
  rw [if_neg (by exact k8)] at ht
  simp only [Pv.bare, Bool.and_eq_true, beq_iff_eq] at ht
  obtain ⟨⟨⟨⟨⟨⟨⟨⟨t1, t2⟩, t3⟩, t4⟩, t5⟩, t6⟩, t7⟩, t8⟩, t9⟩ := ht
  have f := fin t4
  exact ⟨fun _ => empty_list t1, fun _ _ => t2, fun _ => t3, fun _ => List.length_eq_zero_iff.1 f.1, fun _ => List.length_eq_zero_iff.1 f.2, fun _ => t5, fun _ _ => empty_list t6, fun _ _ => empty_list t7, fun _ _ => t8, fun _ _ => t9⟩
theorem inv_inv {q : Qp} (h : q.check = 0) : q.inv.inv = q := by
  have l := check_lean h
  obtain ⟨g1, g2, g3, g4, g5, g6, g7, g8, g9, g10⟩ := l
  have hk := (check_parts h).1
  cases q
  rename_i kind path to_ ty at_ old new off so sn om nm
  dsimp only at *
  unfold Qp.inv
  by_cases k1 : kind = 1
  · subst k1; simp_all [Qp.zero]
  by_cases k2 : kind = 2
  · subst k2; simp_all [Qp.zero]
  by_cases k3 : kind = 3
  · subst k3; simp_all [Qp.zero]
  by_cases k4 : kind = 4
  · subst k4; simp_all [Qp.zero]
  by_cases k5 : kind = 5
  · subst k5; simp_all [Qp.zero]
  simp [k1, k2, k3, k4, k5]

theorem empty_isEmpty : (⟨#[]⟩ : ByteArray).toList.isEmpty = true := by rw [ByteArray.toList_eq]; rfl
theorem path_ok {q : Qp} (h : (q.pv none 0 none 0).pathsOk = true) : Qm.isPath q.path = true ∧ (q.kind = 5 → Qm.isPath q.to_ = true) := by
  unfold Pv.pathsOk at h
  rw [Bool.and_eq_true] at h
  refine ⟨h.1, fun hk => ?_⟩
  have h2 := h.2
  have e5 : (q.kind == 5) = true := by simpa using hk
  rw [e5] at h2
  simpa using h2
theorem paths_ok {q : Qp} (h1 : Qm.isPath q.path = true) (h2 : q.kind = 5 → Qm.isPath q.to_ = true) : (q.pv none 0 none 0).pathsOk = true := by
  unfold Pv.pathsOk
  rw [Bool.and_eq_true]
  refine ⟨h1, ?_⟩
  by_cases hk : q.kind = 5
  · simp [h2 hk]
  · simp [hk]
theorem inv_check {q : Qp} (h : q.check = 0) : q.inv.check = 0 := by
  have l := check_lean h
  obtain ⟨hk, ht, hp, ha⟩ := check_parts h
  obtain ⟨p1, p2⟩ := path_ok hp
  have e0 := empty_isEmpty
  unfold Pv.actCheck at ha
  by_cases k1 : q.kind = 1
  · have ei : q.inv = { Qp.zero with kind := 2, path := q.path, ty := q.ty, om := q.nm, so := q.sn } := by unfold Qp.inv; rw [if_pos k1]
    rw [if_pos (by exact .inl k1)] at ha
    unfold Pv.addCheck at ha
    rw [if_neg (by show ¬ q.kind = 3; omega)] at ha
    rw [ei]
    refine check_of_parts ⟨by simp, by simp⟩ (by simp [Pv.tidy, Pv.strip, Pv.bare, Qp.zero, e0]) (paths_ok p1 (fun h => by simp at h)) ?_
    unfold Pv.actCheck Pv.remCheck
    rw [if_neg (by simp), if_pos (by simp), if_neg (by simp)]
    exact ha
  by_cases k3 : q.kind = 3
  · have ei : q.inv = { Qp.zero with kind := 4, path := q.path } := by unfold Qp.inv; rw [if_neg k1, if_pos k3]
    rw [ei]
    refine check_of_parts ⟨by simp, by simp⟩ (by simp [Pv.tidy, Pv.strip, Pv.bare, Qp.zero, e0]) (paths_ok p1 (fun h => by simp at h)) ?_
    unfold Pv.actCheck Pv.remCheck
    rw [if_neg (by simp), if_pos (by simp), if_pos (by simp)]
  rw [if_neg (by show ¬ (q.kind = 1 ∨ q.kind = 3); omega)] at ha
  by_cases k2 : q.kind = 2
  · have ei : q.inv = { Qp.zero with kind := 1, path := q.path, ty := q.ty, nm := q.om, sn := q.so } := by unfold Qp.inv; rw [if_neg k1, if_neg k3, if_pos k2]
    rw [if_pos (by exact .inl k2)] at ha
    unfold Pv.remCheck at ha
    rw [if_neg (by show ¬ q.kind = 4; omega)] at ha
    rw [ei]
    refine check_of_parts ⟨by simp, by simp⟩ (by simp [Pv.tidy, Pv.strip, Pv.bare, Qp.zero, e0]) (paths_ok p1 (fun h => by simp at h)) ?_
    unfold Pv.actCheck Pv.addCheck
    rw [if_pos (by simp), if_neg (by simp)]
    exact ha
  by_cases k4 : q.kind = 4
  · have ei : q.inv = { Qp.zero with kind := 3, path := q.path } := by unfold Qp.inv; rw [if_neg k1, if_neg k3, if_neg k2, if_pos k4]
    rw [ei]
    refine check_of_parts ⟨by simp, by simp⟩ (by simp [Pv.tidy, Pv.strip, Pv.bare, Qp.zero, e0]) (paths_ok p1 (fun h => by simp at h)) ?_
    unfold Pv.actCheck Pv.addCheck
    rw [if_pos (by simp), if_pos (by simp)]
  rw [if_neg (by show ¬ (q.kind = 2 ∨ q.kind = 4); omega)] at ha
  by_cases k5 : q.kind = 5
  · have ei : q.inv = { Qp.zero with kind := 5, path := q.to_, to_ := q.path } := by unfold Qp.inv; rw [if_neg k1, if_neg k3, if_neg k2, if_neg k4, if_pos k5]
    rw [if_pos (by exact k5)] at ha
    rw [ei]
    refine check_of_parts ⟨by simp, by simp⟩ (by simp [Pv.tidy, Pv.strip, Pv.bare, Qp.zero, e0]) (paths_ok (p2 k5) (fun _ => p1)) ?_
    unfold Pv.actCheck
    rw [if_neg (by simp), if_neg (by simp), if_pos (by simp)]
    unfold Pv.movCheck at ha ⊢
    split at ha
    · cases ha
    rename_i hn
    rw [if_neg]
    rintro (w | w | w)
    · exact hn (.inl (Qm.eqB_iff.2 (Qm.eqB_iff.1 w).symm))
    · exact hn (.inr (.inr w))
    · exact hn (.inr (.inl w))
  rw [if_neg (by exact k5)] at ha
  have ei : q.inv = { q with old := q.new, new := q.old, so := q.sn, sn := q.so, om := q.nm, nm := q.om } := by unfold Qp.inv; rw [if_neg k1, if_neg k3, if_neg k2, if_neg k4, if_neg k5]
  obtain ⟨g1, g2, g3, g4, g5, g6, g7, g8, g9, g10⟩ := l
  rw [ei]
  refine check_of_parts hk ?_ (paths_ok p1 p2) ?_
  · have c1 := g1 k5
    have c2 := g2 k1 k2
    by_cases k6 : q.kind = 6
    · simp [Pv.tidy, Pv.strip, Pv.bare, k6, c1, c2, g6 (by omega), g7 k2 (by omega), g8 k1 (by omega), g9 k2 (by omega), g10 k1 (by omega), e0]
    by_cases k7 : q.kind = 7
    · simp [Pv.tidy, Pv.strip, Pv.bare, k7, c1, c2, g3 k6, g4 k6, g5 k6, g9 k2 (by omega), g10 k1 (by omega), e0]
    have k8 : q.kind = 8 := by omega
    simp [Pv.tidy, Pv.strip, Pv.bare, k8, c1, c2, g3 k6, g4 k6, g5 k6, g6 k7, g7 k2 k7, g8 k1 k7, e0]
  · unfold Pv.actCheck
    rw [if_neg (by show ¬ (q.kind = 1 ∨ q.kind = 3); omega), if_neg (by show ¬ (q.kind = 2 ∨ q.kind = 4); omega), if_neg (by exact k5)]
    unfold Pv.edCheck6 at ha ⊢
    by_cases k6 : q.kind = 6
    · rw [if_pos (by exact k6)] at ha ⊢
      unfold Pv.linesCheck at ha ⊢
      split at ha
      · rename_i h6; exact (h6 ha).elim
      rename_i h6
      split at ha
      · cases ha
      rename_i h7
      split at ha
      · cases ha
      rename_i h8
      split at ha
      · cases ha
      rename_i h9
      have hh : Hv.check (Pv.hunk (Qp.pv { q with old := q.new, new := q.old, so := q.sn, sn := q.so, om := q.nm, nm := q.om } none 0 none 0)) = 0 := by
        simp only [ne_eq, Decidable.not_not] at h6
        unfold Hv.check Pv.hunk at h6 ⊢
        dsimp only at h6 ⊢
        split at h6
        · cases h6
        rename_i c1
        rw [if_neg c1]
        split at h6
        · cases h6
        rename_i c2
        rw [if_neg (by omega)]
      rw [if_neg (by rw [hh]; simp), if_neg (by dsimp only at h7 ⊢; omega), if_neg ?_, if_neg (fun e => h9 e.symm)]
      rw [List.all_append, Bool.and_comm, ← List.all_append]
      exact h8
    · rw [if_neg (by exact k6)] at ha ⊢
      unfold Pv.edCheck at ha ⊢
      dsimp only at ha ⊢
      by_cases k7 : q.kind = 7
      · rw [if_pos k7] at ha ⊢
        split at ha
        · cases ha
        rename_i c1
        rw [if_neg c1]
        split at ha
        · cases ha
        rename_i c2
        rw [if_neg (by omega)]
        split at ha
        · cases ha
        rename_i c3
        rw [if_neg (fun w => c3 (Qm.eqB_iff.2 (Qm.eqB_iff.1 w).symm))]
      · rw [if_neg k7] at ha ⊢
        split at ha
        · cases ha
        rename_i c1
        rw [if_neg (by omega)]
        split at ha
        · cases ha
        rename_i c2
        rw [if_neg (fun w => c2 w.symm)]
end Go.Proofs.YtdbokolbheileaaGreatDoor
