/- Patches that touch nothing in common; the inverse of a valid patch. Plain Lean. -/
import Derived.Test.YtdbjdekbdpdkaaaGreatDoorPd
set_option linter.unusedSimpArgs false
set_option linter.unusedVariables false
namespace Go.Proofs.YtdbjdekbdpdkaaaGreatDoor
open Go.RowKit Pa

/-- Neither path is the other one, or below it. -/
def Dj (s t : ByteArray) : Prop := ¬ wi (L s) (L t) ∧ ¬ wi (L t) (L s)
theorem Dj.ne {s t : ByteArray} (h : Dj s t) : s ≠ t := fun e => h.1 (by rw [e]; exact wi.refl _)
/-- The paths that a patch touches. -/
def Tc (q : Qp) (s : ByteArray) : Prop := s = q.path ∨ (q.kind = 5 ∧ s = q.to_)
def Apart (a b : Qp) : Prop := ∀ s t, Tc a s → Tc b t → Dj s t
theorem Apart.symm {a b : Qp} (h : Apart a b) : Apart b a := fun s t hs ht => ⟨(h t s ht hs).2, (h t s ht hs).1⟩
theorem inv_tc {q : Qp} {s : ByteArray} (h : Tc q.inv s) : Tc q s := by
  by_cases hk : q.kind = 5
  · have hp := inv_paths hk
    rcases h with rfl | ⟨_, rfl⟩
    · exact .inr ⟨hk, hp.1⟩
    · exact .inl hp.2
  · have hp : q.inv.path = q.path := by
      unfold Qp.inv
      repeat' split
      all_goals first | rfl | (exfalso; omega)
    rcases h with rfl | ⟨h5, _⟩
    · exact .inl hp
    · exact (hk (inv_kind5.1 h5)).elim
theorem Apart.inv {a b : Qp} (h : Apart a b) : Apart a.inv b := fun s t hs ht => h s t (inv_tc hs) ht

theorem after_apart {k : Int} {path to_ s : ByteArray} (h1 : ¬ wi (L s) (L path)) (h2 : k = 5 → ¬ wi (L s) (L to_)) : Qm.after k path to_ s = (s, true) := by
  have w1 : Qm.within s path = false := by
    cases e : Qm.within s path
    · rfl
    · exact (h1 (Pa.within_iff.1 e)).elim
  have w2 : Qm.below s path = false := by
    cases e : Qm.below s path
    · rfl
    · exact (h1 (below_iff.1 e).wi).elim
  unfold Qm.after
  split
  · rw [w1]; rfl
  · split
    · rename_i h5
      have w3 : Qm.within s to_ = false := by
        cases e : Qm.within s to_
        · rfl
        · exact (h2 (by simpa using h5) (Pa.within_iff.1 e)).elim
      rw [w1, w3]; rfl
    · rw [w2]; rfl
theorem newAfter_apart {k : Int} {path to_ s : ByteArray} (h1 : ¬ wi (L s) (L path)) (h2 : k = 5 → ¬ wi (L s) (L to_)) : Qm.newAfter k path to_ s = (s, true) := by
  have w2 : Qm.below s path = false := by
    cases e : Qm.below s path
    · rfl
    · exact (h1 (below_iff.1 e).wi).elim
  unfold Qm.newAfter
  rw [w2, Bool.and_false, if_neg (by decide)]
  rcases last_slash s with ⟨h0, hn⟩ | ⟨i, name, hi, hlt, hs, hn, hd⟩
  · rw [if_pos h0]
  · rw [if_neg (by omega), hi]
    dsimp only [Int.toNat_natCast]
    have hp : L (s.extract 0 i) = (L s).take i := by rw [L_extract]; rfl
    have hw : wi (L s) (L (s.extract 0 i)) := ⟨47 :: name, .inr ⟨name, rfl⟩, by rw [hp]; exact hs⟩
    rw [after_apart (fun w => h1 (hw.trans w)) (fun h5 w => h2 h5 (hw.trans w))]
    have e : s.extract 0 i ++ s.extract i s.size = s := by
      refine L_inj ?_
      rw [L_append, L_extract, L_extract]
      show List.take i (L s) ++ List.drop i (List.take (L s).length (L s)) = L s
      rw [List.take_length, List.take_append_drop]
    rw [e]
theorem through_apart {q r : Qp} (h : Apart q r) : Qp.through r q = (r, true) := by
  have h1 := (h q.path r.path (.inl rfl) (.inl rfl)).2
  have h2 : q.kind = 5 → ¬ wi (L r.path) (L q.to_) := fun hk => (h q.to_ r.path (.inr ⟨hk, rfl⟩) (.inl rfl)).2
  unfold Qp.through Pv.through
  dsimp only
  rw [after_apart h1 h2, newAfter_apart h1 h2]
  by_cases hk : r.kind = 5
  · have h3 := (h q.path r.to_ (.inl rfl) (.inr ⟨hk, rfl⟩)).2
    have h4 : q.kind = 5 → ¬ wi (L r.to_) (L q.to_) := fun hq => (h q.to_ r.to_ (.inr ⟨hq, rfl⟩) (.inr ⟨hk, rfl⟩)).2
    rw [newAfter_apart h3 h4]
    cases r
    simp
  · have e : (r.kind == 5) = false := by simpa using hk
    simp only [e, Bool.false_eq_true, if_false]
    cases r
    simp
theorem newPath_tc {q : Qp} (h : (Qm.newPath q.kind q.path q.to_).2 = true) : Tc q (Qm.newPath q.kind q.path q.to_).1 := by
  unfold Qm.newPath at h ⊢
  split
  · exact .inl rfl
  · rename_i ha
    rw [if_neg ha] at h
    exact .inr ⟨by simpa using h, rfl⟩
theorem news_apart {a b : Qp} (h : Apart a b) : Qm.news a.kind a.path a.to_ b.kind b.path b.to_ = true := by
  unfold Qm.news
  cases e1 : (Qm.newPath a.kind a.path a.to_).2
  · rfl
  cases e2 : (Qm.newPath b.kind b.path b.to_).2
  · rfl
  have hne := (h _ _ (newPath_tc e1) (newPath_tc e2)).ne
  cases e3 : Qm.eqB (Qm.newPath a.kind a.path a.to_).1 (Qm.newPath b.kind b.path b.to_).1
  · rfl
  · exact (hne (Qm.eqB_iff.1 e3)).elim
theorem run_apart {a b : Qp} (h : Apart a b) (ha : a.check = 0) (hb : b.check = 0) : a.run b = (b, a, true) := by
  have pp := h a.path b.path (.inl rfl) (.inl rfl)
  have hf : Qp.free a b b a = true := by
    unfold Qp.free Qm.xfree
    have h1 : ((Qm.newPath b.kind b.path b.to_).2 && Qm.frees a.kind && Qm.eqB (Qm.newPath b.kind b.path b.to_).1 a.path) = false := by
      cases e2 : (Qm.newPath b.kind b.path b.to_).2
      · rfl
      have hne := (h _ _ (.inl rfl) (newPath_tc e2)).ne
      cases e3 : Qm.eqB (Qm.newPath b.kind b.path b.to_).1 a.path
      · simp
      · exact (hne (Qm.eqB_iff.1 e3).symm).elim
    dsimp only
    rw [h1, news_apart h]
    rfl
  have he : Qp.empty a b b = true := by
    unfold Qp.empty Qm.xempty
    cases e : Qm.below a.path b.path
    · simp
    · exact (pp.1 (below_iff.1 e).wi).elim
  have hm : Qp.moves a b = true := by
    unfold Qp.moves Qm.xmoves
    cases e5 : (a.kind != 5)
    · have k5 : a.kind = 5 := by simpa using e5
      cases e : Qm.eqB a.to_ b.path
      · simp
      · exact ((h a.to_ b.path (.inr ⟨k5, rfl⟩) (.inl rfl)).ne (Qm.eqB_iff.1 e)).elim
    · rfl
  have hc : Qp.contents a b b a = (b, a, true) := by
    have e : Qm.eqB a.path b.path = false := by
      cases e : Qm.eqB a.path b.path
      · rfl
      · exact (pp.ne (Qm.eqB_iff.1 e)).elim
    unfold Qp.contents
    rw [if_pos (.inr (.inr e))]
  unfold Qp.run Qp.runOf
  rw [through_apart h.inv]
  dsimp only
  rw [through_apart h.symm]
  dsimp only
  rw [hf, he, hm, hc]
  simp [ha, hb]
theorem commute_apart {a b : Qp} (h : Apart a b) (ha : a.check = 0) (hb : b.check = 0) : a.commute b = (b, a, true) := by
  unfold Qp.commute
  rw [if_neg (by simp [ha, hb]), run_apart h ha hb]
  dsimp only
  rw [if_neg (by simp), run_apart h.symm hb ha]
  dsimp only
  rw [if_pos (by simp [Qp.same_iff.2 rfl])]

/-! ### The inverse -/
theorem empty_list {s : ByteArray} (h : s.toList.isEmpty = true) : s = ⟨#[]⟩ := by
  have hs := size_of_empty h
  refine L_inj ?_
  exact List.length_eq_zero_iff.1 hs
/-- What a valid patch has no use for is empty. -/
structure Qp.Lean' (q : Qp) : Prop where
  to_ : q.kind ≠ 5 → q.to_ = ⟨#[]⟩
  ty : q.kind ≠ 1 → q.kind ≠ 2 → q.ty = 0
  at_ : q.kind ≠ 6 → q.at_ = 0
  old : q.kind ≠ 6 → q.old = []
  new : q.kind ≠ 6 → q.new = []
  off : q.kind ≠ 7 → q.off = 0
  so : q.kind ≠ 2 → q.kind ≠ 7 → q.so = ⟨#[]⟩
  sn : q.kind ≠ 1 → q.kind ≠ 7 → q.sn = ⟨#[]⟩
  om : q.kind ≠ 2 → q.kind ≠ 8 → q.om = 0
  nm : q.kind ≠ 1 → q.kind ≠ 8 → q.nm = 0
theorem check_parts {q : Qp} (h : q.check = 0) : (1 ≤ q.kind ∧ q.kind ≤ 8) ∧ (q.pv none 0 none 0).tidy = true ∧ (q.pv none 0 none 0).pathsOk = true ∧ (q.pv none 0 none 0).actCheck q.old q.new = 0 := by
  unfold Qp.check Pv.check at h
  cases hk : (q.pv none 0 none 0).known
  · rw [if_pos hk] at h; cases h
  rw [if_neg (by rw [hk]; exact Bool.noConfusion)] at h
  cases ht : (q.pv none 0 none 0).tidy
  · rw [if_pos ht] at h; cases h
  rw [if_neg (by rw [ht]; exact Bool.noConfusion)] at h
  cases hp : (q.pv none 0 none 0).pathsOk
  · rw [if_pos hp] at h; cases h
  rw [if_neg (by rw [hp]; exact Bool.noConfusion)] at h
  exact ⟨by simpa [Pv.known] using hk, rfl, rfl, h⟩
theorem check_of_parts {q : Qp} (hk : 1 ≤ q.kind ∧ q.kind ≤ 8) (ht : (q.pv none 0 none 0).tidy = true) (hp : (q.pv none 0 none 0).pathsOk = true) (h : (q.pv none 0 none 0).actCheck q.old q.new = 0) : q.check = 0 := by
  unfold Qp.check Pv.check
  have hk' : (q.pv none 0 none 0).known = true := by simpa [Pv.known] using hk
  rw [if_neg (by rw [hk']; exact Bool.noConfusion), if_neg (by rw [ht]; exact Bool.noConfusion), if_neg (by rw [hp]; exact Bool.noConfusion)]
  exact h
theorem check_lean {q : Qp} (h : q.check = 0) : q.Lean' := by
  have ht := (check_parts h).2.1
  unfold Pv.tidy Pv.strip at ht
  have fin : ∀ {n m : Nat}, (n : Int) + m = 0 → n = 0 ∧ m = 0 := fun h => by omega
  by_cases k1 : q.kind = 1
  · rw [if_pos (by exact k1)] at ht
    simp only [Pv.bare, Bool.and_eq_true, beq_iff_eq] at ht
    obtain ⟨⟨⟨⟨⟨⟨⟨⟨t1, t2⟩, t3⟩, t4⟩, t5⟩, t6⟩, t7⟩, t8⟩, t9⟩ := ht
    have f := fin t4
    exact ⟨fun _ => empty_list t1, fun h => (h k1).elim, fun _ => t3, fun _ => List.length_eq_zero_iff.1 f.1, fun _ => List.length_eq_zero_iff.1 f.2, fun _ => t5, fun _ _ => empty_list t6, fun h => (h k1).elim, fun _ _ => t8, fun h => (h k1).elim⟩
  rw [if_neg (by exact k1)] at ht
  by_cases k2 : q.kind = 2
  · rw [if_pos (by exact k2)] at ht
    simp only [Pv.bare, Bool.and_eq_true, beq_iff_eq] at ht
    obtain ⟨⟨⟨⟨⟨⟨⟨⟨t1, t2⟩, t3⟩, t4⟩, t5⟩, t6⟩, t7⟩, t8⟩, t9⟩ := ht
    have f := fin t4
    exact ⟨fun _ => empty_list t1, fun _ h => (h k2).elim, fun _ => t3, fun _ => List.length_eq_zero_iff.1 f.1, fun _ => List.length_eq_zero_iff.1 f.2, fun _ => t5, fun h => (h k2).elim, fun _ _ => empty_list t7, fun h => (h k2).elim, fun _ _ => t9⟩
  rw [if_neg (by exact k2)] at ht
  by_cases k5 : q.kind = 5
  · rw [if_pos (by exact k5)] at ht
    simp only [Pv.bare, Bool.and_eq_true, beq_iff_eq] at ht
    obtain ⟨⟨⟨⟨⟨⟨⟨⟨t1, t2⟩, t3⟩, t4⟩, t5⟩, t6⟩, t7⟩, t8⟩, t9⟩ := ht
    have f := fin t4
    exact ⟨fun h => (h k5).elim, fun _ _ => t2, fun _ => t3, fun _ => List.length_eq_zero_iff.1 f.1, fun _ => List.length_eq_zero_iff.1 f.2, fun _ => t5, fun _ _ => empty_list t6, fun _ _ => empty_list t7, fun _ _ => t8, fun _ _ => t9⟩
  rw [if_neg (by exact k5)] at ht
  by_cases k6 : q.kind = 6
  · rw [if_pos (by exact k6)] at ht
    simp only [Pv.bare, Bool.and_eq_true, beq_iff_eq] at ht
    obtain ⟨⟨⟨⟨⟨⟨⟨⟨t1, t2⟩, t3⟩, t4⟩, t5⟩, t6⟩, t7⟩, t8⟩, t9⟩ := ht
    exact ⟨fun _ => empty_list t1, fun _ _ => t2, fun h => (h k6).elim, fun h => (h k6).elim, fun h => (h k6).elim, fun _ => t5, fun _ _ => empty_list t6, fun _ _ => empty_list t7, fun _ _ => t8, fun _ _ => t9⟩
  rw [if_neg (by exact k6)] at ht
  by_cases k7 : q.kind = 7
  · rw [if_pos (by exact k7)] at ht
    simp only [Pv.bare, Bool.and_eq_true, beq_iff_eq] at ht
    obtain ⟨⟨⟨⟨⟨⟨⟨⟨t1, t2⟩, t3⟩, t4⟩, t5⟩, t6⟩, t7⟩, t8⟩, t9⟩ := ht
    have f := fin t4
    exact ⟨fun _ => empty_list t1, fun _ _ => t2, fun _ => t3, fun _ => List.length_eq_zero_iff.1 f.1, fun _ => List.length_eq_zero_iff.1 f.2, fun h => (h k7).elim, fun _ h => (h k7).elim, fun _ h => (h k7).elim, fun _ _ => t8, fun _ _ => t9⟩
  rw [if_neg (by exact k7)] at ht
  by_cases k8 : q.kind = 8
  · rw [if_pos (by exact k8)] at ht
    simp only [Pv.bare, Bool.and_eq_true, beq_iff_eq] at ht
    obtain ⟨⟨⟨⟨⟨⟨⟨⟨t1, t2⟩, t3⟩, t4⟩, t5⟩, t6⟩, t7⟩, t8⟩, t9⟩ := ht
    have f := fin t4
    exact ⟨fun _ => empty_list t1, fun _ _ => t2, fun _ => t3, fun _ => List.length_eq_zero_iff.1 f.1, fun _ => List.length_eq_zero_iff.1 f.2, fun _ => t5, fun _ _ => empty_list t6, fun _ _ => empty_list t7, fun _ h => (h k8).elim, fun _ h => (h k8).elim⟩
  rw [if_neg (by exact k8)] at ht
  simp only [Pv.bare, Bool.and_eq_true, beq_iff_eq] at ht
  obtain ⟨⟨⟨⟨⟨⟨⟨⟨t1, t2⟩, t3⟩, t4⟩, t5⟩, t6⟩, t7⟩, t8⟩, t9⟩ := ht
  have f := fin t4
  exact ⟨fun _ => empty_list t1, fun _ _ => t2, fun _ => t3, fun _ => List.length_eq_zero_iff.1 f.1, fun _ => List.length_eq_zero_iff.1 f.2, fun _ => t5, fun _ _ => empty_list t6, fun _ _ => empty_list t7, fun _ _ => t8, fun _ _ => t9⟩
theorem inv_inv {q : Qp} (h : q.check = 0) : q.inv.inv = q := by
  have l := check_lean h
  obtain ⟨g1, g2, g3, g4, g5, g6, g7, g8, g9, g10⟩ := l
  have hk := (check_parts h).1
  cases q
  rename_i kind path to_ ty at_ old new off so sn om nm
  dsimp only at *
  unfold Qp.inv
  by_cases k1 : kind = 1
  · subst k1; simp_all [Qp.zero]
  by_cases k2 : kind = 2
  · subst k2; simp_all [Qp.zero]
  by_cases k3 : kind = 3
  · subst k3; simp_all [Qp.zero]
  by_cases k4 : kind = 4
  · subst k4; simp_all [Qp.zero]
  by_cases k5 : kind = 5
  · subst k5; simp_all [Qp.zero]
  simp [k1, k2, k3, k4, k5]

theorem empty_isEmpty : (⟨#[]⟩ : ByteArray).toList.isEmpty = true := by rw [ByteArray.toList_eq]; rfl
theorem path_ok {q : Qp} (h : (q.pv none 0 none 0).pathsOk = true) : Qm.isPath q.path = true ∧ (q.kind = 5 → Qm.isPath q.to_ = true) := by
  unfold Pv.pathsOk at h
  rw [Bool.and_eq_true] at h
  refine ⟨h.1, fun hk => ?_⟩
  have h2 := h.2
  have e5 : (q.kind == 5) = true := by simpa using hk
  rw [e5] at h2
  simpa using h2
theorem paths_ok {q : Qp} (h1 : Qm.isPath q.path = true) (h2 : q.kind = 5 → Qm.isPath q.to_ = true) : (q.pv none 0 none 0).pathsOk = true := by
  unfold Pv.pathsOk
  rw [Bool.and_eq_true]
  refine ⟨h1, ?_⟩
  by_cases hk : q.kind = 5
  · simp [h2 hk]
  · simp [hk]
theorem inv_check {q : Qp} (h : q.check = 0) : q.inv.check = 0 := by
  have l := check_lean h
  obtain ⟨hk, ht, hp, ha⟩ := check_parts h
  obtain ⟨p1, p2⟩ := path_ok hp
  have e0 := empty_isEmpty
  unfold Pv.actCheck at ha
  by_cases k1 : q.kind = 1
  · have ei : q.inv = { Qp.zero with kind := 2, path := q.path, ty := q.ty, om := q.nm, so := q.sn } := by unfold Qp.inv; rw [if_pos k1]
    rw [if_pos (by exact .inl k1)] at ha
    unfold Pv.addCheck at ha
    rw [if_neg (by show ¬ q.kind = 3; omega)] at ha
    rw [ei]
    refine check_of_parts ⟨by simp, by simp⟩ (by simp [Pv.tidy, Pv.strip, Pv.bare, Qp.zero, e0]) (paths_ok p1 (fun h => by simp at h)) ?_
    unfold Pv.actCheck Pv.remCheck
    rw [if_neg (by simp), if_pos (by simp), if_neg (by simp)]
    exact ha
  by_cases k3 : q.kind = 3
  · have ei : q.inv = { Qp.zero with kind := 4, path := q.path } := by unfold Qp.inv; rw [if_neg k1, if_pos k3]
    rw [ei]
    refine check_of_parts ⟨by simp, by simp⟩ (by simp [Pv.tidy, Pv.strip, Pv.bare, Qp.zero, e0]) (paths_ok p1 (fun h => by simp at h)) ?_
    unfold Pv.actCheck Pv.remCheck
    rw [if_neg (by simp), if_pos (by simp), if_pos (by simp)]
  rw [if_neg (by show ¬ (q.kind = 1 ∨ q.kind = 3); omega)] at ha
  by_cases k2 : q.kind = 2
  · have ei : q.inv = { Qp.zero with kind := 1, path := q.path, ty := q.ty, nm := q.om, sn := q.so } := by unfold Qp.inv; rw [if_neg k1, if_neg k3, if_pos k2]
    rw [if_pos (by exact .inl k2)] at ha
    unfold Pv.remCheck at ha
    rw [if_neg (by show ¬ q.kind = 4; omega)] at ha
    rw [ei]
    refine check_of_parts ⟨by simp, by simp⟩ (by simp [Pv.tidy, Pv.strip, Pv.bare, Qp.zero, e0]) (paths_ok p1 (fun h => by simp at h)) ?_
    unfold Pv.actCheck Pv.addCheck
    rw [if_pos (by simp), if_neg (by simp)]
    exact ha
  by_cases k4 : q.kind = 4
  · have ei : q.inv = { Qp.zero with kind := 3, path := q.path } := by unfold Qp.inv; rw [if_neg k1, if_neg k3, if_neg k2, if_pos k4]
    rw [ei]
    refine check_of_parts ⟨by simp, by simp⟩ (by simp [Pv.tidy, Pv.strip, Pv.bare, Qp.zero, e0]) (paths_ok p1 (fun h => by simp at h)) ?_
    unfold Pv.actCheck Pv.addCheck
    rw [if_pos (by simp), if_pos (by simp)]
  rw [if_neg (by show ¬ (q.kind = 2 ∨ q.kind = 4); omega)] at ha
  by_cases k5 : q.kind = 5
  · have ei : q.inv = { Qp.zero with kind := 5, path := q.to_, to_ := q.path } := by unfold Qp.inv; rw [if_neg k1, if_neg k3, if_neg k2, if_neg k4, if_pos k5]
    rw [if_pos (by exact k5)] at ha
    rw [ei]
    refine check_of_parts ⟨by simp, by simp⟩ (by simp [Pv.tidy, Pv.strip, Pv.bare, Qp.zero, e0]) (paths_ok (p2 k5) (fun _ => p1)) ?_
    unfold Pv.actCheck
    rw [if_neg (by simp), if_neg (by simp), if_pos (by simp)]
    unfold Pv.movCheck at ha ⊢
    split at ha
    · cases ha
    rename_i hn
    rw [if_neg]
    rintro (w | w | w)
    · exact hn (.inl (Qm.eqB_iff.2 (Qm.eqB_iff.1 w).symm))
    · exact hn (.inr (.inr w))
    · exact hn (.inr (.inl w))
  rw [if_neg (by exact k5)] at ha
  have ei : q.inv = { q with old := q.new, new := q.old, so := q.sn, sn := q.so, om := q.nm, nm := q.om } := by unfold Qp.inv; rw [if_neg k1, if_neg k3, if_neg k2, if_neg k4, if_neg k5]
  obtain ⟨g1, g2, g3, g4, g5, g6, g7, g8, g9, g10⟩ := l
  rw [ei]
  refine check_of_parts hk ?_ (paths_ok p1 p2) ?_
  · have c1 := g1 k5
    have c2 := g2 k1 k2
    by_cases k6 : q.kind = 6
    · simp [Pv.tidy, Pv.strip, Pv.bare, k6, c1, c2, g6 (by omega), g7 k2 (by omega), g8 k1 (by omega), g9 k2 (by omega), g10 k1 (by omega), e0]
    by_cases k7 : q.kind = 7
    · simp [Pv.tidy, Pv.strip, Pv.bare, k7, c1, c2, g3 k6, g4 k6, g5 k6, g9 k2 (by omega), g10 k1 (by omega), e0]
    have k8 : q.kind = 8 := by omega
    simp [Pv.tidy, Pv.strip, Pv.bare, k8, c1, c2, g3 k6, g4 k6, g5 k6, g6 k7, g7 k2 k7, g8 k1 k7, e0]
  · unfold Pv.actCheck
    rw [if_neg (by show ¬ (q.kind = 1 ∨ q.kind = 3); omega), if_neg (by show ¬ (q.kind = 2 ∨ q.kind = 4); omega), if_neg (by exact k5)]
    unfold Pv.edCheck6 at ha ⊢
    by_cases k6 : q.kind = 6
    · rw [if_pos (by exact k6)] at ha ⊢
      unfold Pv.linesCheck at ha ⊢
      split at ha
      · rename_i h6; exact (h6 ha).elim
      rename_i h6
      split at ha
      · cases ha
      rename_i h7
      split at ha
      · cases ha
      rename_i h8
      split at ha
      · cases ha
      rename_i h9
      have hh : Hv.check (Pv.hunk (Qp.pv { q with old := q.new, new := q.old, so := q.sn, sn := q.so, om := q.nm, nm := q.om } none 0 none 0)) = 0 := by
        simp only [ne_eq, Decidable.not_not] at h6
        unfold Hv.check Pv.hunk at h6 ⊢
        dsimp only at h6 ⊢
        split at h6
        · cases h6
        rename_i c1
        rw [if_neg c1]
        split at h6
        · cases h6
        rename_i c2
        rw [if_neg (by omega)]
      rw [if_neg (by rw [hh]; simp), if_neg (by dsimp only at h7 ⊢; omega), if_neg ?_, if_neg (fun e => h9 e.symm)]
      rw [List.all_append, Bool.and_comm, ← List.all_append]
      exact h8
    · rw [if_neg (by exact k6)] at ha ⊢
      unfold Pv.edCheck at ha ⊢
      dsimp only at ha ⊢
      by_cases k7 : q.kind = 7
      · rw [if_pos k7] at ha ⊢
        split at ha
        · cases ha
        rename_i c1
        rw [if_neg c1]
        split at ha
        · cases ha
        rename_i c2
        rw [if_neg (by omega)]
        split at ha
        · cases ha
        rename_i c3
        rw [if_neg (fun w => c3 (Qm.eqB_iff.2 (Qm.eqB_iff.1 w).symm))]
      · rw [if_neg k7] at ha ⊢
        split at ha
        · cases ha
        rename_i c1
        rw [if_neg (by omega)]
        split at ha
        · cases ha
        rename_i c2
        rw [if_neg (fun w => c2 w.symm)]
/-- Merging patches that touch nothing in common. -/
theorem merge_apart {a b : Qp} (h : Apart a b) (ha : a.check = 0) (hb : b.check = 0) : a.inv.commute b = (b, a.inv, true) := commute_apart h.inv (inv_check ha) hb
end Go.Proofs.YtdbjdekbdpdkaaaGreatDoor
