/- Patches exchanged: what the exchange does to the paths. Plain Lean. -/
import Derived.Test.YtdbjdekbdpdkaaaGreatDoorV2
import Derived.Test.YtdbjdekbdpdkaaaGreatDoorPb
set_option linter.unusedSimpArgs false
set_option linter.unusedVariables false
namespace Go.Proofs.YtdbjdekbdpdkaaaGreatDoor
open Go.RowKit Pa

/-- An existing path, a new path, under patch q. -/
def Ex (q : Qp) (u v : ByteArray) : Prop := if q.kind = 5 then Mv (L q.path) (L q.to_) (L u) (L v) else v = u
def Nw (q : Qp) (u v : ByteArray) : Prop := if q.kind = 5 then Nv (L q.path) (L q.to_) (L u) (L v) else v = u
theorem Ex.uniq {q : Qp} {u v v' : ByteArray} (h : Ex q u v) (k : Ex q u v') : v = v' := by
  unfold Ex at h k
  split at h
  · rw [if_pos (by assumption)] at k; exact L_inj (h.uniq k)
  · rw [if_neg (by assumption)] at k; rw [h, k]
theorem Nw.uniq {q : Qp} {u v v' : ByteArray} (h : Nw q u v) (k : Nw q u v') : v = v' := by
  unfold Nw at h k
  split at h
  · rw [if_pos (by assumption)] at k; exact L_inj (h.uniq k)
  · rw [if_neg (by assumption)] at k; rw [h, k]
theorem Ex.inj {q : Qp} {u u' v : ByteArray} (h : Ex q u v) (k : Ex q u' v) : u = u' := by
  unfold Ex at h k
  split at h
  · rw [if_pos (by assumption)] at k; exact L_inj (h.symm.uniq k.symm)
  · rw [if_neg (by assumption)] at k; rw [← h, ← k]
theorem Nw.inj {q : Qp} {u u' v : ByteArray} (h : Nw q u v) (k : Nw q u' v) : u = u' := by
  unfold Nw at h k
  split at h
  · rw [if_pos (by assumption)] at k; exact L_inj (h.symm.uniq k.symm)
  · rw [if_neg (by assumption)] at k; rw [← h, ← k]
/-- The same kind and the same paths. -/
def Sh (q q' : Qp) : Prop := q.kind = q'.kind ∧ q.path = q'.path ∧ q.to_ = q'.to_
theorem Sh.refl (q : Qp) : Sh q q := ⟨rfl, rfl, rfl⟩
theorem Sh.symm {q q' : Qp} (h : Sh q q') : Sh q' q := ⟨h.1.symm, h.2.1.symm, h.2.2.symm⟩
theorem Sh.trans {a b c : Qp} (h : Sh a b) (k : Sh b c) : Sh a c := ⟨h.1.trans k.1, h.2.1.trans k.2.1, h.2.2.trans k.2.2⟩
theorem Ex.sh {q q' : Qp} {u v : ByteArray} (h : Ex q u v) (k : Sh q q') : Ex q' u v := by
  unfold Ex at h ⊢
  rwa [← k.1, ← k.2.1, ← k.2.2]
theorem Nw.sh {q q' : Qp} {u v : ByteArray} (h : Nw q u v) (k : Sh q q') : Nw q' u v := by
  unfold Nw at h ⊢
  rwa [← k.1, ← k.2.1, ← k.2.2]

/-- r' is r, its paths taken through q. -/
structure PR (q r r' : Qp) : Prop where
  kind : r'.kind = r.kind
  new : Qm.adds r.kind = true → Nw q r.path r'.path
  old : Qm.adds r.kind = false → Ex q r.path r'.path
  to5 : r.kind = 5 → Nw q r.to_ r'.to_
  to0 : r.kind ≠ 5 → r'.to_ = r.to_
theorem PR.sh {q q' r r' : Qp} (h : PR q r r') (k : Sh q q') : PR q' r r' :=
  ⟨h.kind, fun e => (h.new e).sh k, fun e => (h.old e).sh k, fun e => (h.to5 e).sh k, h.to0⟩
theorem PR.shl {q r r2 r' : Qp} (h : PR q r r') (k : Sh r r2) : PR q r2 r' :=
  ⟨h.kind.trans k.1, fun e => by rw [← k.2.1]; exact h.new (by rw [k.1]; exact e), fun e => by rw [← k.2.1]; exact h.old (by rw [k.1]; exact e), fun e => by rw [← k.2.2]; exact h.to5 (k.1.trans e), fun e => by rw [← k.2.2]; exact h.to0 (fun h => e (k.1.symm.trans h))⟩
theorem PR.shr {q r r' r2 : Qp} (h : PR q r r') (k : Sh r' r2) : PR q r r2 :=
  ⟨k.1.symm.trans h.kind, fun e => by rw [← k.2.1]; exact h.new e, fun e => by rw [← k.2.1]; exact h.old e, fun e => by rw [← k.2.2]; exact h.to5 e, fun e => by rw [← k.2.2]; exact h.to0 e⟩
theorem PR.uniq {q r r' r2 : Qp} (h : PR q r r') (k : PR q r r2) : Sh r' r2 := by
  refine ⟨h.kind.trans k.kind.symm, ?_, ?_⟩
  · cases e : Qm.adds r.kind
    · exact (h.old e).uniq (k.old e)
    · exact (h.new e).uniq (k.new e)
  · by_cases e : r.kind = 5
    · exact (h.to5 e).uniq (k.to5 e)
    · rw [h.to0 e, k.to0 e]
theorem PR.inj {q r r2 r' : Qp} (h : PR q r r') (k : PR q r2 r') : Sh r r2 := by
  have hk : r.kind = r2.kind := h.kind.symm.trans k.kind
  refine ⟨hk, ?_, ?_⟩
  · cases e : Qm.adds r.kind
    · exact (h.old e).inj (k.old (by rw [← hk]; exact e))
    · exact (h.new e).inj (k.new (by rw [← hk]; exact e))
  · by_cases e : r.kind = 5
    · exact (h.to5 e).inj (k.to5 (hk.symm.trans e))
    · rw [← h.to0 e, ← k.to0 (fun h => e (hk.trans h))]
/-- A patch that is no move leaves the paths alone. -/
theorem PR.still {q r r' : Qp} (h : PR q r r') (hq : q.kind ≠ 5) : Sh r' r := by
  refine ⟨h.kind, ?_, ?_⟩
  · cases e : Qm.adds r.kind
    · have := h.old e; unfold Ex at this; rwa [if_neg hq] at this
    · have := h.new e; unfold Nw at this; rwa [if_neg hq] at this
  · by_cases e : r.kind = 5
    · have := h.to5 e; unfold Nw at this; rwa [if_neg hq] at this
    · exact h.to0 e
theorem PR.of_still {q r : Qp} (hq : q.kind ≠ 5) : PR q r r :=
  ⟨rfl, fun _ => by unfold Nw; rw [if_neg hq], fun _ => by unfold Ex; rw [if_neg hq], fun _ => by unfold Nw; rw [if_neg hq], fun _ => rfl⟩

theorem after_ex {q : Qp} {s : ByteArray} (h : (Qm.after q.kind q.path q.to_ s).2 = true) : Ex q s (Qm.after q.kind q.path q.to_ s).1 := by
  unfold Ex
  split
  · rename_i hk; rw [hk] at h ⊢; exact after_move h
  · rename_i hk; exact after_same hk
theorem newAfter_nw {q : Qp} {s : ByteArray} (h : (Qm.newAfter q.kind q.path q.to_ s).2 = true) : Nw q s (Qm.newAfter q.kind q.path q.to_ s).1 := by
  unfold Nw
  split
  · rename_i hk; rw [hk] at h ⊢; exact newAfter_move h
  · rename_i hk; exact newAfter_same hk h
theorem through_pr {r q : Qp} (h : (Qp.through r q).2 = true) : PR q r (Qp.through r q).1 := by
  unfold Qp.through Pv.through at h ⊢
  dsimp only at h ⊢
  rw [Bool.and_eq_true] at h
  obtain ⟨h1, h2⟩ := h
  refine ⟨rfl, fun e => ?_, fun e => ?_, fun e => ?_, fun e => ?_⟩
  · simp only [e, if_true] at h1 ⊢; exact newAfter_nw h1
  · simp only [e, Bool.false_eq_true, if_false] at h1 ⊢; exact after_ex h1
  · have e' : (r.kind == 5) = true := by simpa using e
    simp only [e', if_true] at h2 ⊢; exact newAfter_nw h2
  · have e' : (r.kind == 5) = false := by simpa using e
    simp only [e', Bool.false_eq_true, if_false]
theorem inv_kind5 {q : Qp} : q.inv.kind = 5 ↔ q.kind = 5 := by
  unfold Qp.inv
  repeat' split
  all_goals simp_all [Qp.zero]
theorem inv_paths {q : Qp} (h : q.kind = 5) : q.inv.path = q.to_ ∧ q.inv.to_ = q.path := by
  unfold Qp.inv
  rw [if_neg (by omega), if_neg (by omega), if_neg (by omega), if_neg (by omega), if_pos h]
  exact ⟨rfl, rfl⟩
theorem ex_inv {q : Qp} {u v : ByteArray} (h : Ex q.inv u v) : Ex q v u := by
  unfold Ex at h ⊢
  by_cases hk : q.kind = 5
  · rw [if_pos (inv_kind5.2 hk), (inv_paths hk).1, (inv_paths hk).2] at h
    rw [if_pos hk]
    exact h.symm
  · rw [if_neg (fun e => hk (inv_kind5.1 e))] at h
    rw [if_neg hk, h]
theorem nw_inv {q : Qp} {u v : ByteArray} (h : Nw q.inv u v) : Nw q v u := by
  unfold Nw at h ⊢
  by_cases hk : q.kind = 5
  · rw [if_pos (inv_kind5.2 hk), (inv_paths hk).1, (inv_paths hk).2] at h
    rw [if_pos hk]
    exact h.symm
  · rw [if_neg (fun e => hk (inv_kind5.1 e))] at h
    rw [if_neg hk, h]
theorem pr_inv {q r r' : Qp} (h : PR q.inv r r') : PR q r' r :=
  ⟨h.kind.symm, fun e => nw_inv (h.new (by rw [← h.kind]; exact e)), fun e => ex_inv (h.old (by rw [← h.kind]; exact e)), fun e => nw_inv (h.to5 (h.kind.symm.trans e)), fun e => (h.to0 (fun k => e (h.kind.trans k))).symm⟩
end Go.Proofs.YtdbjdekbdpdkaaaGreatDoor
