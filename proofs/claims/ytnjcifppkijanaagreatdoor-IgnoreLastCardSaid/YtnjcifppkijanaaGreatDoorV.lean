/- The exchange of two patches in plain Lean. A valid patch has bounds. Plain Lean. -/
import Derived.Test.YtnjcifppkijanaaGreatDoorR
import Derived.Test.YtnjcifppkijanaaGreatDoorK
import Derived.Deep.DrawnRows
import Derived.Deep.CutBlock
import Derived.Deep.DeepCutAuto
import Derived.Test.YtnjcifppkijanaaGreatDoorQ
set_option linter.unusedSimpArgs false
set_option linter.unusedVariables false
namespace Go.Proofs.YtnjcifppkijanaaGreatDoor
open Go.RowKit

abbrev Qp.bare (q : Qp) : Pv := q.pv none 0 none 0
/-- Patch p behind patch q. -/
def Qp.through (p q : Qp) : Qp × Bool := ({ p with path := (Pv.through p.bare q.bare).1.path, to_ := (Pv.through p.bare q.bare).1.to_ }, (Pv.through p.bare q.bare).2)
def Qp.free (a b c d : Qp) : Bool := Qm.xfree a.bare b.bare c.bare d.bare
def Qp.empty (a b c : Qp) : Bool := Qm.xempty b.kind a.kind a.path c.path
def Qp.moves (a b : Qp) : Bool := Qm.xmoves a.kind a.to_ b.kind b.path
def Qp.contents (a b c d : Qp) : Qp × Qp × Bool :=
  if Qm.adds a.kind = true ∨ Qm.adds b.kind = true ∨ Qm.eqB a.path c.path = false then (c, d, true)
  else if b.kind = 2 ∨ (a.kind = 8 ∧ b.kind = 8) then (c, d, false)
  else if a.kind = 6 ∧ b.kind = 6 then
    (if (a.bare.hunk.commute b.bare.hunk).2.2 then ({ c with at_ := (a.bare.hunk.commute b.bare.hunk).1.at_ }, { d with at_ := (a.bare.hunk.commute b.bare.hunk).2.1.at_ }, true) else (c, d, false))
  else if a.kind = 7 ∧ b.kind = 7 then ({ c with off := (a.bare.xbytes b.bare c.bare d.bare).1.off }, { d with off := (a.bare.xbytes b.bare c.bare d.bare).2.1.off }, (a.bare.xbytes b.bare c.bare d.bare).2.2)
  else if (a.kind = 6 ∨ a.kind = 7) ∧ (b.kind = 6 ∨ b.kind = 7) then (c, d, false)
  else (c, d, true)
/-- primcommute.run, the paths given. -/
def Qp.runOf (a b : Qp) (c d : Qp × Bool) : Qp × Qp × Bool :=
  if (c.2 && d.2) && (Qp.free a b c.1 d.1 && (Qp.empty a b c.1 && (Qp.moves a b && ((Qp.contents a b c.1 d.1).2.2 && (decide ((Qp.contents a b c.1 d.1).1.check = 0) && decide ((Qp.contents a b c.1 d.1).2.1.check = 0)))))) then ((Qp.contents a b c.1 d.1).1, (Qp.contents a b c.1 d.1).2.1, true) else (Qp.zero, Qp.zero, false)
/-- primcommute.run. -/
def Qp.run (a b : Qp) : Qp × Qp × Bool := Qp.runOf a b (Qp.through b a.inv) (Qp.through a (Qp.through b a.inv).1)
/-- primcommute.Commute. -/
def Qp.commute (a b : Qp) : Qp × Qp × Bool :=
  if a.check ≠ 0 ∨ b.check ≠ 0 then (Qp.zero, Qp.zero, false)
  else if (a.run b).2.2 = false then (Qp.zero, Qp.zero, false)
  else if ((a.run b).1.run (a.run b).2.1).2.2 && (((a.run b).1.run (a.run b).2.1).1.same a && ((a.run b).1.run (a.run b).2.1).2.1.same b) then ((a.run b).1, (a.run b).2.1, true)
  else (Qp.zero, Qp.zero, false)

end Go.Proofs.YtnjcifppkijanaaGreatDoor
namespace Go.Proofs.YtnjcifppkijanaaGreatDoor
open Go.RowKit

theorem size_of_empty {s : ByteArray} (h : s.toList.isEmpty = true) : s.size = 0 := by
  rw [ByteArray.toList_eq] at h
  have := List.isEmpty_iff.1 h
  have h2 : s.data.toList.length = 0 := by rw [this]; rfl
  exact h2
theorem content_size {k : Int} {s : ByteArray} (h : Qm.content k s = 0) : s.size ≤ 65536 := by
  unfold Qm.content at h
  split at h
  · cases h
  · omega
theorem whole_size {p : Pv} {m : Int} {s : ByteArray} (h : p.whole m s = 0) : s.size ≤ 65536 := by
  unfold Pv.whole at h
  split at h
  · cases h
  split at h
  · cases h
  exact content_size h
structure Qp.Small (q : Qp) : Prop where
  path : q.path.size ≤ 200
  to_ : q.to_.size ≤ 200
  off0 : 0 ≤ q.off
  off1 : q.off ≤ 65536
  so : q.so.size ≤ 65536
  sn : q.sn.size ≤ 65536
theorem Qp.bounds {q : Qp} (h : q.check = 0) : q.Small := by
  unfold Qp.check Pv.check at h
  cases hk : (q.pv none 0 none 0).known
  · rw [if_pos hk] at h; cases h
  rw [if_neg (by rw [hk]; exact Bool.noConfusion)] at h
  cases ht : (q.pv none 0 none 0).tidy
  · rw [if_pos ht] at h; cases h
  rw [if_neg (by rw [ht]; exact Bool.noConfusion)] at h
  cases hp : (q.pv none 0 none 0).pathsOk
  · rw [if_pos hp] at h; cases h
  rw [if_neg (by rw [hp]; exact Bool.noConfusion)] at h
  have hpath : Qm.isPath q.path = true := by
    unfold Pv.pathsOk at hp
    rw [Bool.and_eq_true] at hp
    exact hp.1
  have p1 : q.path.size ≤ 200 := by
    unfold Qm.isPath at hpath
    rw [Bool.and_eq_true, decide_eq_true_eq] at hpath
    exact hpath.1
  have hk2 : 1 ≤ q.kind ∧ q.kind ≤ 8 := by simpa [Pv.known] using hk
  unfold Pv.tidy Pv.strip at ht
  unfold Pv.actCheck at h
  by_cases k1 : q.kind = 1
  · rw [if_pos (by exact .inl k1)] at h
    unfold Pv.addCheck at h
    rw [if_neg (by show ¬ q.kind = 3; omega)] at h
    rw [if_pos (by exact k1)] at ht
    simp only [Pv.bare, Bool.and_eq_true, beq_iff_eq] at ht
    obtain ⟨⟨⟨⟨⟨⟨⟨⟨t1, t2⟩, t3⟩, t4⟩, t5⟩, t6⟩, t7⟩, t8⟩, t9⟩ := ht
    exact ⟨p1, by have := size_of_empty t1; omega, by omega, by omega, by have := size_of_empty t6; omega, whole_size h⟩
  by_cases k2 : q.kind = 2
  · rw [if_neg (by show ¬ (q.kind = 1 ∨ q.kind = 3); omega), if_pos (by exact .inl k2)] at h
    unfold Pv.remCheck at h
    rw [if_neg (by show ¬ q.kind = 4; omega)] at h
    rw [if_neg (by exact k1), if_pos (by exact k2)] at ht
    simp only [Pv.bare, Bool.and_eq_true, beq_iff_eq] at ht
    obtain ⟨⟨⟨⟨⟨⟨⟨⟨t1, t2⟩, t3⟩, t4⟩, t5⟩, t6⟩, t7⟩, t8⟩, t9⟩ := ht
    exact ⟨p1, by have := size_of_empty t1; omega, by omega, by omega, whole_size h, by have := size_of_empty t7; omega⟩
  by_cases k5 : q.kind = 5
  · rw [if_neg (by exact k1), if_neg (by exact k2), if_pos (by exact k5)] at ht
    simp only [Pv.bare, Bool.and_eq_true, beq_iff_eq] at ht
    obtain ⟨⟨⟨⟨⟨⟨⟨⟨t1, t2⟩, t3⟩, t4⟩, t5⟩, t6⟩, t7⟩, t8⟩, t9⟩ := ht
    have hto : Qm.isPath q.to_ = true := by
      unfold Pv.pathsOk at hp
      have e5 : ((q.pv none 0 none 0).kind == 5) = true := by simpa using k5
      rw [e5] at hp
      simpa [hpath] using hp
    have p2 : q.to_.size ≤ 200 := by
      unfold Qm.isPath at hto
      rw [Bool.and_eq_true, decide_eq_true_eq] at hto
      exact hto.1
    exact ⟨p1, p2, by omega, by omega, by have := size_of_empty t6; omega, by have := size_of_empty t7; omega⟩
  by_cases k6 : q.kind = 6
  · rw [if_neg (by exact k1), if_neg (by exact k2), if_neg (by exact k5), if_pos (by exact k6)] at ht
    simp only [Pv.bare, Bool.and_eq_true, beq_iff_eq] at ht
    obtain ⟨⟨⟨⟨⟨⟨⟨⟨t1, t2⟩, t3⟩, t4⟩, t5⟩, t6⟩, t7⟩, t8⟩, t9⟩ := ht
    exact ⟨p1, by have := size_of_empty t1; omega, by omega, by omega, by have := size_of_empty t6; omega, by have := size_of_empty t7; omega⟩
  by_cases k7 : q.kind = 7
  · rw [if_neg (by show ¬ (q.kind = 1 ∨ q.kind = 3); omega), if_neg (by show ¬ (q.kind = 2 ∨ q.kind = 4); omega), if_neg (by show ¬ q.kind = 5; omega)] at h
    unfold Pv.edCheck6 at h
    rw [if_neg (by exact k6)] at h
    unfold Pv.edCheck at h
    rw [if_pos (by exact k7)] at h
    rw [if_neg (by exact k1), if_neg (by exact k2), if_neg (by exact k5), if_neg (by exact k6), if_pos (by exact k7)] at ht
    simp only [Pv.bare, Bool.and_eq_true, beq_iff_eq] at ht
    obtain ⟨⟨⟨⟨⟨⟨⟨⟨t1, t2⟩, t3⟩, t4⟩, t5⟩, t6⟩, t7⟩, t8⟩, t9⟩ := ht
    dsimp only at h
    split at h
    · cases h
    split at h
    · cases h
    exact ⟨p1, by have := size_of_empty t1; omega, by omega, by omega, by omega, by omega⟩
  by_cases k8 : q.kind = 8
  · rw [if_neg (by exact k1), if_neg (by exact k2), if_neg (by exact k5), if_neg (by exact k6), if_neg (by exact k7), if_pos (by exact k8)] at ht
    simp only [Pv.bare, Bool.and_eq_true, beq_iff_eq] at ht
    obtain ⟨⟨⟨⟨⟨⟨⟨⟨t1, t2⟩, t3⟩, t4⟩, t5⟩, t6⟩, t7⟩, t8⟩, t9⟩ := ht
    exact ⟨p1, by have := size_of_empty t1; omega, by omega, by omega, by have := size_of_empty t6; omega, by have := size_of_empty t7; omega⟩
  · rw [if_neg (by exact k1), if_neg (by exact k2), if_neg (by exact k5), if_neg (by exact k6), if_neg (by exact k7), if_neg (by exact k8)] at ht
    simp only [Pv.bare, Bool.and_eq_true, beq_iff_eq] at ht
    obtain ⟨⟨⟨⟨⟨⟨⟨⟨t1, t2⟩, t3⟩, t4⟩, t5⟩, t6⟩, t7⟩, t8⟩, t9⟩ := ht
    exact ⟨p1, by have := size_of_empty t1; omega, by omega, by omega, by have := size_of_empty t6; omega, by have := size_of_empty t7; omega⟩
end Go.Proofs.YtnjcifppkijanaaGreatDoor
