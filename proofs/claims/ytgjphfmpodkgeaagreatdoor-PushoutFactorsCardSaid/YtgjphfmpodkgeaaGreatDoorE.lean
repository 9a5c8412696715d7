/- Walks: names, paths, lines. -/
import Derived.Test.YtgjphfmpodkgeaaGreatDoorBase
import Derived.Test.YtgjphfmpodkgeaaGreatDoorShelf
set_option linter.unusedSimpArgs false
set_option linter.unusedVariables false
namespace Go.Proofs.YtgjphfmpodkgeaaGreatDoor
open Go.RowKit

set_option maxHeartbeats 400000 in
theorem pbelow_any (s t : ByteArray) (w : World) (ht : t.size ≤ 4611686018427387904) :
    Calls Tryz.prog 146 #[.string s, .string t] w (Ret (.bool (Qm.below s t)) w) := by
  go_enter Tryz.func146, Tryz.ntmps146
  go_wp2_with (go_at_call 87; refine (Tryz.strings_HasPrefix _ _ _).mono ?_; rintro e w1 ⟨rfl, rfl⟩)
  go_ret
  exact Ret.mk rfl (Ext.refl _)

set_option maxHeartbeats 400000 in
theorem lvalid_any (s : ByteArray) (w : World) :
    Calls Tryz.prog 153 #[.string s] w (Ret (.bool (Qm.validLine s)) w) := by
  go_enter Tryz.func153, Tryz.ntmps153
  have hx := Ext.refl w
  go_wp2_with (go_at_call 135; refine (Tryz.strings_IndexByte _ _ _).mono ?_; rintro e w1 ⟨rfl, rfl⟩)
  all_goals (go_ret; refine Ret.mk ?_ ?_; (focus (first | (simp [Qm.validLine, *]; done) | (simp [Qm.validLine, *]; omega); done)); (focus ((repeat (first | with_reducible exact hx | with_reducible exact Ext.refl _ | with_reducible refine Ext.alloc ?_ _ | with_reducible refine Ext.drewN ?_ _ | with_reducible refine Ext.drew1 ?_ | ((with_reducible refine Ext.setCell ?_ ?_ _); rotate_left; (focus (first | (dsimp only; omega) | (simp; done) | (simp; omega)))))); done)))

/-- The call returns v and leaves the world alone. -/
def Same (v : Value) (w : World) (e : Ending) (w' : World) : Prop := e = .returned v ∧ w' = w
theorem Same.mk {v v' : Value} {w : World} (h : v' = v) : Same v w (.returned v') w := ⟨by rw [h], rfl⟩

set_option maxHeartbeats 2000000 in
theorem isName_same (s : ByteArray) (w : World) (hs : s.size ≤ 4611686018427387904) :
    Calls Tryz.prog 74 #[.string s] w (Same (.bool (Qm.isName s)) w) := by
  go_enter Tryz.func74, Tryz.ntmps74
  have hx := Ext.refl w
  go_wp2
  go_loop [7] (fun i => ∃ k : Nat, k ≤ s.size ∧ i = .int .i64 k ∧ (s.data.toList.take k).all Qm.nameChar = true) (fun i => s.size - (intOf i).toNat)
  case atStart => exact ⟨0, Nat.zero_le _, rfl, rfl⟩
  case round =>
    obtain ⟨k, hk, rfl, hall⟩ := hrel
    have Hall := Lib.hid hall
    clear hall
    by_cases hlt : k < s.size
    · go_wp2
      all_goals (try simp only [bne_iff_ne, bne_eq_false_iff_eq, ne_eq] at *)
      all_goals cases hch : Qm.nameChar s[k]
      all_goals first
        | (exfalso; simp [Qm.nameChar] at hch; omega)
        | (go_ret; refine Same.mk ?_; rw [Qm.not_all s k hlt hch]; exact rfl)
        | (refine ⟨⟨k + 1, hlt, rfl, Qm.all_snoc s k hlt Hall.out hch⟩, ?_⟩; simp [intOf]; omega)
    · obtain rfl : k = s.size := by omega
      have hall : s.data.toList.all Qm.nameChar = true := by have h0 := Hall.out; rwa [List.take_of_length_le (by simp)] at h0
      have Hall2 := Lib.hid hall
      clear hall
      go_wp2
      all_goals (go_ret; refine Same.mk ?_; refine congrArg Value.bool ?_; first | (simp [Qm.isName, Hall2.out, *]; done) | (simp [Qm.isName, Hall2.out, *]; omega) | (simp only [Qm.isName, Hall2.out, Bool.true_and, show decide (s.size ≤ 40) = true from decide_eq_true (by omega), Bool.and_true]; first | done | exact rfl | simp [*]))

theorem isName_any (s : ByteArray) (w : World) (hs : s.size ≤ 4611686018427387904) :
    Calls Tryz.prog 74 #[.string s] w (Ret (.bool (Qm.isName s)) w) :=
  (isName_same s w hs).mono fun _ _ h => ⟨h.1, by rw [h.2]; exact Ext.refl _⟩
end Go.Proofs.YtgjphfmpodkgeaaGreatDoor
