/- Walks: the reference's parent of a path. -/
import Derived.Test.YtdbokolbheileaaGreatDoorE

set_option linter.unusedSimpArgs false
set_option linter.unusedVariables false
namespace Go.Proofs.YtdbokolbheileaaGreatDoor
open Go.RowKit

theorem byte_eqb (x c : UInt8) : ((x.toNat : Int) == (c.toNat : Int)) = decide (x = c) := by
  rw [Bool.eq_iff_iff, beq_iff_eq, decide_eq_true_eq]
  constructor
  · intro h
    exact UInt8.toNat_inj.1 (Int.ofNat.inj h)
  · rintro rfl
    rfl
theorem byte_slash (x : UInt8) : ((x.toNat : Int) == 47) = decide (x = 47) := byte_eqb x 47
/-- The parent of a path. -/
def Qm.parent (s : ByteArray) : ByteArray := if Lib.lastIndexByte s 47 < 0 then ⟨#[]⟩ else s.extract 0 (Lib.lastIndexByte s 47).toNat
theorem last_none {s : ByteArray} (h : ∀ j (hj : j < s.size), s[j] ≠ 47) : Lib.lastIndexByte s 47 < 0 := by
  rcases Lib.lastIndexByte_spec s 47 with ⟨h', _⟩ | ⟨i, hi, h', hc, _⟩
  · omega
  · exfalso
    rw [getElem!_pos s.data i hi] at hc
    exact h i hi (UInt8.toNat_inj.1 (Int.ofNat.inj (show ((s[i].toNat : Nat) : Int) = ((47 : UInt8).toNat : Nat) from hc)))
theorem last_some {s : ByteArray} {k : Nat} (hk : k < s.size) (e : s[k] = 47) (h : ∀ j (hj : j < s.size), k < j → s[j] ≠ 47) : Lib.lastIndexByte s 47 = k := by
  rcases Lib.lastIndexByte_spec s 47 with ⟨_, hn⟩ | ⟨i, hi, h', hc, hn⟩
  · exfalso
    refine hn k hk ?_
    rw [getElem!_pos s.data k hk]
    show ((s[k].toNat : Nat) : Int) = 47
    rw [e]
    rfl
  · rw [h']
    rw [getElem!_pos s.data i hi] at hc
    have hc' : s[i] = 47 := UInt8.toNat_inj.1 (Int.ofNat.inj (show ((s[i].toNat : Nat) : Int) = ((47 : UInt8).toNat : Nat) from hc))
    rcases Nat.lt_trichotomy i k with hlt | hlt | hlt
    · exfalso
      refine hn k hlt hk ?_
      rw [getElem!_pos s.data k hk]
      show ((s[k].toNat : Nat) : Int) = 47
      rw [e]
      rfl
    · rw [hlt]
    · exact absurd hc' (h i hi hlt)
set_option maxHeartbeats 2000000 in
theorem rparent_same (s : ByteArray) (w : World) (hs : s.size ≤ 4611686018427387904) :
    Calls Tryz.prog 56 #[.string s] w (Same (.string (Qm.parent s)) w) := by
  have HP : Hid (Qm.parent s = if Lib.lastIndexByte s 47 < 0 then ⟨#[]⟩ else s.extract 0 (Lib.lastIndexByte s 47).toNat) := Lib.hid rfl
  generalize Qm.parent s = R at HP ⊢
  go_enter Tryz.func56, Tryz.ntmps56
  have hx := Ext.refl w
  go_wp2
  go_loop [3] (fun i => ∃ k : Nat, k ≤ s.size ∧ i = .int .i64 ((k : Int) - 1) ∧ Hid (∀ j (hj : j < s.size), k ≤ j → s[j] ≠ 47)) (fun i => (intOf i + 1).toNat)
  case atStart => exact ⟨s.size, Nat.le_refl _, rfl, Lib.hid (fun j hj h => absurd hj (by omega))⟩
  case round =>
    obtain ⟨k, hk, rfl, HA⟩ := hrel
    by_cases hz : k = 0
    · subst hz
      have HR : Hid (R = ⟨#[]⟩) := Lib.hid (by rw [HP.out, if_pos (last_none fun j hj => HA.out j hj (Nat.zero_le _))])
      clear HP HA
      go_wp2
      go_ret
      exact Same.mk (by rw [HR.out]; rfl)
    · obtain ⟨k, rfl⟩ : ∃ k', k = k' + 1 := ⟨k - 1, by omega⟩
      have hkk : ((k + 1 : Nat) : Int) - 1 = k := by omega
      rw [hkk]
      have hlt : k < s.size := by omega
      clear hz hkk
      go_wp2
      · rename_i hc _
        have hc' : s[k] = 47 := by rw [byte_slash] at hc; exact of_decide_eq_true hc
        have HR : Hid (R = s.extract 0 k) := Lib.hid (by
          have h0 := last_some hlt hc' (fun j hj h => HA.out j hj (by omega))
          rw [HP.out, h0, if_neg (by omega), Int.toNat_natCast])
        go_ret
        exact Same.mk (by rw [HR.out]; rfl)
      · rename_i hc
        have hc' : s[k] ≠ 47 := by rw [byte_slash] at hc; exact of_decide_eq_false hc
        refine ⟨⟨k, by omega, rfl, Lib.hid fun j hj h => ?_⟩, by simp [intOf]⟩
        rcases Nat.eq_or_lt_of_le h with e | e
        · subst e
          exact hc'
        · exact HA.out j hj e
theorem rparent_any (s : ByteArray) (w : World) (hs : s.size ≤ 4611686018427387904) :
    Calls Tryz.prog 56 #[.string s] w (Ret (.string (Qm.parent s)) w) :=
  (rparent_same s w hs).mono fun _ _ h => ⟨h.1, by rw [h.2]; exact Ext.refl _⟩
end Go.Proofs.YtdbokolbheileaaGreatDoor
