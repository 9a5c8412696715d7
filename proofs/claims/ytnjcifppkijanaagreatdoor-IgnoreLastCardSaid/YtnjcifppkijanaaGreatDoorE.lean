/- Walks: names, paths, lines. Walks: isPath. -/
import Derived.Test.YtnjcifppkijanaaGreatDoorBase
import Derived.Test.YtnjcifppkijanaaGreatDoorShelf
import Derived.Lib.SplitLaws
import Derived.Lib.CutLaws
set_option linter.unusedSimpArgs false
set_option linter.unusedVariables false
namespace Go.Proofs.YtnjcifppkijanaaGreatDoor
open Go.RowKit

set_option maxHeartbeats 400000 in
theorem pbelow_any (s t : ByteArray) (w : World) (ht : t.size ≤ 4611686018427387904) :
    Calls Tryz.prog 208 #[.string s, .string t] w (Ret (.bool (Qm.below s t)) w) := by
  go_enter Tryz.func208, Tryz.ntmps208
  go_wp2_with (go_at_call 71; refine (Tryz.strings_HasPrefix _ _ _).mono ?_; rintro e w1 ⟨rfl, rfl⟩)
  go_ret
  exact Ret.mk rfl (Ext.refl _)

/-- The call returns v and leaves the world alone. -/
def Same (v : Value) (w : World) (e : Ending) (w' : World) : Prop := e = .returned v ∧ w' = w
theorem Same.mk {v v' : Value} {w : World} (h : v' = v) : Same v w (.returned v') w := ⟨by rw [h], rfl⟩

set_option maxHeartbeats 2000000 in
theorem isName_same (s : ByteArray) (w : World) (hs : s.size ≤ 4611686018427387904) :
    Calls Tryz.prog 108 #[.string s] w (Same (.bool (Qm.isName s)) w) := by
  go_enter Tryz.func108, Tryz.ntmps108
  have hx := Ext.refl w
  go_wp2
  go_loop [7] (fun i => ∃ k : Nat, k ≤ s.size ∧ i = .int .i64 k ∧ (s.data.toList.take k).all Qm.nameChar = true) (fun i => s.size - (intOf i).toNat)
  case atStart => exact ⟨0, Nat.zero_le _, rfl, rfl⟩
  case round =>
    obtain ⟨k, hk, rfl, hall⟩ := hrel
    have Hall := Lib.hid hall
    clear hall
    by_cases hlt : k < s.size
    · go_wp2
      all_goals (try simp only [bne_iff_ne, bne_eq_false_iff_eq, ne_eq] at *)
      all_goals cases hch : Qm.nameChar s[k]
      all_goals first
        | (exfalso; simp [Qm.nameChar] at hch; omega)
        | (go_ret; refine Same.mk ?_; rw [Qm.not_all s k hlt hch]; exact rfl)
        | (refine ⟨⟨k + 1, hlt, rfl, Qm.all_snoc s k hlt Hall.out hch⟩, ?_⟩; simp [intOf]; omega)
    · obtain rfl : k = s.size := by omega
      have hall : s.data.toList.all Qm.nameChar = true := by have h0 := Hall.out; rwa [List.take_of_length_le (by simp)] at h0
      have Hall2 := Lib.hid hall
      clear hall
      go_wp2
      all_goals (go_ret; refine Same.mk ?_; refine congrArg Value.bool ?_; first | (simp [Qm.isName, Hall2.out, *]; done) | (simp [Qm.isName, Hall2.out, *]; omega) | (simp only [Qm.isName, Hall2.out, Bool.true_and, show decide (s.size ≤ 40) = true from decide_eq_true (by omega), Bool.and_true]; first | done | exact rfl | simp [*]))

theorem isName_any (s : ByteArray) (w : World) (hs : s.size ≤ 4611686018427387904) :
    Calls Tryz.prog 108 #[.string s] w (Ret (.bool (Qm.isName s)) w) :=
  (isName_same s w hs).mono fun _ _ h => ⟨h.1, by rw [h.2]; exact Ext.refl _⟩
end Go.Proofs.YtnjcifppkijanaaGreatDoor
namespace Go.Proofs.YtnjcifppkijanaaGreatDoor
open Go.RowKit

theorem pieces_small (sep : ByteArray) (hs : 1 ≤ sep.size) : ∀ (k : Nat) (s : ByteArray), ∀ x ∈ Lib.splitB sep 0 k s, x.size ≤ s.size
  | 0, s, x, hx => by
    rw [Lib.splitB_zero] at hx
    simp at hx
    rw [hx]
    exact Nat.le_refl _
  | k + 1, s, x, hx => by
    rcases Lib.indexB_cases s sep with h | ⟨i, h, hr⟩
    · rw [Lib.splitB_miss _ _ _ _ h] at hx
      simp at hx
      rw [hx]
      exact Nat.le_refl _
    · rw [Lib.splitB_hit _ _ _ _ i h] at hx
      rcases List.mem_cons.1 hx with rfl | hx
      · simp [ByteArray.size_extract]; omega
      · have h1 := pieces_small sep hs k _ x hx
        simp [ByteArray.size_extract] at h1
        omega

/-- The pieces of a path. -/
def pieces (s : ByteArray) : List ByteArray := Lib.splitB ⟨#[47]⟩ 0 (Lib.countB s ⟨#[47]⟩) s
theorem isPath_pieces (s : ByteArray) : Qm.isPath s = (decide (s.size ≤ 200) && (pieces s).all Qm.isName) := rfl

theorem split_path (s : ByteArray) (w : World) (hs : s.size ≤ 200) (hg : Glob w) :
    Calls Tryz.prog 91 #[.string s, .string ⟨#[47]⟩] w (fun e w' => ∃ n : Nat, n = (pieces s).length ∧ n ≤ 201 ∧ e = .returned (.slice (some ⟨w.heap.size, 0, none⟩) n n) ∧ Ext w w' ∧
      ∀ j, j < n → w'.cell? ⟨w.heap.size, j, none⟩ = some (.string ((pieces s).getD j ByteArray.empty))) := by
  obtain ⟨m, hm⟩ := hg
  refine (Tryz.strings_Split s ⟨#[47]⟩ m w (by omega) hm (by decide)).mono ?_
  rintro e w' ⟨rfl, rfl⟩
  have h1 := Lib.splitB_all ⟨#[47]⟩ (by decide) 0 (Lib.countB s ⟨#[47]⟩) s rfl
  have h2 := Lib.countB_le ⟨#[47]⟩ (by decide) s.size s (Nat.le_refl _)
  refine ⟨Lib.countB s ⟨#[47]⟩ + 1, h1.symm, by omega, rfl, (Ext.refl w).alloc _, fun j hj => ?_⟩
  rw [World.cell?_alloc_at _ _ _ _ rfl]
  rw [← h1] at hj
  simp [pieces, List.getD, List.getElem?_eq_getElem hj]

set_option maxHeartbeats 2000000 in
theorem isPath_any (s : ByteArray) (w : World) (hg : Glob w) :
    Calls Tryz.prog 80 #[.string s] w (Ret (.bool (Qm.isPath s)) w) := by
  by_cases hs : 200 < s.size
  · have hv : Qm.isPath s = false := by rw [isPath_pieces, decide_eq_false (by omega)]; rfl
    rw [hv]
    clear hv
    go_enter Tryz.func80, Tryz.ntmps80
    have hx := Ext.refl w
    go_wp2
    (go_ret; refine Ret.mk ?_ ?_; (focus (rfl; done)); (focus (exact EX; done)))
  have hs2 : s.size ≤ 200 := by omega
  clear hs
  go_enter Tryz.func80, Tryz.ntmps80
  have hx := Ext.refl w
  go_wp2_with (go_at_call 91; refine (split_path _ _ (by omega) hg).mono ?_; rintro e w1 ⟨n, hn, hn2, rfl, hx1, hcl⟩; replace hx := hx1)
  clear hg
  go_loop [11] (fun i => ∃ k : Nat, k ≤ n ∧ i = .int .i64 k ∧ ((pieces s).take k).all Qm.isName = true) (fun i => n - (intOf i).toNat)
  case atStart => exact ⟨0, Nat.zero_le _, rfl, rfl⟩
  case round =>
    obtain ⟨k, hk, rfl, hall⟩ := hrel
    have Hall := Lib.hid hall
    clear hall
    by_cases hlt : k < n
    · have hck := hcl k hlt
      have hlt2 : k < (pieces s).length := by omega
      have hsm : ((pieces s).getD k ByteArray.empty).size ≤ s.size := by
        rw [List.getD, List.getElem?_eq_getElem hlt2]
        exact pieces_small _ (by decide) _ _ _ (List.getElem_mem hlt2)
      have e1 : (pieces s)[k]? = some ((pieces s).getD k ByteArray.empty) := by simp [List.getD, List.getElem?_eq_getElem hlt2]
      generalize (pieces s).getD k ByteArray.empty = x at hck hsm e1
      have HE := Lib.hid e1
      clear e1 hcl
      go_wp2_with (go_at_call 108; refine (isName_same _ _ (by omega)).mono ?_; rintro e w2 ⟨rfl, rfl⟩)
      all_goals rename_i hnm
      · have hnm2 : Qm.isName x = false := by simpa using hnm
        have hall : (pieces s).all Qm.isName = false := by
          rw [List.all_eq_false]
          refine ⟨x, List.mem_of_getElem? HE.out, ?_⟩
          rw [hnm2]
          exact Bool.false_ne_true
        have hv : Qm.isPath s = false := by rw [isPath_pieces, hall, Bool.and_false]
        (go_ret; refine Ret.mk ?_ ?_; (focus (rw [hv]; exact rfl; done)); (focus (exact EX; done)))
      · have hnm2 : Qm.isName x = true := by simpa using hnm
        refine ⟨⟨k + 1, hlt, rfl, ?_⟩, ?_⟩
        · rw [List.take_add_one, HE.out, List.all_append, Hall.out]
          simp [hnm2]
        · simp [intOf]
          omega
    · obtain rfl : k = n := by omega
      have hall : (pieces s).all Qm.isName = true := by have h0 := Hall.out; rwa [List.take_of_length_le (by omega)] at h0
      have hv : Qm.isPath s = true := by rw [isPath_pieces, decide_eq_true hs2, hall]; rfl
      clear hcl hall
      have HV := Lib.hid hv
      clear hv
      go_wp2
      all_goals (go_ret; refine Ret.mk ?_ ?_; (focus (rw [HV.out]; exact rfl; done)); (focus (exact EX; done)))
end Go.Proofs.YtnjcifppkijanaaGreatDoor
