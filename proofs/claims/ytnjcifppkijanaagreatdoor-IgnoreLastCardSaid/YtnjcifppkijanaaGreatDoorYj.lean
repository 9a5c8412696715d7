/- Walks: the reference's names and paths. Walks: the reference's paths. Walks: the reference's smaller tests. Walks: the reference's lines. Walks: the reference's texts. Walks: the reference's contents and hunks. Walks: the reference's check of a patch. Walks: the reference's touched paths; whether two lists have nothing in common. -/
import Derived.Test.YtnjcifppkijanaaGreatDoorPc
import Derived.Test.YtnjcifppkijanaaGreatDoorE
import Derived.Lib.IndexBytes
import Derived.Lib.IndexLaws
import Derived.Test.YtnjcifppkijanaaGreatDoorH
import Derived.Test.YtnjcifppkijanaaGreatDoorJ
import Derived.Test.YtnjcifppkijanaaGreatDoorModel
import Derived.Test.YtnjcifppkijanaaGreatDoorW
import Derived.Test.YtnjcifppkijanaaGreatDoorHeld
set_option linter.unusedSimpArgs false
set_option linter.unusedVariables false
namespace Go.Proofs.YtnjcifppkijanaaGreatDoor
open Go.RowKit

theorem Qm.size_zero {s : ByteArray} (h : s.toList.isEmpty = true) : s.size = 0 := by
  rw [ByteArray.toList_eq] at h
  have := List.isEmpty_iff.1 h
  have h2 : s.data.toList.length = 0 := by rw [this]; rfl
  exact h2

set_option maxHeartbeats 4000000 in
theorem rname_same (s : ByteArray) (w : World) (hs : s.size ≤ 4611686018427387904) :
    Calls Tryz.prog 53 #[.string s] w (Same (.bool (Qm.isName s)) w) := by
  go_enter Tryz.func53, Tryz.ntmps53
  have hx := Ext.refl w
  go_wp2
  go_loop [3] (fun i => ∃ k : Nat, k ≤ s.size ∧ i = .int .i64 k ∧ (s.data.toList.take k).all Qm.nameChar = true) (fun i => s.size - (intOf i).toNat)
  case atStart => exact ⟨0, Nat.zero_le _, rfl, rfl⟩
  case round =>
    obtain ⟨k, hk, rfl, hall⟩ := hrel
    have Hall := Lib.hid hall
    clear hall
    by_cases hlt : k < s.size
    · cases hch : Qm.nameChar s[k]
      all_goals
        go_wp2
        all_goals first
          | (exfalso; simp [Qm.nameChar] at hch; omega)
          | (go_ret; refine Same.mk ?_; rw [Qm.not_all s k hlt hch]; exact rfl)
          | (refine ⟨⟨k + 1, hlt, rfl, Qm.all_snoc s k hlt Hall.out hch⟩, ?_⟩; simp [intOf]; omega)
          | (exfalso; simp [Qm.nameChar] at hch; simp only [Bool.not_eq_eq_eq_not, Bool.not_false, Bool.not_true, decide_eq_true_eq, decide_eq_false_iff_not, beq_iff_eq, bne_iff_ne, ne_eq, Bool.or_eq_true, Bool.and_eq_true, beq_eq_false_iff_ne] at *; omega)
    · obtain rfl : k = s.size := by omega
      have hall : s.data.toList.all Qm.nameChar = true := by have h0 := Hall.out; rwa [List.take_of_length_le (by simp)] at h0
      have Hall2 := Lib.hid hall
      clear hall
      go_wp2
      all_goals (go_ret; refine Same.mk ?_; refine congrArg Value.bool ?_)
      all_goals
        have hE : s.size < 1 → s.toList = [] := fun h => by rw [ByteArray.toList_eq]; exact List.length_eq_zero_iff.1 (by have : s.data.toList.length = s.size := rfl; omega)
        have hF : 1 ≤ s.size → s.toList.isEmpty = false := fun h => by
          cases e : s.toList.isEmpty
          · rfl
          · have := Qm.size_zero e; omega
        first
          | (have e1 := hE (by omega); simp [Qm.isName, Hall2.out, e1]; done)
          | (have e2 := hF (by omega); have e3 : decide (s.size ≤ 40) = true := decide_eq_true (by omega); simp [Qm.isName, Hall2.out, e2, e3, *]; done)
          | (have e2 := hF (by omega); have e3 : decide (s.size ≤ 40) = false := decide_eq_false (by omega); simp [Qm.isName, Hall2.out, e2, e3, *]; done)
end Go.Proofs.YtnjcifppkijanaaGreatDoor
namespace Go.Proofs.YtnjcifppkijanaaGreatDoor
open Go.RowKit

set_option maxHeartbeats 4000000 in
theorem rpath_same (s : ByteArray) (w : World) :
    Calls Tryz.prog 22 #[.string s] w (Same (.bool (Qm.isPath s)) w) := by
  by_cases hs : 200 < s.size
  · have hv : Qm.isPath s = false := by rw [isPath_pieces, decide_eq_false (by omega)]; rfl
    rw [hv]
    clear hv
    go_enter Tryz.func22, Tryz.ntmps22
    have hx := Ext.refl w
    go_wp2
    go_ret
    exact Same.mk rfl
  have hs2 : s.size ≤ 200 := by omega
  have hv : Qm.isPath s = (pieces s).all Qm.isName := by rw [isPath_pieces, decide_eq_true (by omega)]; rfl
  rw [hv]
  clear hs hv
  go_enter Tryz.func22, Tryz.ntmps22
  have hx := Ext.refl w
  go_wp2
  go_loop [3, 4] (fun f i => ∃ a k : Nat, f = .int .i64 a ∧ i = .int .i64 k ∧ ((a ≤ k ∧ k ≤ s.size ∧ (pieces s).all Qm.isName = (pieces (s.extract a s.size)).all Qm.isName ∧ ∀ j, a ≤ j → j < k → s.data.toList[j]? ≠ some 47) ∨ (k = s.size + 1 ∧ (pieces s).all Qm.isName = true))) (fun f i => s.size + 1 - (intOf i).toNat)
  case atStart => exact ⟨0, 0, rfl, rfl, .inl ⟨Nat.le_refl _, Nat.zero_le _, by rw [ByteArray.extract_zero_size], fun j h1 h2 => by omega⟩⟩
  case round =>
    obtain ⟨a, k, rfl, rfl, hr⟩ := hrel
    have HR := Lib.hid hr
    clear hr
    by_cases hend : k = s.size + 1
    · subst hend
      have hall : (pieces s).all Qm.isName = true := by
        rcases HR.out with ⟨_, h, _⟩ | ⟨_, h⟩
        · omega
        · exact h
      rw [hall]
      go_wp2
      go_ret
      exact Same.mk rfl
    have hr : a ≤ k ∧ k ≤ s.size ∧ (pieces s).all Qm.isName = (pieces (s.extract a s.size)).all Qm.isName ∧ ∀ j, a ≤ j → j < k → s.data.toList[j]? ≠ some 47 := by
      rcases HR.out with h | ⟨h, _⟩
      · exact h
      · exact (hend h).elim
    obtain ⟨hak, hks, hall, hno⟩ := hr
    have Hall := Lib.hid hall
    have Hno := Lib.hid hno
    clear hall hno HR
    have hsz : (s.extract a k).size ≤ 4611686018427387904 := by rw [ByteArray.size_extract]; omega
    by_cases hlt : k < s.size
    · by_cases h47 : s[k].toNat = 47
      · cases hn : Qm.isName (s.extract a k)
        all_goals
          have Hn := Lib.hid hn
          clear hn
          go_wp2_with fail
          refine (rname_same _ _ hsz).mono ?_
          rintro e w1 ⟨rfl, rfl⟩
          rw [Hn.out]
          go_wp2_with fail
        · go_ret
          exact Same.mk (by rw [Hall.out, pall_hit hak hlt h47 Hno.out, Hn.out]; rfl)
        · refine ⟨⟨k + 1, k + 1, rfl, rfl, .inl ⟨Nat.le_refl _, hlt, ?_, fun j h1 h2 => by omega⟩⟩, ?_⟩
          · rw [Hall.out, pall_hit hak hlt h47 Hno.out, Hn.out]; rfl
          · simp [intOf]; omega
      · go_wp2_with fail
        refine ⟨⟨a, k + 1, rfl, rfl, .inl ⟨by omega, hlt, Hall.out, fun j h1 h2 => ?_⟩⟩, ?_⟩
        · rcases Nat.lt_or_ge j k with h | h
          · exact Hno.out j h1 h
          · obtain rfl : j = k := by omega
            rw [byte_at hlt]
            intro e
            exact h47 (by rw [Option.some.inj e]; rfl)
        · simp [intOf]; omega
    · obtain rfl : k = s.size := by omega
      cases hn : Qm.isName (s.extract a s.size)
      all_goals
        have Hn := Lib.hid hn
        clear hn
        go_wp2_with fail
        refine (rname_same _ _ hsz).mono ?_
        rintro e w1 ⟨rfl, rfl⟩
        rw [Hn.out]
        go_wp2_with fail
      · go_ret
        exact Same.mk (by rw [Hall.out, pall_miss Hno.out, Hn.out]; rfl)
      · refine ⟨⟨s.size + 1, s.size + 1, rfl, rfl, .inr ⟨rfl, ?_⟩⟩, ?_⟩
        · rw [Hall.out, pall_miss Hno.out, Hn.out]
        · simp [intOf]
end Go.Proofs.YtnjcifppkijanaaGreatDoor
namespace Go.Proofs.YtnjcifppkijanaaGreatDoor
open Go.RowKit

theorem below_parts {s t : ByteArray} (h : t.size < s.size) : Qm.below s t = ((s.extract 0 t.size).toList == t.toList && ((s[t.size].toNat : Int) == 47)) := by
  unfold Qm.below Lib.hasPrefix
  rw [Bool.eq_iff_iff, List.isPrefixOf_iff_prefix, Bool.and_eq_true, beq_iff_eq, beq_iff_eq, ByteArray.toList_eq, ByteArray.toList_eq, Lib.extract_from_zero]
  have hl : t.data.toList.length = t.size := rfl
  have hb : s.data.toList[t.size]? = some s[t.size] := byte_at h
  constructor
  · rintro ⟨x, hx⟩
    rw [← hx]
    refine ⟨by rw [List.append_assoc, ← hl, List.take_left], ?_⟩
    rw [← hx, List.append_assoc, List.getElem?_append_right (by omega), hl, Nat.sub_self] at hb
    have : (47 : UInt8) = s[t.size] := by simpa using hb
    rw [← this]; rfl
  · rintro ⟨h1, h2⟩
    refine ⟨s.data.toList.drop (t.size + 1), ?_⟩
    have hc : s[t.size] = 47 := UInt8.toNat_inj.1 (by have : s[t.size].toNat = 47 := by omega
                                                      rw [this]; rfl)
    rw [hc] at hb
    have hlt : t.size < s.data.toList.length := h
    rw [List.getElem?_eq_getElem hlt] at hb
    have hd : s.data.toList.drop t.size = 47 :: s.data.toList.drop (t.size + 1) := by rw [List.drop_eq_getElem_cons hlt, Option.some.inj hb]
    rw [← h1, List.append_assoc]
    show _ ++ 47 :: List.drop (t.size + 1) s.data.toList = _
    rw [← hd, List.take_append_drop]
theorem below_short {s t : ByteArray} (h : ¬ t.size < s.size) : Qm.below s t = false := by
  cases e : Qm.below s t
  · rfl
  · exact (h (Qm.size_of_below e)).elim

set_option maxHeartbeats 1000000 in
theorem rbelow_same (s t : ByteArray) (w : World) (hs : s.size ≤ 4611686018427387904) :
    Calls Tryz.prog 56 #[.string s, .string t] w (Same (.bool (Qm.below s t)) w) := by
  by_cases h : t.size < s.size
  · rw [below_parts h]
    go_enter Tryz.func56, Tryz.ntmps56
    have hx := Ext.refl w
    go_wp2
    all_goals (go_ret; refine Same.mk ?_; refine congrArg Value.bool ?_; simp [*])
  · rw [below_short h]
    go_enter Tryz.func56, Tryz.ntmps56
    have hx := Ext.refl w
    go_wp2
    all_goals (go_ret; refine Same.mk ?_; first | rfl | simp [*])
end Go.Proofs.YtnjcifppkijanaaGreatDoor
namespace Go.Proofs.YtnjcifppkijanaaGreatDoor
open Go.RowKit

/-- Neither of two bytes stands in the list. -/
def cleanB (l : List UInt8) (a b : Int) : Bool := l.all fun c => !(((c.toNat : Int) == a) || ((c.toNat : Int) == b))
theorem take_one {s : ByteArray} {k : Nat} (h : k < s.size) : s.data.toList.take (k + 1) = s.data.toList.take k ++ [s[k]] := Qm.take_snoc s k h
theorem clean_hit {s : ByteArray} {k : Nat} {a b : Int} (h : k < s.size) (hc : (((s[k].toNat : Int) == a) || ((s[k].toNat : Int) == b)) = true) : cleanB s.data.toList a b = false := by
  unfold cleanB
  rw [List.all_eq_false]
  refine ⟨s[k], ?_, by simp [hc]⟩
  exact List.mem_of_getElem? (byte_at h)
set_option maxHeartbeats 1000000 in
theorem rclean_same (s : ByteArray) (a b : Int) (w : World) (hs : s.size ≤ 4611686018427387904) :
    Calls Tryz.prog 160 #[.string s, .int .u8 a, .int .u8 b] w (Same (.bool (cleanB s.data.toList a b)) w) := by
  go_enter Tryz.func160, Tryz.ntmps160
  have hx := Ext.refl w
  go_wp2
  go_loop [7] (fun i => ∃ k : Nat, k ≤ s.size ∧ i = .int .i64 k ∧ cleanB (s.data.toList.take k) a b = true) (fun i => s.size - (intOf i).toNat)
  case atStart => exact ⟨0, Nat.zero_le _, rfl, rfl⟩
  case round =>
    obtain ⟨k, hk, rfl, hall⟩ := hrel
    have Hall := Lib.hid hall
    clear hall
    by_cases hlt : k < s.size
    · cases hch : (((s[k].toNat : Int) == a) || ((s[k].toNat : Int) == b))
      · have hch2 := hch
        simp only [Bool.or_eq_false_iff] at hch2
        obtain ⟨c1, c2⟩ := hch2
        go_wp2
        refine ⟨⟨k + 1, hlt, rfl, ?_⟩, ?_⟩
        · have := Hall.out
          unfold cleanB at this ⊢
          rw [take_one hlt, List.all_append, this]
          simp [c1, c2]
        · simp [intOf]; omega
      · have hf := clean_hit hlt hch
        rw [hf]
        cases c1 : ((s[k].toNat : Int) == a)
        · have c2 : ((s[k].toNat : Int) == b) = true := by rw [c1, Bool.false_or] at hch; exact hch
          go_wp2
          all_goals (go_ret; exact Same.mk rfl)
        · go_wp2
          all_goals (go_ret; exact Same.mk rfl)
    · obtain rfl : k = s.size := by omega
      have hall : cleanB s.data.toList a b = true := by have h0 := Hall.out; rwa [List.take_of_length_le (by simp)] at h0
      rw [hall]
      go_wp2
      all_goals (go_ret; exact Same.mk rfl)

theorem idx_neg {l : List UInt8} {c : UInt8} : Lib.indexByte l c < 0 ↔ c ∉ l := by
  have h0 := Lib.indexByte_ge l c
  constructor
  · intro h hm
    have hm1 : Lib.indexByte l c = -1 := by omega
    obtain ⟨k, hk, hx⟩ := List.mem_iff_getElem.1 hm
    exact Lib.indexByte_none hm1 k (by rw [List.getElem?_eq_getElem hk, hx])
  · intro h
    by_cases hm : Lib.indexByte l c = -1
    · omega
    · obtain ⟨o, ho⟩ : ∃ o : Nat, Lib.indexByte l c = o := ⟨(Lib.indexByte l c).toNat, by omega⟩
      exact (h (List.mem_of_getElem? (Lib.indexByte_some ho).1)).elim
theorem toNat_int_eq {x c : UInt8} : ((x.toNat : Int) == (c.toNat : Int)) = true ↔ x = c := by
  rw [beq_iff_eq]
  constructor
  · intro h
    exact UInt8.toNat_inj.1 (by omega)
  · rintro rfl; rfl
theorem cleanB_iff {l : List UInt8} {a b : UInt8} : cleanB l a.toNat b.toNat = true ↔ a ∉ l ∧ b ∉ l := by
  unfold cleanB
  rw [List.all_eq_true]
  constructor
  · intro h
    refine ⟨fun hm => ?_, fun hm => ?_⟩
    · have := h a hm; simp at this
    · have := h b hm; simp at this
  · rintro ⟨h1, h2⟩ x hx
    have e1 : ((x.toNat : Int) == (a.toNat : Int)) = false := by
      cases e : ((x.toNat : Int) == (a.toNat : Int))
      · rfl
      · exact (h1 (toNat_int_eq.1 e ▸ hx)).elim
    have e2 : ((x.toNat : Int) == (b.toNat : Int)) = false := by
      cases e : ((x.toNat : Int) == (b.toNat : Int))
      · rfl
      · exact (h2 (toNat_int_eq.1 e ▸ hx)).elim
    rw [e1, e2]; rfl
end Go.Proofs.YtnjcifppkijanaaGreatDoor
namespace Go.Proofs.YtnjcifppkijanaaGreatDoor
open Go.RowKit

theorem lines_hit {s : ByteArray} {a k : Nat} (hak : a ≤ k) (hk : k < s.size) (h10 : s[k].toNat = 10) (hno : ∀ j, a ≤ j → j < k → s.data.toList[j]? ≠ some 10) :
    Qm.linesOf (s.extract a s.size) = s.extract a k :: Qm.linesOf (s.extract (k + 1) s.size) := by
  have hb : s[k] = 10 := UInt8.toNat_inj.1 h10
  have hi : Lib.indexByte (s.extract a s.size).data.toList 10 = (k - a : Nat) := by
    rw [Lib.extract_to_end]
    refine indexByte_is ?_ fun j hj => ?_
    · rw [List.getElem?_drop, show a + (k - a) = k by omega, byte_at hk, hb]
    · rw [List.getElem?_drop]
      exact hno _ (by omega) (by omega)
  rw [Qm.linesOf_some hi, extract_extract_zero _ _ _ _ (by omega) (Nat.le_refl _), extract_extract_end _ _ _ (by omega), show a + (k - a) = k by omega, show a + (k - a + 1) = k + 1 by omega]
theorem lines_miss {s : ByteArray} {a : Nat} (hno : ∀ j, a ≤ j → j < s.size → s.data.toList[j]? ≠ some 10) : Qm.linesOf (s.extract a s.size) = [] := by
  have hi : Lib.indexByte (s.extract a s.size).data.toList 10 = -1 := by
    rw [Lib.extract_to_end]
    refine indexByte_not fun j => ?_
    rw [List.getElem?_drop]
    rcases Nat.lt_or_ge (a + j) s.size with h | h
    · exact hno _ (by omega) h
    · rw [List.getElem?_eq_none (by simpa using h)]
      simp
  exact Qm.linesOf_none (by omega)

theorem sl_one (W : World) (x : ByteArray) : Sl (W.alloc (.cells #[.string x] 9)) (some ⟨W.heap.size, 0, none⟩) 1 1 [x] := by
  refine ⟨⟨rfl, fun _ => ⟨W.heap.size, 0, rfl, by simp, fun j hj => ?_⟩⟩, fun h => nomatch h⟩
  obtain rfl : j = 0 := by omega
  rw [World.cell?_alloc_at _ _ _ _ rfl]
  rfl
theorem own_empty (W : World) : (W.alloc (.cells #[] 9)).ownsRow W.heap.size 9 1 (.slice (some ⟨W.heap.size, 0, none⟩) 0 0) 0 [] :=
  ⟨rfl, .inr ⟨W.heap.size, 0, #[], rfl, Nat.le_refl _, heap_alloc_new _ _, Nat.le_refl _, Nat.zero_le _, rfl, rfl⟩⟩
set_option maxHeartbeats 4000000 in
set_option maxRecDepth 100000 in
theorem rparts_any (s : ByteArray) (w : World) (hs : s.size ≤ 65536) :
    Calls Tryz.prog 161 #[.string s] w (fun e w' => ∃ A c, e = .returned (.slice A (Qm.linesOf s).length c) ∧ Sl w' A (Qm.linesOf s).length c (Qm.linesOf s) ∧ Ext w w') := by
  go_enter Tryz.func161, Tryz.ntmps161
  have hx := Ext.refl w
  go_wp2_with fail
  go_loopw [3, 4, 5] (fun o f i W => ∃ (pre : List ByteArray) (a k : Nat), f = .int .i64 a ∧ i = .int .i64 k ∧ W.ownsRow w.heap.size 9 1 o pre.length (pre.map Value.string) ∧ a ≤ k ∧ k ≤ s.size ∧ pre.length ≤ k ∧ Qm.linesOf s = pre ++ Qm.linesOf (s.extract a s.size) ∧ (∀ j, a ≤ j → j < k → s.data.toList[j]? ≠ some 10) ∧ Ext w W) (fun o f i _ => s.size - (intOf i).toNat)
  case atStart =>
    refine ⟨[], 0, 0, rfl, rfl, own_empty w, Nat.le_refl _, Nat.zero_le _, Nat.le_refl _, by rw [ByteArray.extract_zero_size]; rfl, fun j h1 h2 => by omega, EX⟩
  case round =>
    clear hx
    obtain ⟨pre, a, k, rfl, rfl, hown, hak, hks, hpl, hlines, hno, hx⟩ := hrel
    have Hno := Lib.hid hno
    have HL := Lib.hid hlines
    have Hown := Lib.hid hown
    clear hno hlines hown
    by_cases hlt : k < s.size
    · by_cases h10 : s[k].toNat = 10
      · have hz := hx.size_le
        have hz2 : w.heap.size ≤ (wr.alloc (.cells #[.string (s.extract a k)] 9)).heap.size := by simp; omega
        go_wp2_with (at_builtin; refine wpList_append_sl rfl _ _ rfl w.heap.size _ pre.length pre rfl (Hown.out.alloc _) hz2 (some ⟨wr.heap.size, 0, none⟩) 1 1 [s.extract a k] (sl_one wr _) rfl (by omega) (by omega) ?_; intro v2 w2 hown2 hg2)
        have hx2 := grownBy_ext hg2 w (hx.alloc _) (fun g hg => (Hown.out.lt g hg).1)
        refine ⟨⟨pre ++ [s.extract a k], k + 1, k + 1, rfl, rfl, ?_, Nat.le_refl _, hlt, ?_, ?_, fun j h1 h2 => by omega, hx2⟩, ?_⟩
        · rw [List.length_append]; exact hown2
        · rw [List.length_append]; simp; omega
        · rw [HL.out, lines_hit hak hlt h10 Hno.out, List.append_assoc]; rfl
        · simp [intOf]; omega
      · go_wp2_with fail
        refine ⟨⟨pre, a, k + 1, rfl, rfl, Hown.out, by omega, hlt, by omega, HL.out, fun j h1 h2 => ?_, hx⟩, ?_⟩
        · rcases Nat.lt_or_ge j k with h | h
          · exact Hno.out j h1 h
          · obtain rfl : j = k := by omega
            rw [byte_at hlt]
            intro e
            exact h10 (by rw [Option.some.inj e]; rfl)
        · simp [intOf]; omega
    · obtain rfl : k = s.size := by omega
      have hl : Qm.linesOf s = pre := by rw [HL.out, lines_miss Hno.out, List.append_nil]
      go_wp2_with fail
      obtain ⟨A, c, rfl, hsl, _⟩ := Sl.of_own' Hown.out
      go_ret
      exact ⟨A, c, by rw [hl]; rfl, by rw [hl]; exact hsl, hx⟩

theorem suffix_last {s : ByteArray} (h : 0 < s.size) : Lib.hasSuffix s.data.toList [10] = ((s[s.size - 1].toNat : Int) == 10) := by
  unfold Lib.hasSuffix
  have hb : s.data.toList[s.size - 1]? = some s[s.size - 1] := byte_at (by omega)
  have hl : s.data.toList.length = s.size := rfl
  rw [Bool.eq_iff_iff, List.isSuffixOf_iff_suffix, beq_iff_eq]
  constructor
  · rintro ⟨x, hx⟩
    have hlen : x.length = s.size - 1 := by have := congrArg List.length hx; simp at this; omega
    rw [← hx, List.getElem?_append_right (by omega), hlen, Nat.sub_self] at hb
    have : (10 : UInt8) = s[s.size - 1] := by simpa using hb
    rw [← this]; rfl
  · intro h2
    have h3 : s[s.size - 1].toNat = 10 := by omega
    have hc : s[s.size - 1] = 10 := UInt8.toNat_inj.1 (by rw [h3]; rfl)
    rw [hc, List.getElem?_eq_getElem (by omega)] at hb
    refine ⟨s.data.toList.take (s.size - 1), ?_⟩
    have hd : s.data.toList.drop (s.size - 1) = [10] := by
      rw [List.drop_eq_getElem_cons (by omega), Option.some.inj hb, List.drop_eq_nil_of_le (by omega)]
    rw [← hd, List.take_append_drop]
theorem clean_zero {s : ByteArray} : cleanB s.data.toList 0 0 = decide (Lib.indexByte s.data.toList 0 < 0) := by
  rw [Bool.eq_iff_iff, decide_eq_true_eq, idx_neg]
  have := cleanB_iff (l := s.data.toList) (a := 0) (b := 0)
  exact this.trans ⟨fun h => h.1, fun h => ⟨h, h⟩⟩

/-- The reference's Split: its error. -/
def RSplit (s : ByteArray) (w : World) (e : Ending) (w' : World) : Prop := ∃ v, e = .returned (.tuple #[v, .int .i64 (Qm.splitErr s)]) ∧ Ext w w'
set_option maxHeartbeats 4000000 in
set_option maxRecDepth 100000 in
theorem rsplit_any (s : ByteArray) (w : World) : Calls Tryz.prog 149 #[.string s] w (RSplit s w) := by
  by_cases h1 : 65536 < s.size
  · have hv : Qm.splitErr s = 4 := by unfold Qm.splitErr; rw [if_pos h1]
    go_enter Tryz.func149, Tryz.ntmps149
    have hx := Ext.refl w
    go_wp2_with fail
    refine bodyPost_ret (v := .tuple #[_, .int .i64 4]) (by simp only [results, Tryz.results149]; go_simp; rfl) rfl ?_
    exact ⟨_, by rw [hv], EX⟩
  have h1' : s.size ≤ 65536 := by omega
  by_cases h2 : 0 ≤ Lib.indexByte s.data.toList 0 ∨ (Qm.eqB s ⟨#[]⟩ = false ∧ Lib.hasSuffix s.data.toList [10] = false)
  · have hv : Qm.splitErr s = 3 := by unfold Qm.splitErr; rw [if_neg h1, if_pos h2]
    have Hv := Lib.hid hv
    clear hv
    cases hc : cleanB s.data.toList 0 0
    · have Hc := Lib.hid hc
      clear hc h2
      go_enter Tryz.func149, Tryz.ntmps149
      have hx := Ext.refl w
      go_wp2_with fail
      refine (rclean_same s 0 0 _ (by omega)).mono ?_
      rintro e w1 ⟨rfl, rfl⟩
      rw [Hc.out]
      go_wp2_with fail
      refine bodyPost_ret (v := .tuple #[_, .int .i64 3]) (by simp only [results, Tryz.results149]; go_simp; rfl) rfl ?_
      exact ⟨_, by rw [Hv.out], EX⟩
    · have hi : Lib.indexByte s.data.toList 0 < 0 := by rw [clean_zero] at hc; exact of_decide_eq_true hc
      obtain ⟨h3, h4⟩ := h2.resolve_left (by omega)
      have h0 : 0 < s.size := by
        rcases Nat.eq_zero_or_pos s.size with h | h
        · have : s = ⟨#[]⟩ := ByteArray.ext (Array.toList_inj.1 (List.length_eq_zero_iff.1 h))
          rw [Qm.eqB_iff.2 this] at h3
          cases h3
        · exact h
      rw [suffix_last h0] at h4
      have hE : s.toList.isEmpty = false := by
        cases e : s.toList.isEmpty
        · rfl
        · have := Qm.size_zero e; omega
      have hS : IntKind.i64.wrap ((s.size : Int) - 1) = ((s.size - 1 : Nat) : Int) := by rw [IntWalk.i64_in _ (by omega)]; omega
      have Hc := Lib.hid hc
      clear hc hi h2 h3
      go_enter Tryz.func149, Tryz.ntmps149
      have hx := Ext.refl w
      go_wp2_with fail
      refine (rclean_same s 0 0 _ (by omega)).mono ?_
      rintro e w1 ⟨rfl, rfl⟩
      rw [Hc.out]
      go_wp2_with fail
      refine bodyPost_ret (v := .tuple #[_, .int .i64 3]) (by simp only [results, Tryz.results149]; go_simp; rfl) rfl ?_
      exact ⟨_, by rw [Hv.out], EX⟩
  · have hv : Qm.splitErr s = if Qm.longLine (Qm.linesOf s) = true ∨ 2000 < (Qm.linesOf s).length then 4 else 0 := by unfold Qm.splitErr; rw [if_neg h1, if_neg h2]
    have Hv := Lib.hid hv
    clear hv
    simp only [not_or, not_and, Bool.not_eq_false, Int.not_le] at h2
    obtain ⟨hi, h3⟩ := h2
    have hc : cleanB s.data.toList 0 0 = true := by rw [clean_zero]; exact decide_eq_true hi
    have Hc := Lib.hid hc
    have Hp := Lib.hid (fun W => rparts_any s W h1')
    have hlen := Qm.linesOf_length s
    generalize Qm.linesOf s = l at Hv Hp hlen
    generalize hn : l.length = n at Hv Hp hlen
    have Hn := Lib.hid hn
    clear hi hc hn
    have hS : 0 < s.size → IntKind.i64.wrap ((s.size : Int) - 1) = ((s.size - 1 : Nat) : Int) := fun h => by rw [IntWalk.i64_in _ (by omega)]; omega
    rcases Nat.eq_zero_or_pos s.size with h0 | h0
    · have hE : s.toList = [] := by rw [ByteArray.toList_eq]; exact List.length_eq_zero_iff.1 h0
      clear hS h3
      go_enter Tryz.func149, Tryz.ntmps149
      have hx := Ext.refl w
      go_wp2_with fail
      refine (rclean_same s 0 0 _ (by omega)).mono ?_
      rintro e w1 ⟨rfl, rfl⟩
      rw [Hc.out]
      go_wp2_with fail
      refine (Hp.out _).mono ?_
      rintro e w2 ⟨A, c, rfl, hsl, hx0⟩
      have hx1 := Ext.trans (a := w1) EX hx0
      clear hx hx0
      have hx := hx1
      clear hx1
      have Hsl := Lib.hid hsl
      clear hsl Hp
      by_cases h2000 : 2000 < n
      · exfalso; omega
      · go_wp2_with fail
        go_loop [5] (fun i => ∃ k : Nat, k ≤ n ∧ i = .int .i64 k ∧ Qm.longLine (l.take k) = false) (fun i => n - (intOf i).toNat)
        case atStart => exact ⟨0, Nat.zero_le _, rfl, rfl⟩
        case round =>
          obtain ⟨k, hk, rfl, hall⟩ := hrel
          have Hall := Lib.hid hall
          clear hall
          by_cases hlt : k < n
          · exfalso; omega
          · obtain rfl : k = n := by omega
            have hall : Qm.longLine l = false := by have h0 := Hall.out; rwa [List.take_of_length_le (by have := Hn.out; omega)] at h0
            have HL := Lib.hid hall
            clear hall
            go_wp2_with fail
            refine bodyPost_ret (v := .tuple #[_, .int .i64 0]) (by simp only [results, Tryz.results149]; go_simp; rfl) rfl ?_
            exact ⟨_, by rw [Hv.out, if_neg (by rw [HL.out]; simp; omega)], EX⟩
    · have h10 : ((s[s.size - 1].toNat : Int) == 10) = true := by
        rw [← suffix_last h0]
        refine h3 ?_
        cases e : Qm.eqB s ⟨#[]⟩
        · rfl
        · have := Qm.eqB_iff.1 e
          rw [this] at h0
          exact absurd h0 (by decide)
      have h10' : ((s[s.size - 1].toNat : Int) != 10) = false := by rw [bne, h10]; rfl
      have hE : s.toList.isEmpty = false := by
        cases e : s.toList.isEmpty
        · rfl
        · have := Qm.size_zero e; omega
      have hS := hS h0
      clear h3
      go_enter Tryz.func149, Tryz.ntmps149
      have hx := Ext.refl w
      go_wp2_with fail
      refine (rclean_same s 0 0 _ (by omega)).mono ?_
      rintro e w1 ⟨rfl, rfl⟩
      rw [Hc.out]
      go_wp2_with fail
      refine (Hp.out _).mono ?_
      rintro e w2 ⟨A, c, rfl, hsl, hx0⟩
      have hx1 := Ext.trans (a := w1) EX hx0
      clear hx hx0
      have hx := hx1
      clear hx1
      have Hsl := Lib.hid hsl
      clear hsl Hp
      by_cases h2000 : 2000 < n
      · go_wp2_with fail
        refine bodyPost_ret (v := .tuple #[_, .int .i64 4]) (by simp only [results, Tryz.results149]; go_simp; rfl) rfl ?_
        exact ⟨_, by rw [Hv.out, if_pos (.inr h2000)], EX⟩
      · go_wp2_with fail
        go_loop [5] (fun i => ∃ k : Nat, k ≤ n ∧ i = .int .i64 k ∧ Qm.longLine (l.take k) = false) (fun i => n - (intOf i).toNat)
        case atStart => exact ⟨0, Nat.zero_le _, rfl, rfl⟩
        case round =>
          obtain ⟨k, hk, rfl, hall⟩ := hrel
          have Hall := Lib.hid hall
          clear hall
          by_cases hlt : k < n
          · obtain ⟨bb, oo, rfl, _, hcl⟩ := Hsl.out.1.2 (by omega)
            have hck := hcl k hlt
            have e1 : l[k]? = some (l.getD k ByteArray.empty) := by simp [List.getD, List.getElem?_eq_getElem (show k < l.length by have := Hn.out; omega)]
            generalize l.getD k ByteArray.empty = x at hck e1
            have HE := Lib.hid e1
            clear e1 hcl
            by_cases hb : 1000 < x.size
            · have hf : Qm.longLine l = true := by
                unfold Qm.longLine
                rw [List.any_eq_true]
                exact ⟨x, List.mem_of_getElem? HE.out, decide_eq_true hb⟩
              go_wp2_with fail
              refine bodyPost_ret (v := .tuple #[_, .int .i64 4]) (by simp only [results, Tryz.results149]; go_simp; rfl) rfl ?_
              exact ⟨_, by rw [Hv.out, if_pos (.inl hf)], EX⟩
            · go_wp2_with fail
              refine ⟨⟨k + 1, hlt, rfl, ?_⟩, ?_⟩
              · rw [List.take_add_one, HE.out, Option.toList_some, Qm.longLine_snoc, Hall.out, decide_eq_false hb]
                rfl
              · simp [intOf]; omega
          · obtain rfl : k = n := by omega
            have hall : Qm.longLine l = false := by have h0 := Hall.out; rwa [List.take_of_length_le (by have := Hn.out; omega)] at h0
            have HL := Lib.hid hall
            clear hall
            go_wp2_with fail
            refine bodyPost_ret (v := .tuple #[_, .int .i64 0]) (by simp only [results, Tryz.results149]; go_simp; rfl) rfl ?_
            exact ⟨_, by rw [Hv.out, if_neg (by rw [HL.out]; simp; omega)], EX⟩

set_option maxHeartbeats 1000000 in
theorem ristext_any (s : ByteArray) (w : World) : Calls Tryz.prog 133 #[.string s] w (Ret (.bool (Qm.isText s)) w) := by
  go_enter Tryz.func133, Tryz.ntmps133
  have hx := Ext.refl w
  go_wp2_with fail
  refine (rsplit_any s _).mono ?_
  rintro e w1 ⟨v, rfl, hx0⟩
  clear hx
  have hx := hx0
  go_wp2_with fail
  (go_ret; refine Ret.mk ?_ ?_; (focus (rfl; done)); (focus (exact EX; done)))
end Go.Proofs.YtnjcifppkijanaaGreatDoor
namespace Go.Proofs.YtnjcifppkijanaaGreatDoor
open Go.RowKit
attribute [local go_sem ↓] Go.wp_at_zero Go.wp_at_succ

set_option maxHeartbeats 1000000 in
theorem rcontent_any (k : Int) (d : ByteArray) (w : World) : Calls Tryz.prog 105 #[.int .i64 k, .string d] w (Ret (.int .i64 (Qm.content k d)) w) := by
  by_cases h1 : 65536 < d.size
  · have hv : Qm.content k d = 4 := by unfold Qm.content; rw [if_pos h1]
    rw [hv]
    go_enter Tryz.func105, Tryz.ntmps105
    have hx := Ext.refl w
    go_wp2_with fail
    (go_ret; refine Ret.mk ?_ ?_; (focus (rfl; done)); (focus (exact EX; done)))
  by_cases hk : k = 1
  · have hv : Qm.content k d = if Qm.isText d = false then 3 else 0 := by unfold Qm.content; rw [if_neg h1]; simp [hk]
    have hk' : (k == 1) = true := by simpa using hk
    have H := Lib.hid (fun W => ristext_any d W)
    rw [hv]
    clear hv
    generalize Qm.isText d = b at H ⊢
    clear hk
    cases b
    all_goals
      go_enter Tryz.func105, Tryz.ntmps105
      have hx := Ext.refl w
      go_wp2_with fail
      refine (H.out _).mono ?_
      rintro e w1 ⟨rfl, hx0⟩
      clear hx
      have hx := hx0
      go_wp2_with fail
      (go_ret; refine Ret.mk ?_ ?_; (focus (rfl; done)); (focus (exact EX; done)))
  · have hv : Qm.content k d = 0 := by unfold Qm.content; rw [if_neg h1, if_neg (fun h => hk h.1)]
    have hk' : (k == 1) = false := by simpa using hk
    rw [hv]
    go_enter Tryz.func105, Tryz.ntmps105
    have hx := Ext.refl w
    go_wp2_with fail
    (go_ret; refine Ret.mk ?_ ?_; (focus (rfl; done)); (focus (exact EX; done)))
end Go.Proofs.YtnjcifppkijanaaGreatDoor
namespace Go.Proofs.YtnjcifppkijanaaGreatDoor
open Go.RowKit
attribute [local go_sem ↓] Go.wp_at_zero Go.wp_at_succ

end Go.Proofs.YtnjcifppkijanaaGreatDoor
namespace Go.Proofs.YtnjcifppkijanaaGreatDoor
open Go.RowKit
attribute [local go_sem ↓] Go.wp_at_zero Go.wp_at_succ

end Go.Proofs.YtnjcifppkijanaaGreatDoor
