/- Walks: a text is cut into its lines. -/
import Derived.Test.YtgjphfmpodkgeaaGreatDoorBase
import Derived.Test.YtgjphfmpodkgeaaGreatDoorShelf
import Derived.Test.YtgjphfmpodkgeaaGreatDoorRange
import Derived.Test.YtgjphfmpodkgeaaGreatDoorModel2
import Derived.RangeFuncNested
import Derived.RangeFuncBound
import Derived.RangeFuncLeaves
import Derived.Shelf.Abstract
import Derived.Shelf.RegionOpen
import Derived.OwnWalkIn
import Derived.TacticsInMore
import Derived.LoopNIn
import Derived.LoopIn
import Derived.Maps.AppendAt
set_option linter.unusedSimpArgs false
set_option linter.unusedVariables false
namespace Go.Proofs.YtgjphfmpodkgeaaGreatDoor
open Go.RowKit Go.Shelf
attribute [local go_sem] Oper.semAt_some

def boxSize (b : Nat) (w : World) : Nat := match w.cell? ⟨b, 0, none⟩ with | some (.string s) => s.size | _ => 0
theorem boxSize_eq {W : World} {b : Nat} {s : ByteArray} (h : Boxed W b 9 (.string s)) : boxSize b W = s.size := by
  unfold boxSize; rw [h.cell]

set_option maxHeartbeats 2000000 in
theorem each1_gives (n : Nat) (bS : Nat) (s : ByteArray) (hn : 3 ≤ n) (hs : s.size ≤ 1152921504606846976) :
    GivesAll Tryz.prog n 139 #[.pointer (some ⟨bS, 0, none⟩)] (fun x => #[.string x]) bS 9 (.string s) (Qm.linesOf s) := by
  intro l I W hIs hY h0 hb
  refine callsIn_of_wp Tryz.func139 rfl trivial ?_ rfl
  simp only [Tryz.ntmps139, List.size_toArray, List.length_cons, List.length_nil, Nat.reduceAdd, Nat.reduceSub, Array.replicate_succ, Array.replicate_zero, List.push_toArray, List.append_toArray, List.nil_append, List.cons_append]
  gi_wp2
  gi_loopw [3] (fun _ wr => ∃ (cur : ByteArray) (pre : List ByteArray), Boxed wr bS 9 (.string cur) ∧ cur.size ≤ s.size ∧ I pre wr ∧ pre ++ Qm.linesOf cur = Qm.linesOf s)
    (fun _ wr => boxSize bS wr)
  case atStart => exact ⟨s, [], hb, Nat.le_refl _, h0, rfl⟩
  case round =>
    obtain ⟨cur, pre, hbx, hsz, hI, heq⟩ := hrel
    have Heq := Lib.hid heq; clear heq
    have hc := hbx.cell
    have hf := hbx.frozen
    have hi1 := Qm.indexByte_lt cur.data.toList 10
    have hl1 : cur.data.toList.length = cur.size := rfl
    rw [hl1] at hi1
    clear hl1
    by_cases hneg : Lib.indexByte cur.data.toList 10 < 0
    · have hln := Qm.linesOf_none hneg
      have hfin : pre = Qm.linesOf s := by have := Heq.out; rwa [hln, List.append_nil] at this
      have Hfin := Lib.hid hfin
      clear hln hfin
      gi_wp2_with (refine ⟨trivial, fun _ => (by omega), ?_⟩; gi_at_call 135; refine (callsIn_wide.2 (Tryz.strings_IndexByte _ _ _)).mono ?_; rintro e w1 ⟨rfl, rfl⟩)
      refine ⟨fun _ h => (by cases h), ?_⟩
      gi_wp2
      refine bodyPost_ret (results_none rfl _ _ _) rfl ?_
      exact ⟨⟨_, rfl⟩, by rw [← Hfin.out]; exact hI⟩
    · obtain ⟨i, hi⟩ := Int.eq_ofNat_of_zero_le (Int.not_lt.1 hneg)
      have hls := Qm.linesOf_some hi
      have Hls := Lib.hid hls
      have Hi := Lib.hid hi
      rw [hi] at hi1
      have hi2 : i < cur.size := by omega
      have hi3 : (i : Int) ≤ cur.size := by omega
      have hi4 : ((i : Int) + 1) ≤ cur.size := by omega
      have hi5 : i + 1 ≤ cur.size := by omega
      have hib : Lib.indexByte cur.data.toList (10 : Int).toNat.toUInt8 = i := hi
      clear hls hi hneg
      obtain ⟨fn, tmps, assign, body, hy, hR⟩ := hY pre (cur.extract 0 i) wr ⟨_, by have := Heq.out; rwa [Hls.out] at this⟩ hI
      gi_wp2_with (refine ⟨trivial, fun _ => (by omega), ?_⟩; gi_at_call 135; refine (callsIn_wide.2 (Tryz.strings_IndexByte _ _ _)).mono ?_; rintro e w1 ⟨rfl, rfl⟩; rw [hib])
      refine ⟨fun _ => (by omega), hR.mono ?_⟩
      rintro e W3 ⟨rfl, hI3, hB3⟩
      have hb3 := hB3 _ hbx
      have hc3 := hb3.cell
      have hf3 := hb3.frozen
      gi_wp2
      go_roundw
      case rel =>
        refine ⟨cur.extract (i + 1) cur.size, pre ++ [cur.extract 0 i], hb3.set _, ?_, hIs _ _ _ hI3, ?_⟩
        · rw [ByteArray.size_extract]; omega
        · have := Heq.out; rw [Hls.out] at this; rw [List.append_assoc]; exact this
      case measure =>
        rw [boxSize_eq (hb3.set _), boxSize_eq hbx, ByteArray.size_extract]; omega

set_option maxHeartbeats 400000 in
theorem each_any (s : ByteArray) (w : World) :
    Calls Tryz.prog 137 #[.string s] w fun e w' => e = .returned (.func (.func 139) #[] #[.pointer (some ⟨w.heap.size, 0, none⟩)]) ∧ w.alloc (.cells #[.string s] 9) = w' := by
  go_enter Tryz.func137, Tryz.ntmps137
  go_wp2
  go_ret
  exact ⟨rfl, rfl⟩

set_option maxHeartbeats 1000000 in
theorem split_bad (s : ByteArray) (w : World) (hbad : 65536 < s.size ∨ (0 ≤ Lib.indexByte s.data.toList 0 ∨ (Qm.eqB s ⟨#[]⟩ = false ∧ Lib.hasSuffix s.data.toList [10] = false))) :
    Calls Tryz.prog 134 #[.string s] w (Ret (.tuple #[.slice none 0 0, .int .i64 (Qm.splitErr s)]) w) := by
  by_cases h1 : 65536 < s.size
  · have hm : Qm.splitErr s = 4 := by simp [Qm.splitErr, h1]
    rw [hm]
    clear hbad hm
    go_enter Tryz.func134, Tryz.ntmps134
    have hx := Ext.refl w
    go_wp2
    (go_ret2; refine Ret.mk ?_ ?_; (focus (rfl; done)); (focus ((repeat (first | with_reducible exact hx | with_reducible exact Ext.refl _ | with_reducible refine Ext.alloc ?_ _ | with_reducible refine Ext.drewN ?_ _ | with_reducible refine Ext.drew1 ?_ | ((with_reducible refine Ext.setCell ?_ ?_ _); rotate_left; (focus (first | (dsimp only; omega) | (simp; done) | (simp; omega)))))); done)))
  · have h2 := hbad.resolve_left h1
    have hm : Qm.splitErr s = 3 := by simp [Qm.splitErr, h1, h2]
    rw [hm]
    clear hbad hm
    cases h3 : decide (Lib.indexByte s.data.toList 0 < 0)
    · have h4 : ¬ Lib.indexByte s.data.toList 0 < 0 := by simpa using h3
      clear h3 h2
      go_enter Tryz.func134, Tryz.ntmps134
      have hx := Ext.refl w
      go_wp2_with (go_at_call 135; refine (Tryz.strings_IndexByte _ _ _).mono ?_; rintro e w1 ⟨rfl, rfl⟩)
      (go_ret2; refine Ret.mk ?_ ?_; (focus (rfl; done)); (focus ((repeat (first | with_reducible exact hx | with_reducible exact Ext.refl _ | with_reducible refine Ext.alloc ?_ _ | with_reducible refine Ext.drewN ?_ _ | with_reducible refine Ext.drew1 ?_ | ((with_reducible refine Ext.setCell ?_ ?_ _); rotate_left; (focus (first | (dsimp only; omega) | (simp; done) | (simp; omega)))))); done)))
    · have h5 : Lib.indexByte s.data.toList 0 < 0 := by simpa using h3
      have h6 := h2.resolve_left (by omega)
      obtain ⟨h7, h8⟩ := h6
      have h9 : ¬ s.toList = [] := by
        intro e
        have : Qm.eqB s ⟨#[]⟩ = true := Qm.eqB_iff.2 (Qm.toList_inj (by rw [e, ByteArray.toList_eq]))
        rw [h7] at this
        cases this
      have h10 : s.toList.isEmpty = false := by simpa using h9
      clear h3 h2 h7 h9
      go_enter Tryz.func134, Tryz.ntmps134
      have hx := Ext.refl w
      go_wp2_with (first | (go_at_call 135; refine (Tryz.strings_IndexByte _ _ _).mono ?_; rintro e w1 ⟨rfl, rfl⟩) | (go_at_call 136; refine (Tryz.strings_HasSuffix _ _ _ (by omega)).mono ?_; rintro e w1 ⟨rfl, rfl⟩))
      (go_ret2; refine Ret.mk ?_ ?_; (focus (rfl; done)); (focus ((repeat (first | with_reducible exact hx | with_reducible exact Ext.refl _ | with_reducible refine Ext.alloc ?_ _ | with_reducible refine Ext.drewN ?_ _ | with_reducible refine Ext.drew1 ?_ | ((with_reducible refine Ext.setCell ?_ ?_ _); rotate_left; (focus (first | (dsimp only; omega) | (simp; done) | (simp; omega)))))); done)))
end Go.Proofs.YtgjphfmpodkgeaaGreatDoor
