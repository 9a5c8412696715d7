/- Walks: sequence's iterator over the pairs of a sequence. -/
import Derived.Test.YtgfiddlmeopebaaGreatDoorRange
import Derived.Test.YtgfiddlmeopebaaGreatDoorBase
import Derived.RangeFuncNested
import Derived.RangeFuncBound
import Derived.RangeFuncLeaves
import Derived.Shelf.Abstract
import Derived.Shelf.RegionOpen
import Derived.OwnWalkIn
import Derived.TacticsInMore
import Derived.LoopNIn
import Derived.LoopIn
set_option linter.unusedSimpArgs false
set_option linter.unusedVariables false
namespace Go.Proofs.YtgfiddlmeopebaaGreatDoor
open Go Go.RowKit Go.Shelf
attribute [local go_sem] Oper.semAt_some

namespace Sq
/-- The pairs at distance d. -/
def prow (n d : Nat) : List (Nat × Nat) := (List.range (n - d)).map fun i => (i, i + d)
def prows (n d : Nat) : List (Nat × Nat) := (List.range' d (n - d)).flatMap (prow n)
/-- The pairs of n places, in the order of sequence.pairs. -/
def pairs (n : Nat) : List (Nat × Nat) := prows n 1
theorem prows_step {n d : Nat} (h : d < n) : prows n d = prow n d ++ prows n (d + 1) := by
  unfold prows
  rw [show n - d = (n - (d + 1)) + 1 by omega, List.range'_succ, List.flatMap_cons]
theorem prows_end {n d : Nat} (h : n ≤ d) : prows n d = [] := by
  unfold prows
  rw [show n - d = 0 by omega]
  rfl
theorem prow_step {n d i : Nat} (h : i + d < n) : (prow n d).drop i = (i, i + d) :: (prow n d).drop (i + 1) := by
  have hl : i < (prow n d).length := by simp [prow]; omega
  rw [List.drop_eq_getElem_cons hl]
  simp [prow]
theorem prow_end {n d i : Nat} (h : n ≤ i + d) : (prow n d).drop i = [] := by
  rw [List.drop_eq_nil_iff]
  simp [prow]
  omega
theorem drop_step {α : Type} {l r : List α} {x : α} {k : Nat} (h : l.drop k = x :: r) : l[k]? = some x ∧ l.drop (k + 1) = r ∧ k < l.length := by
  have hk : k < l.length := by
    have := congrArg List.length h
    simp at this
    omega
  rw [List.drop_eq_getElem_cons hk] at h
  obtain ⟨h1, h2⟩ := List.cons.inj h
  exact ⟨by rw [List.getElem?_eq_getElem hk, h1], h2, hk⟩
end Sq

set_option maxHeartbeats 400000 in
theorem pairs_same (n : Int) (w : World) :
    Calls Tryz.prog 57 #[.int .i64 n] w fun e w' => e = .returned (.func (.func 72) #[] #[.pointer (some ⟨w.heap.size, 0, none⟩)]) ∧ w.alloc (.cells #[.int .i64 n] 3) = w' := by
  go_enter Tryz.func57, Tryz.ntmps57
  go_wp2
  go_ret
  simp

set_option maxHeartbeats 8000000 in
set_option maxRecDepth 100000 in
theorem pairs1_gives (n0 : Nat) (hn0 : 3 ≤ n0) (z n : Nat) (hn : n ≤ 1000000000000) (I : Nat → World → Prop) (X : World → Prop) (hbox : ∀ k W, I k W → Blk W z 3 #[.int .i64 n]) :
    Rounds Tryz.prog n0 72 #[.pointer (some ⟨z, 0, none⟩)] (fun x : Nat × Nat => #[.int .i64 x.1, .int .i64 x.2]) I (fun k x W => I k W ∧ (Sq.pairs n)[k]? = some x) (fun k x W => I (k + 1) W) X (Sq.pairs n).length := by
  intro l T Tx W hT hTx hY h0 hT0
  have HY := Lib.hid hY
  have HB := Lib.hid hbox
  have H0 := Lib.hid h0
  have HT0 := Lib.hid hT0
  clear hY hT hTx h0 hT0 hbox
  refine callsIn_of_wp Tryz.func72 rfl trivial ?_ rfl
  simp only [Tryz.ntmps72, List.size_toArray, List.length_cons, List.length_nil, Nat.reduceAdd, Nat.reduceSub, Array.replicate_succ, Array.replicate_zero, List.push_toArray, List.append_toArray, List.nil_append, List.cons_append]
  gi_wp2
  gi_loopw [3] (fun u3 wr => ∃ d k : Nat, 1 ≤ d ∧ (d ≤ n ∨ d = 1) ∧ u3 = .int .i64 d ∧ k ≤ (Sq.pairs n).length ∧ Hid ((Sq.pairs n).drop k = Sq.prows n d) ∧ Hid (I k wr) ∧ Hid (T wr)) (fun u3 wr => n - (intOf u3).toNat)
  case atStart => exact ⟨1, 0, Nat.le_refl _, .inr rfl, rfl, Nat.zero_le _, Lib.hid rfl, H0, HT0⟩
  case round =>
    clear H0 HT0
    obtain ⟨d, k, hd, hdn, rfl, hk, HD, HI, HT⟩ := hrel
    have hb := HB.out k wr HI.out
    have hcb := hb.cell
    have hlb := hb.lt
    clear hb
    by_cases hlt : d < n
    · have HD2 : Hid ((Sq.pairs n).drop k = (Sq.prow n d).drop 0 ++ Sq.prows n (d + 1)) := Lib.hid (by rw [HD.out, Sq.prows_step hlt, List.drop_zero])
      clear HD
      gi_wp2_with fail
      clear hcb hlb
      gi_loopw [4] (fun u4 wr => ∃ i k : Nat, i + d ≤ n ∧ u4 = .int .i64 i ∧ k ≤ (Sq.pairs n).length ∧ Hid ((Sq.pairs n).drop k = (Sq.prow n d).drop i ++ Sq.prows n (d + 1)) ∧ Hid (I k wr) ∧ Hid (T wr)) (fun u4 wr => n - (intOf u4).toNat)
      case atStart => exact ⟨0, k, by omega, rfl, hk, HD2, HI, HT⟩
      case round =>
        clear HD2 HI HT hk
        obtain ⟨i, k, hi, rfl, hk, HD, HI, HT⟩ := hrel
        have hb := HB.out k wr HI.out
        have hcb := hb.cell
        have hlb := hb.lt
        clear hb
        by_cases hlt2 : i + d < n
        · obtain ⟨g1, g2, g3⟩ := Sq.drop_step (HD.out.trans (by rw [Sq.prow_step hlt2]; rfl))
          obtain ⟨fn, tmps, assign, body, hy, hR⟩ := HY.out k _ _ ⟨HI.out, g1⟩ HT.out
          have HR := Lib.hid hR
          have HG := Lib.hid g2
          clear hR g1 g2 HD HI HT
          simp only [Int.natCast_add] at hy HR
          gi_wp2
          refine ⟨fun _ => (by omega), HR.out.mono ?_⟩
          rintro e W4 (⟨rfl, hJ, hT4⟩ | ⟨rfl, hX4, hTx4⟩)
          · have HJ := Lib.hid hJ
            have HT4 := Lib.hid hT4
            clear hJ hT4 HR hcb hlb
            gi_wp2
            go_roundw
            case rel => exact ⟨i + 1, k + 1, by omega, rfl, by omega, HG, HJ, HT4⟩
            case measure => simp [intOf]; omega
          · have HE := Lib.hid (⟨hX4, hTx4⟩ : _ ∧ _)
            clear hX4 hTx4 HR hcb hlb
            gi_wp2
            refine bodyPost_ret (results_none rfl _ _ _) rfl ?_
            exact ⟨⟨_, rfl⟩, .inr HE.out⟩
        · have HD2 : Hid ((Sq.pairs n).drop k = Sq.prows n (d + 1)) := Lib.hid (by rw [HD.out, Sq.prow_end (by omega)]; rfl)
          clear HD
          gi_wp2_with fail
          go_roundw
          case rel => exact ⟨d + 1, k, by omega, .inl (by omega), rfl, hk, HD2, HI, HT⟩
          case measure => simp [intOf]; omega
    · have hkn : k = (Sq.pairs n).length := by
        have := HD.out
        rw [Sq.prows_end (by omega), List.drop_eq_nil_iff] at this
        omega
      subst hkn
      clear HD
      gi_wp2
      go_end0
      exact ⟨⟨_, rfl⟩, .inl ⟨HI.out, HT.out⟩⟩
end Go.Proofs.YtgfiddlmeopebaaGreatDoor
