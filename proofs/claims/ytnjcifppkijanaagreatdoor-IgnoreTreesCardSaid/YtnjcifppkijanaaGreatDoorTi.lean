/- Walks: the reference's plain trees: Find, SameTree, GreatTree. -/
import Derived.Test.YtnjcifppkijanaaGreatDoorTe
import Derived.Laws.StructEq
import Derived.Deep.QuietTactic
import Derived.BigQuiet
set_option linter.unusedSimpArgs false
set_option linter.unusedVariables false
namespace Go.Proofs.YtnjcifppkijanaaGreatDoor
open Go Go.RowKit

theorem find_step {l : List Pf} {s : ByteArray} {k : Nat} {f : Pf} (hk : l[k]? = some f) (h : ∀ (j : Nat) (g : Pf), j < k → l[j]? = some g → Qm.eqB g.path s = false) (he : Qm.eqB f.path s = false) : ∀ (j : Nat) (g : Pf), j < k + 1 → l[j]? = some g → Qm.eqB g.path s = false := fun j g hj hg => by
  rcases Nat.lt_succ_iff_lt_or_eq.1 hj with h1 | rfl
  · exact h j g h1 hg
  · rw [hk] at hg
    obtain rfl := Option.some.inj hg
    exact he
theorem find_end {l : List Pf} {s : ByteArray} (h : ∀ (j : Nat) (g : Pf), j < l.length → l[j]? = some g → Qm.eqB g.path s = false) : Tr.find l s = none :=
  Tr.find_none_iff.2 fun f hf => by
    obtain ⟨j, hj, e⟩ := List.mem_iff_getElem.1 hf
    exact h j f hj (by rw [List.getElem?_eq_getElem hj, e])

set_option maxHeartbeats 4000000 in
theorem rtfind_any (A : Option Addr) (n c : Nat) (s : ByteArray) (l : List Pf) (w : World) (h : Trs w A l) (hn : l.length = n) (hb : n ≤ 10000000000000) :
    Calls Tryz.prog 106 #[.slice A n c, .string s] w (Ret (Tr.found l s) w) := by
  have HQ := Lib.hid h
  have HN := Lib.hid hn
  clear h hn
  go_enter Tryz.func106, Tryz.ntmps106
  have hx := Ext.refl w
  go_wp2
  go_loop [6] (fun i => ∃ k : Nat, k ≤ n ∧ i = .int .i64 k ∧ Hid (∀ (j : Nat) (g : Pf), j < k → l[j]? = some g → Qm.eqB g.path s = false)) (fun i => n - (intOf i).toNat)
  case atStart => exact ⟨0, Nat.zero_le _, rfl, Lib.hid (fun j g hj => absurd hj (Nat.not_lt_zero j))⟩
  case round =>
    obtain ⟨k, hk, rfl, HB⟩ := hrel
    by_cases hlt : k < n
    · have hkl : k < l.length := by rw [HN.out]; exact hlt
      have hf : l[k]? = some (l[k]'hkl) := List.getElem?_eq_getElem hkl
      generalize l[k]'hkl = f at hf
      obtain ⟨b, o, rfl, hbl, c0, c1, c2, c3⟩ := HQ.out.get hf
      have HF := Lib.hid hf
      clear hf hkl
      cases he : Qm.eqB f.path s
      · have he' : (f.path.toList == s.toList) = false := he
        have HB2 := Lib.hid (find_step HF.out HB.out he)
        clear he
        go_wp2
        go_round
        case rel => exact ⟨k + 1, by omega, rfl, HB2⟩
        case measure => simp [intOf]; omega
      · have he' : (f.path.toList == s.toList) = true := he
        have HM := Lib.hid (found_some (Tr.find_at HF.out HB.out he))
        clear he
        go_wp2
        refine bodyPost_ret (v := .tuple #[f.v, .bool true]) ?_ rfl ?_
        · simp only [results, Tryz.results106]
          go_simp
        · exact ⟨by rw [HM.out], EX⟩
    · have hkn : k = n := by omega
      subst hkn
      have HM := Lib.hid (found_none (find_end (l := l) (s := s) (by rw [HN.out]; exact HB.out)))
      go_wp2
      refine bodyPost_ret (v := .tuple #[Pf.zero.v, .bool false]) ?_ rfl ?_
      · simp only [results, Tryz.results106]
        go_simp
        exact ⟨rfl, rfl, rfl, rfl⟩
      · exact ⟨by rw [HM.out], EX⟩

/-- Two files compared. -/
def Pf.same (f g : Pf) : Bool := Qm.eqB f.path g.path && (f.ty == g.ty && (f.mode == g.mode && Qm.eqB f.data g.data))
theorem Pf.same_iff {f g : Pf} : f.same g = true ↔ f = g := by
  unfold Pf.same
  simp only [Bool.and_eq_true, Qm.eqB_iff, beq_iff_eq]
  cases f; cases g
  simp [Pf.mk.injEq]
instance : DecidableEq Pf := fun a b => if h : a.same b = true then isTrue (Pf.same_iff.1 h) else isFalse (fun e => h (Pf.same_iff.2 e))
theorem eqlIn_pf (f g : Pf) (w : World) : (Op.equalIn 10000 54 f.v g.v).run Tryz.prog w = .ok (f.same g) w := by
  have hS : Tryz.prog.underlying 54 = some (.struct (Tryz.prog.fieldsOf 54)) := by kernel_rfl
  have hp : Tryz.prog.stoodInHeld 54 = false := by kernel_rfl
  have u3 := Tryz.underlying3
  have a3 := Tryz.isAgg3
  have z3 := Tryz.sizeOf3
  have u9 := Tryz.underlying9
  have a9 := Tryz.isAgg9
  have z9 := Tryz.sizeOf9
  rw [show (10000 : Nat) = 9999 + 1 from rfl, run_equalIn_agg w 9999 54 _ _ hS hp]
  simp only [Program.fieldsOf, Tryz.underlying54]
  unfold Pf.same Qm.eqB
  go_simp
  by_cases h0 : f.path.toList = g.path.toList <;> by_cases h1 : f.ty = g.ty <;> by_cases h2 : f.mode = g.mode <;> by_cases h3 : f.data.toList = g.data.toList <;> simp [h0, h1, h2, h3]
theorem guard_pf (op : BinOp) (x y : Operand) (xs ys : Array Value) (w : World) : (eqGuard op 54 x y (.agg xs) (.agg ys)).run Tryz.prog w = .ok () w := run_eqGuard_agg w op _ x y xs ys (by kernel_rfl)

theorem tree_step {l m : List Pf} {k : Nat} {f g : Pf} (hf : l[k]? = some f) (hg : m[k]? = some g) (h : l.take k = m.take k) (he : f = g) : l.take (k + 1) = m.take (k + 1) := by
  rw [Tr.take_at hf, Tr.take_at hg, h, he]

set_option maxHeartbeats 4000000 in
set_option maxRecDepth 100000 in
theorem sametree_any (A B : Option Addr) (n m c d : Nat) (l1 l2 : List Pf) (w : World) (h1 : Trs w A l1) (h2 : Trs w B l2) (hn : l1.length = n) (hm : l2.length = m) (b1 : n ≤ 10000000000000) (b2 : m ≤ 10000000000000) :
    Calls Tryz.prog 32 #[.slice A n c, .slice B m d] w (Ret (.bool (decide (l1 = l2))) w) := by
  by_cases hnm : n = m
  rotate_left
  · have hv : decide (l1 = l2) = false := decide_eq_false (fun e => hnm (by rw [← hn, ← hm, e]))
    rw [hv]
    have hne : ((n : Int) != m) = true := by rw [bne_iff_ne]; omega
    clear h1 h2 hn hm hv hnm
    go_enter Tryz.func32, Tryz.ntmps32
    have hx := Ext.refl w
    go_wp2
    (go_ret; refine Ret.mk ?_ ?_; (focus (rfl; done)); (focus (exact EX; done)))
  · subst hnm
    have H1 := Lib.hid h1
    have H2 := Lib.hid h2
    have HN := Lib.hid hn
    have HM := Lib.hid hm
    clear h1 h2 hn hm
    go_enter Tryz.func32, Tryz.ntmps32
    have hx := Ext.refl w
    go_wp2
    go_loopw [5] (fun i wr => ∃ k : Nat, k ≤ n ∧ i = .int .i64 k ∧ Hid (l1.take k = l2.take k) ∧ Hid (∃ q, wr = w.drewN q)) (fun i wr => n - (intOf i).toNat)
    case atStart => exact ⟨0, Nat.zero_le _, rfl, Lib.hid rfl, Lib.hid ⟨0, rfl⟩⟩
    case round =>
      obtain ⟨k, hk, rfl, HE, HW⟩ := hrel
      obtain ⟨q, rfl⟩ := HW.out
      have hx : Ext w (w.drewN q) := EX
      by_cases hlt : k < n
      · have hk1 : k < l1.length := by rw [HN.out]; exact hlt
        have hk2 : k < l2.length := by rw [HM.out]; exact hlt
        have hf : l1[k]? = some (l1[k]'hk1) := List.getElem?_eq_getElem hk1
        have hg : l2[k]? = some (l2[k]'hk2) := List.getElem?_eq_getElem hk2
        generalize l1[k]'hk1 = f at hf
        generalize l2[k]'hk2 = g at hg
        obtain ⟨b, o, rfl, hbl, c0, c1, c2, c3⟩ := H1.out.get hf
        obtain ⟨b', o', rfl, hbl', d0, d1, d2, d3⟩ := H2.out.get hg
        have HF := Lib.hid hf
        have HG := Lib.hid hg
        have hq := eqlIn_pf f g
        have hgu := guard_pf
        clear hf hg hk1 hk2
        cases hs : f.same g
        · have HS := Lib.hid hs
          have HV : Hid (decide (l1 = l2) = false) := Lib.hid (decide_eq_false (fun e => by
            have h1 := HF.out
            rw [e, HG.out] at h1
            have h2 := Option.some.inj h1
            have h3 : f.same g = true := Pf.same_iff.2 h2.symm
            rw [HS.out] at h3
            cases h3))
          rw [hs] at hq
          clear hs
          go_wp2
          go_quiet (fail)
          go_wp2
          (go_ret; refine Ret.mk ?_ ?_; (focus (rw [HV.out]; rfl; done)); (focus (exact EX; done)))
        · have HS := Lib.hid hs
          have HE2 := Lib.hid (tree_step HF.out HG.out HE.out (Pf.same_iff.1 hs))
          rw [hs] at hq
          clear hs
          go_wp2
          go_quiet (fail)
          go_wp2
          go_roundw
          case rel => exact ⟨k + 1, by omega, rfl, HE2, Lib.hid ⟨_, rfl⟩⟩
          case measure => simp [intOf]; omega
      · have hkn : k = n := by omega
        subst hkn
        have HV : Hid (decide (l1 = l2) = true) := Lib.hid (decide_eq_true (by
          have := HE.out
          rwa [List.take_of_length_le (by rw [HN.out]; exact Nat.le_refl _), List.take_of_length_le (by rw [HM.out]; exact Nat.le_refl _)] at this))
        go_wp2
        (go_ret; refine Ret.mk ?_ ?_; (focus (rw [HV.out]; rfl; done)); (focus (exact EX; done)))

namespace Tr
/-- How many bytes a tree holds. -/
def bulk : List Pf → Nat
  | [] => 0
  | f :: r => f.data.size + f.path.size + bulk r
theorem bulk_app (a b : List Pf) : bulk (a ++ b) = bulk a + bulk b := by
  induction a with
  | nil => simp [bulk]
  | cons f a ih => rw [List.cons_append, bulk, bulk, ih]; omega
theorem bulk_take {l : List Pf} {k : Nat} {f : Pf} (h : l[k]? = some f) : bulk (l.take (k + 1)) = bulk (l.take k) + f.data.size + f.path.size := by
  rw [take_at h, bulk_app]
  simp [bulk]
  omega
theorem bulk_le {l : List Pf} {b : Nat} (h : ∀ f ∈ l, f.path.size ≤ b ∧ f.data.size ≤ b) : bulk l ≤ l.length * (2 * b) := by
  induction l with
  | nil => simp [bulk]
  | cons f l ih =>
    have h1 := ih fun g hg => h g (List.mem_cons_of_mem _ hg)
    have h2 := h f (List.mem_cons_self ..)
    rw [bulk, List.length_cons, Nat.add_mul]
    omega
/-- Larger than the statements look at. -/
def great (l : List Pf) : Bool := decide (12 < l.length) || decide (4000 < bulk l)
end Tr

set_option maxHeartbeats 4000000 in
set_option maxRecDepth 100000 in
theorem greattree_any (A : Option Addr) (n c : Nat) (l : List Pf) (w : World) (h : Trs w A l) (hn : l.length = n) (hb : n ≤ 1000000000000000) (hz : ∀ f ∈ l, f.path.size ≤ 140737488355328 ∧ f.data.size ≤ 140737488355328) :
    Calls Tryz.prog 28 #[.slice A n c] w (Ret (.bool (Tr.great l)) w) := by
  have HQ := Lib.hid h
  have HN := Lib.hid hn
  have HZ := Lib.hid hz
  clear h hn hz
  by_cases h12 : 12 < n
  · have HV : Hid (Tr.great l = true) := Lib.hid (by unfold Tr.great; rw [HN.out, decide_eq_true h12, Bool.true_or])
    rw [HV.out]
    go_enter Tryz.func28, Tryz.ntmps28
    have hx := Ext.refl w
    go_wp2
    go_loopw [3, 4] (fun x i wr => ∃ (k : Nat) (z : Int), k ≤ n ∧ i = .int .i64 k ∧ x = .int .i64 z ∧ Hid (∃ q, wr = w.drewN q)) (fun x i wr => n - (intOf i).toNat)
    case atStart => exact ⟨0, 0, Nat.zero_le _, rfl, rfl, Lib.hid ⟨0, rfl⟩⟩
    case round =>
      obtain ⟨k, z, hk, rfl, rfl, HW⟩ := hrel
      obtain ⟨q, rfl⟩ := HW.out
      have hx : Ext w (w.drewN q) := EX
      by_cases hlt : k < n
      · have hk1 : k < l.length := by rw [HN.out]; exact hlt
        have hf : l[k]? = some (l[k]'hk1) := List.getElem?_eq_getElem hk1
        generalize l[k]'hk1 = f at hf
        obtain ⟨b, o, rfl, hbl, c0, c1, c2, c3⟩ := HQ.out.get hf
        clear hf hk1
        go_wp2
        go_quiet (fail)
        go_wp2
        go_roundw
        case rel => exact ⟨k + 1, _, by omega, rfl, rfl, Lib.hid ⟨_, rfl⟩⟩
        case measure => simp [intOf]; omega
      · have hkn : k = n := by omega
        subst hkn
        go_wp2
        (go_ret; refine Ret.mk ?_ ?_; (focus (rfl; done)); (focus (exact EX; done)))
  · have hB : Tr.bulk l ≤ 12 * (2 * 140737488355328) := by
      have h1 := Tr.bulk_le HZ.out
      have h2 : l.length * (2 * 140737488355328) ≤ 12 * (2 * 140737488355328) := Nat.mul_le_mul_right _ (by rw [HN.out]; omega)
      exact Nat.le_trans h1 h2
    have hT : ∀ k, Tr.bulk (l.take k) ≤ 12 * (2 * 140737488355328) := fun k => by
      have h1 : Tr.bulk l = Tr.bulk (l.take k) + Tr.bulk (l.drop k) := by rw [← Tr.bulk_app, List.take_append_drop]
      omega
    have HT := Lib.hid hT
    have HV : Hid (Tr.great l = decide (4000 < Tr.bulk l)) := Lib.hid (by unfold Tr.great; rw [HN.out, decide_eq_false h12, Bool.false_or])
    rw [HV.out]
    have h12' : n ≤ 12 := by omega
    have HB := Lib.hid hB
    clear hT hB h12
    go_enter Tryz.func28, Tryz.ntmps28
    have hx := Ext.refl w
    go_wp2
    go_loopw [3, 4] (fun x i wr => ∃ k : Nat, k ≤ n ∧ i = .int .i64 k ∧ x = .int .i64 (Tr.bulk (l.take k)) ∧ Hid (∃ q, wr = w.drewN q)) (fun x i wr => n - (intOf i).toNat)
    case atStart => exact ⟨0, Nat.zero_le _, rfl, rfl, Lib.hid ⟨0, rfl⟩⟩
    case round =>
      obtain ⟨k, hk, rfl, rfl, HW⟩ := hrel
      obtain ⟨q, rfl⟩ := HW.out
      have hx : Ext w (w.drewN q) := EX
      by_cases hlt : k < n
      · have hk1 : k < l.length := by rw [HN.out]; exact hlt
        have hf : l[k]? = some (l[k]'hk1) := List.getElem?_eq_getElem hk1
        obtain ⟨z1, z2⟩ := HZ.out _ (List.getElem_mem hk1)
        generalize l[k]'hk1 = f at hf z1 z2
        obtain ⟨b, o, rfl, hbl, c0, c1, c2, c3⟩ := HQ.out.get hf
        have HX : Hid (((Tr.bulk (l.take k) : Int) + f.data.size + f.path.size) = (Tr.bulk (l.take (k + 1)) : Nat)) := Lib.hid (by rw [Tr.bulk_take hf]; omega)
        have ht := HT.out k
        generalize Tr.bulk (l.take k) = S at ht HX
        have y1 : IntKind.i64.wrap ((S : Int) + f.data.size) = (S : Int) + f.data.size := IntWalk.i64_in _ (by omega)
        have y2 : IntKind.i64.wrap ((S : Int) + f.data.size + f.path.size) = (S : Int) + f.data.size + f.path.size := IntWalk.i64_in _ (by omega)
        clear hf hk1
        go_wp2
        go_quiet (fail)
        clear y1 y2
        go_wp2
        go_roundw
        case rel => exact ⟨k + 1, by omega, rfl, congrArg (Value.int .i64) HX.out, Lib.hid ⟨_, rfl⟩⟩
        case measure => simp [intOf]; omega
      · have hkn : k = n := by omega
        subst hkn
        have hB := HB.out
        have HE : Hid (l.take k = l) := Lib.hid (List.take_of_length_le (by rw [HN.out]; exact Nat.le_refl _))
        rw [HE.out]
        obtain ⟨S, hS⟩ : ∃ S, S = Tr.bulk l := ⟨_, rfl⟩
        rw [← hS] at hB ⊢
        have HS := Lib.hid hS
        have hk12 : ¬ (12 : Int) < (k : Int) := by omega
        clear hS
        go_wp2
        all_goals (go_ret; refine Ret.mk ?_ ?_; (focus (rw [← HS.out]; simp [hk12]; omega; done)); (focus (exact EX; done)))
end Go.Proofs.YtnjcifppkijanaaGreatDoor
