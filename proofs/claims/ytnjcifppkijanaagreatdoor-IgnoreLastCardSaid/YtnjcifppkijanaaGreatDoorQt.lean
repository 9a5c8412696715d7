/- Walks: plain trees: room; a list of files cloned, written, sorted. Walks: the reference's plain trees: Find, SameTree, GreatTree. Walks: the reference's parent of a path. Walks: the reference's plain trees: file, home, CheckTree. -/
import Derived.Test.YtnjcifppkijanaaGreatDoorTd
import Derived.Test.YtnjcifppkijanaaGreatDoorTc
import Derived.Laws.StructEq
import Derived.Deep.QuietTactic
import Derived.BigQuiet
import Derived.Test.YtnjcifppkijanaaGreatDoorE
import Derived.Test.YtnjcifppkijanaaGreatDoorYj
set_option linter.unusedSimpArgs false
set_option linter.unusedVariables false
namespace Go.Proofs.YtnjcifppkijanaaGreatDoor
open Go Go.RowKit

theorem found_some {l : List Pf} {s : ByteArray} {f : Pf} (h : Tr.find l s = some f) : Tr.found l s = .tuple #[f.v, .bool true] := by
  unfold Tr.found
  rw [h]
  rfl
theorem found_none {l : List Pf} {s : ByteArray} (h : Tr.find l s = none) : Tr.found l s = .tuple #[Pf.zero.v, .bool false] := by
  unfold Tr.found
  rw [h]
  rfl

/-! ### A list of files that owns its block -/
end Go.Proofs.YtnjcifppkijanaaGreatDoor
namespace Go.Proofs.YtnjcifppkijanaaGreatDoor
open Go Go.RowKit

theorem find_step {l : List Pf} {s : ByteArray} {k : Nat} {f : Pf} (hk : l[k]? = some f) (h : ∀ (j : Nat) (g : Pf), j < k → l[j]? = some g → Qm.eqB g.path s = false) (he : Qm.eqB f.path s = false) : ∀ (j : Nat) (g : Pf), j < k + 1 → l[j]? = some g → Qm.eqB g.path s = false := fun j g hj hg => by
  rcases Nat.lt_succ_iff_lt_or_eq.1 hj with h1 | rfl
  · exact h j g h1 hg
  · rw [hk] at hg
    obtain rfl := Option.some.inj hg
    exact he
theorem find_end {l : List Pf} {s : ByteArray} (h : ∀ (j : Nat) (g : Pf), j < l.length → l[j]? = some g → Qm.eqB g.path s = false) : Tr.find l s = none :=
  Tr.find_none_iff.2 fun f hf => by
    obtain ⟨j, hj, e⟩ := List.mem_iff_getElem.1 hf
    exact h j f hj (by rw [List.getElem?_eq_getElem hj, e])

set_option maxHeartbeats 4000000 in
theorem rtfind_any (A : Option Addr) (n c : Nat) (s : ByteArray) (l : List Pf) (w : World) (h : Trs w A l) (hn : l.length = n) (hb : n ≤ 10000000000000) :
    Calls Tryz.prog 106 #[.slice A n c, .string s] w (Ret (Tr.found l s) w) := by
  have HQ := Lib.hid h
  have HN := Lib.hid hn
  clear h hn
  go_enter Tryz.func106, Tryz.ntmps106
  have hx := Ext.refl w
  go_wp2
  go_loop [6] (fun i => ∃ k : Nat, k ≤ n ∧ i = .int .i64 k ∧ Hid (∀ (j : Nat) (g : Pf), j < k → l[j]? = some g → Qm.eqB g.path s = false)) (fun i => n - (intOf i).toNat)
  case atStart => exact ⟨0, Nat.zero_le _, rfl, Lib.hid (fun j g hj => absurd hj (Nat.not_lt_zero j))⟩
  case round =>
    obtain ⟨k, hk, rfl, HB⟩ := hrel
    by_cases hlt : k < n
    · have hkl : k < l.length := by rw [HN.out]; exact hlt
      have hf : l[k]? = some (l[k]'hkl) := List.getElem?_eq_getElem hkl
      generalize l[k]'hkl = f at hf
      obtain ⟨b, o, rfl, hbl, c0, c1, c2, c3⟩ := HQ.out.get hf
      have HF := Lib.hid hf
      clear hf hkl
      cases he : Qm.eqB f.path s
      · have he' : (f.path.toList == s.toList) = false := he
        have HB2 := Lib.hid (find_step HF.out HB.out he)
        clear he
        go_wp2
        go_round
        case rel => exact ⟨k + 1, by omega, rfl, HB2⟩
        case measure => simp [intOf]; omega
      · have he' : (f.path.toList == s.toList) = true := he
        have HM := Lib.hid (found_some (Tr.find_at HF.out HB.out he))
        clear he
        go_wp2
        refine bodyPost_ret (v := .tuple #[f.v, .bool true]) ?_ rfl ?_
        · simp only [results, Tryz.results106]
          go_simp
        · exact ⟨by rw [HM.out], EX⟩
    · have hkn : k = n := by omega
      subst hkn
      have HM := Lib.hid (found_none (find_end (l := l) (s := s) (by rw [HN.out]; exact HB.out)))
      go_wp2
      refine bodyPost_ret (v := .tuple #[Pf.zero.v, .bool false]) ?_ rfl ?_
      · simp only [results, Tryz.results106]
        go_simp
        exact ⟨rfl, rfl, rfl, rfl⟩
      · exact ⟨by rw [HM.out], EX⟩

/-- Two files compared. -/
def Pf.same (f g : Pf) : Bool := Qm.eqB f.path g.path && (f.ty == g.ty && (f.mode == g.mode && Qm.eqB f.data g.data))
theorem Pf.same_iff {f g : Pf} : f.same g = true ↔ f = g := by
  unfold Pf.same
  simp only [Bool.and_eq_true, Qm.eqB_iff, beq_iff_eq]
  cases f; cases g
  simp [Pf.mk.injEq]
instance : DecidableEq Pf := fun a b => if h : a.same b = true then isTrue (Pf.same_iff.1 h) else isFalse (fun e => h (Pf.same_iff.2 e))
theorem eqlIn_pf (f g : Pf) (w : World) : (Op.equalIn 10000 54 f.v g.v).run Tryz.prog w = .ok (f.same g) w := by
  have hS : Tryz.prog.underlying 54 = some (.struct (Tryz.prog.fieldsOf 54)) := by kernel_rfl
  have hp : Tryz.prog.stoodInHeld 54 = false := by kernel_rfl
  have u3 := Tryz.underlying3
  have a3 := Tryz.isAgg3
  have z3 := Tryz.sizeOf3
  have u9 := Tryz.underlying9
  have a9 := Tryz.isAgg9
  have z9 := Tryz.sizeOf9
  rw [show (10000 : Nat) = 9999 + 1 from rfl, run_equalIn_agg w 9999 54 _ _ hS hp]
  simp only [Program.fieldsOf, Tryz.underlying54]
  unfold Pf.same Qm.eqB
  go_simp
  by_cases h0 : f.path.toList = g.path.toList <;> by_cases h1 : f.ty = g.ty <;> by_cases h2 : f.mode = g.mode <;> by_cases h3 : f.data.toList = g.data.toList <;> simp [h0, h1, h2, h3]
theorem guard_pf (op : BinOp) (x y : Operand) (xs ys : Array Value) (w : World) : (eqGuard op 54 x y (.agg xs) (.agg ys)).run Tryz.prog w = .ok () w := run_eqGuard_agg w op _ x y xs ys (by kernel_rfl)

theorem tree_step {l m : List Pf} {k : Nat} {f g : Pf} (hf : l[k]? = some f) (hg : m[k]? = some g) (h : l.take k = m.take k) (he : f = g) : l.take (k + 1) = m.take (k + 1) := by
  rw [Tr.take_at hf, Tr.take_at hg, h, he]

set_option maxHeartbeats 4000000 in
set_option maxRecDepth 100000 in
theorem sametree_any (A B : Option Addr) (n m c d : Nat) (l1 l2 : List Pf) (w : World) (h1 : Trs w A l1) (h2 : Trs w B l2) (hn : l1.length = n) (hm : l2.length = m) (b1 : n ≤ 10000000000000) (b2 : m ≤ 10000000000000) :
    Calls Tryz.prog 32 #[.slice A n c, .slice B m d] w (Ret (.bool (decide (l1 = l2))) w) := by
  by_cases hnm : n = m
  rotate_left
  · have hv : decide (l1 = l2) = false := decide_eq_false (fun e => hnm (by rw [← hn, ← hm, e]))
    rw [hv]
    have hne : ((n : Int) != m) = true := by rw [bne_iff_ne]; omega
    clear h1 h2 hn hm hv hnm
    go_enter Tryz.func32, Tryz.ntmps32
    have hx := Ext.refl w
    go_wp2
    (go_ret; refine Ret.mk ?_ ?_; (focus (rfl; done)); (focus (exact EX; done)))
  · subst hnm
    have H1 := Lib.hid h1
    have H2 := Lib.hid h2
    have HN := Lib.hid hn
    have HM := Lib.hid hm
    clear h1 h2 hn hm
    go_enter Tryz.func32, Tryz.ntmps32
    have hx := Ext.refl w
    go_wp2
    go_loopw [5] (fun i wr => ∃ k : Nat, k ≤ n ∧ i = .int .i64 k ∧ Hid (l1.take k = l2.take k) ∧ Hid (∃ q, wr = w.drewN q)) (fun i wr => n - (intOf i).toNat)
    case atStart => exact ⟨0, Nat.zero_le _, rfl, Lib.hid rfl, Lib.hid ⟨0, rfl⟩⟩
    case round =>
      obtain ⟨k, hk, rfl, HE, HW⟩ := hrel
      obtain ⟨q, rfl⟩ := HW.out
      have hx : Ext w (w.drewN q) := EX
      by_cases hlt : k < n
      · have hk1 : k < l1.length := by rw [HN.out]; exact hlt
        have hk2 : k < l2.length := by rw [HM.out]; exact hlt
        have hf : l1[k]? = some (l1[k]'hk1) := List.getElem?_eq_getElem hk1
        have hg : l2[k]? = some (l2[k]'hk2) := List.getElem?_eq_getElem hk2
        generalize l1[k]'hk1 = f at hf
        generalize l2[k]'hk2 = g at hg
        obtain ⟨b, o, rfl, hbl, c0, c1, c2, c3⟩ := H1.out.get hf
        obtain ⟨b', o', rfl, hbl', d0, d1, d2, d3⟩ := H2.out.get hg
        have HF := Lib.hid hf
        have HG := Lib.hid hg
        have hq := eqlIn_pf f g
        have hgu := guard_pf
        clear hf hg hk1 hk2
        cases hs : f.same g
        · have HS := Lib.hid hs
          have HV : Hid (decide (l1 = l2) = false) := Lib.hid (decide_eq_false (fun e => by
            have h1 := HF.out
            rw [e, HG.out] at h1
            have h2 := Option.some.inj h1
            have h3 : f.same g = true := Pf.same_iff.2 h2.symm
            rw [HS.out] at h3
            cases h3))
          rw [hs] at hq
          clear hs
          go_wp2
          go_quiet (fail)
          go_wp2
          (go_ret; refine Ret.mk ?_ ?_; (focus (rw [HV.out]; rfl; done)); (focus (exact EX; done)))
        · have HS := Lib.hid hs
          have HE2 := Lib.hid (tree_step HF.out HG.out HE.out (Pf.same_iff.1 hs))
          rw [hs] at hq
          clear hs
          go_wp2
          go_quiet (fail)
          go_wp2
          go_roundw
          case rel => exact ⟨k + 1, by omega, rfl, HE2, Lib.hid ⟨_, rfl⟩⟩
          case measure => simp [intOf]; omega
      · have hkn : k = n := by omega
        subst hkn
        have HV : Hid (decide (l1 = l2) = true) := Lib.hid (decide_eq_true (by
          have := HE.out
          rwa [List.take_of_length_le (by rw [HN.out]; exact Nat.le_refl _), List.take_of_length_le (by rw [HM.out]; exact Nat.le_refl _)] at this))
        go_wp2
        (go_ret; refine Ret.mk ?_ ?_; (focus (rw [HV.out]; rfl; done)); (focus (exact EX; done)))

namespace Tr
/-- How many bytes a tree holds. -/
def bulk : List Pf → Nat
  | [] => 0
  | f :: r => f.data.size + f.path.size + bulk r
theorem bulk_app (a b : List Pf) : bulk (a ++ b) = bulk a + bulk b := by
  induction a with
  | nil => simp [bulk]
  | cons f a ih => rw [List.cons_append, bulk, bulk, ih]; omega
theorem bulk_take {l : List Pf} {k : Nat} {f : Pf} (h : l[k]? = some f) : bulk (l.take (k + 1)) = bulk (l.take k) + f.data.size + f.path.size := by
  rw [take_at h, bulk_app]
  simp [bulk]
  omega
theorem bulk_le {l : List Pf} {b : Nat} (h : ∀ f ∈ l, f.path.size ≤ b ∧ f.data.size ≤ b) : bulk l ≤ l.length * (2 * b) := by
  induction l with
  | nil => simp [bulk]
  | cons f l ih =>
    have h1 := ih fun g hg => h g (List.mem_cons_of_mem _ hg)
    have h2 := h f (List.mem_cons_self ..)
    rw [bulk, List.length_cons, Nat.add_mul]
    omega
/-- Larger than the statements look at. -/
def great (l : List Pf) : Bool := decide (12 < l.length) || decide (4000 < bulk l)
end Tr

set_option maxHeartbeats 4000000 in
set_option maxRecDepth 100000 in
theorem greattree_any (A : Option Addr) (n c : Nat) (l : List Pf) (w : World) (h : Trs w A l) (hn : l.length = n) (hb : n ≤ 1000000000000000) (hz : ∀ f ∈ l, f.path.size ≤ 140737488355328 ∧ f.data.size ≤ 140737488355328) :
    Calls Tryz.prog 28 #[.slice A n c] w (Ret (.bool (Tr.great l)) w) := by
  have HQ := Lib.hid h
  have HN := Lib.hid hn
  have HZ := Lib.hid hz
  clear h hn hz
  by_cases h12 : 12 < n
  · have HV : Hid (Tr.great l = true) := Lib.hid (by unfold Tr.great; rw [HN.out, decide_eq_true h12, Bool.true_or])
    rw [HV.out]
    go_enter Tryz.func28, Tryz.ntmps28
    have hx := Ext.refl w
    go_wp2
    go_loopw [3, 4] (fun x i wr => ∃ (k : Nat) (z : Int), k ≤ n ∧ i = .int .i64 k ∧ x = .int .i64 z ∧ Hid (∃ q, wr = w.drewN q)) (fun x i wr => n - (intOf i).toNat)
    case atStart => exact ⟨0, 0, Nat.zero_le _, rfl, rfl, Lib.hid ⟨0, rfl⟩⟩
    case round =>
      obtain ⟨k, z, hk, rfl, rfl, HW⟩ := hrel
      obtain ⟨q, rfl⟩ := HW.out
      have hx : Ext w (w.drewN q) := EX
      by_cases hlt : k < n
      · have hk1 : k < l.length := by rw [HN.out]; exact hlt
        have hf : l[k]? = some (l[k]'hk1) := List.getElem?_eq_getElem hk1
        generalize l[k]'hk1 = f at hf
        obtain ⟨b, o, rfl, hbl, c0, c1, c2, c3⟩ := HQ.out.get hf
        clear hf hk1
        go_wp2
        go_quiet (fail)
        go_wp2
        go_roundw
        case rel => exact ⟨k + 1, _, by omega, rfl, rfl, Lib.hid ⟨_, rfl⟩⟩
        case measure => simp [intOf]; omega
      · have hkn : k = n := by omega
        subst hkn
        go_wp2
        (go_ret; refine Ret.mk ?_ ?_; (focus (rfl; done)); (focus (exact EX; done)))
  · have hB : Tr.bulk l ≤ 12 * (2 * 140737488355328) := by
      have h1 := Tr.bulk_le HZ.out
      have h2 : l.length * (2 * 140737488355328) ≤ 12 * (2 * 140737488355328) := Nat.mul_le_mul_right _ (by rw [HN.out]; omega)
      exact Nat.le_trans h1 h2
    have hT : ∀ k, Tr.bulk (l.take k) ≤ 12 * (2 * 140737488355328) := fun k => by
      have h1 : Tr.bulk l = Tr.bulk (l.take k) + Tr.bulk (l.drop k) := by rw [← Tr.bulk_app, List.take_append_drop]
      omega
    have HT := Lib.hid hT
    have HV : Hid (Tr.great l = decide (4000 < Tr.bulk l)) := Lib.hid (by unfold Tr.great; rw [HN.out, decide_eq_false h12, Bool.false_or])
    rw [HV.out]
    have h12' : n ≤ 12 := by omega
    have HB := Lib.hid hB
    clear hT hB h12
    go_enter Tryz.func28, Tryz.ntmps28
    have hx := Ext.refl w
    go_wp2
    go_loopw [3, 4] (fun x i wr => ∃ k : Nat, k ≤ n ∧ i = .int .i64 k ∧ x = .int .i64 (Tr.bulk (l.take k)) ∧ Hid (∃ q, wr = w.drewN q)) (fun x i wr => n - (intOf i).toNat)
    case atStart => exact ⟨0, Nat.zero_le _, rfl, rfl, Lib.hid ⟨0, rfl⟩⟩
    case round =>
      obtain ⟨k, hk, rfl, rfl, HW⟩ := hrel
      obtain ⟨q, rfl⟩ := HW.out
      have hx : Ext w (w.drewN q) := EX
      by_cases hlt : k < n
      · have hk1 : k < l.length := by rw [HN.out]; exact hlt
        have hf : l[k]? = some (l[k]'hk1) := List.getElem?_eq_getElem hk1
        obtain ⟨z1, z2⟩ := HZ.out _ (List.getElem_mem hk1)
        generalize l[k]'hk1 = f at hf z1 z2
        obtain ⟨b, o, rfl, hbl, c0, c1, c2, c3⟩ := HQ.out.get hf
        have HX : Hid (((Tr.bulk (l.take k) : Int) + f.data.size + f.path.size) = (Tr.bulk (l.take (k + 1)) : Nat)) := Lib.hid (by rw [Tr.bulk_take hf]; omega)
        have ht := HT.out k
        generalize Tr.bulk (l.take k) = S at ht HX
        have y1 : IntKind.i64.wrap ((S : Int) + f.data.size) = (S : Int) + f.data.size := IntWalk.i64_in _ (by omega)
        have y2 : IntKind.i64.wrap ((S : Int) + f.data.size + f.path.size) = (S : Int) + f.data.size + f.path.size := IntWalk.i64_in _ (by omega)
        clear hf hk1
        go_wp2
        go_quiet (fail)
        clear y1 y2
        go_wp2
        go_roundw
        case rel => exact ⟨k + 1, by omega, rfl, congrArg (Value.int .i64) HX.out, Lib.hid ⟨_, rfl⟩⟩
        case measure => simp [intOf]; omega
      · have hkn : k = n := by omega
        subst hkn
        have hB := HB.out
        have HE : Hid (l.take k = l) := Lib.hid (List.take_of_length_le (by rw [HN.out]; exact Nat.le_refl _))
        rw [HE.out]
        obtain ⟨S, hS⟩ : ∃ S, S = Tr.bulk l := ⟨_, rfl⟩
        rw [← hS] at hB ⊢
        have HS := Lib.hid hS
        have hk12 : ¬ (12 : Int) < (k : Int) := by omega
        clear hS
        go_wp2
        all_goals (go_ret; refine Ret.mk ?_ ?_; (focus (rw [← HS.out]; simp [hk12]; omega; done)); (focus (exact EX; done)))
end Go.Proofs.YtnjcifppkijanaaGreatDoor

namespace Go.Proofs.YtnjcifppkijanaaGreatDoor
open Go.RowKit

theorem byte_eqb (x c : UInt8) : ((x.toNat : Int) == (c.toNat : Int)) = decide (x = c) := by
  rw [Bool.eq_iff_iff, beq_iff_eq, decide_eq_true_eq]
  constructor
  · intro h
    exact UInt8.toNat_inj.1 (Int.ofNat.inj h)
  · rintro rfl
    rfl
theorem byte_slash (x : UInt8) : ((x.toNat : Int) == 47) = decide (x = 47) := byte_eqb x 47
/-- The parent of a path. -/
def Qm.parent (s : ByteArray) : ByteArray := if Lib.lastIndexByte s 47 < 0 then ⟨#[]⟩ else s.extract 0 (Lib.lastIndexByte s 47).toNat
theorem last_none {s : ByteArray} (h : ∀ j (hj : j < s.size), s[j] ≠ 47) : Lib.lastIndexByte s 47 < 0 := by
  rcases Lib.lastIndexByte_spec s 47 with ⟨h', _⟩ | ⟨i, hi, h', hc, _⟩
  · omega
  · exfalso
    rw [getElem!_pos s.data i hi] at hc
    exact h i hi (UInt8.toNat_inj.1 (Int.ofNat.inj (show ((s[i].toNat : Nat) : Int) = ((47 : UInt8).toNat : Nat) from hc)))
theorem last_some {s : ByteArray} {k : Nat} (hk : k < s.size) (e : s[k] = 47) (h : ∀ j (hj : j < s.size), k < j → s[j] ≠ 47) : Lib.lastIndexByte s 47 = k := by
  rcases Lib.lastIndexByte_spec s 47 with ⟨_, hn⟩ | ⟨i, hi, h', hc, hn⟩
  · exfalso
    refine hn k hk ?_
    rw [getElem!_pos s.data k hk]
    show ((s[k].toNat : Nat) : Int) = 47
    rw [e]
    rfl
  · rw [h']
    rw [getElem!_pos s.data i hi] at hc
    have hc' : s[i] = 47 := UInt8.toNat_inj.1 (Int.ofNat.inj (show ((s[i].toNat : Nat) : Int) = ((47 : UInt8).toNat : Nat) from hc))
    rcases Nat.lt_trichotomy i k with hlt | hlt | hlt
    · exfalso
      refine hn k hlt hk ?_
      rw [getElem!_pos s.data k hk]
      show ((s[k].toNat : Nat) : Int) = 47
      rw [e]
      rfl
    · rw [hlt]
    · exact absurd hc' (h i hi hlt)
set_option maxHeartbeats 2000000 in
theorem rparent_same (s : ByteArray) (w : World) (hs : s.size ≤ 4611686018427387904) :
    Calls Tryz.prog 34 #[.string s] w (Same (.string (Qm.parent s)) w) := by
  have HP : Hid (Qm.parent s = if Lib.lastIndexByte s 47 < 0 then ⟨#[]⟩ else s.extract 0 (Lib.lastIndexByte s 47).toNat) := Lib.hid rfl
  generalize Qm.parent s = R at HP ⊢
  go_enter Tryz.func34, Tryz.ntmps34
  have hx := Ext.refl w
  go_wp2
  go_loop [3] (fun i => ∃ k : Nat, k ≤ s.size ∧ i = .int .i64 ((k : Int) - 1) ∧ Hid (∀ j (hj : j < s.size), k ≤ j → s[j] ≠ 47)) (fun i => (intOf i + 1).toNat)
  case atStart => exact ⟨s.size, Nat.le_refl _, rfl, Lib.hid (fun j hj h => absurd hj (by omega))⟩
  case round =>
    obtain ⟨k, hk, rfl, HA⟩ := hrel
    by_cases hz : k = 0
    · subst hz
      have HR : Hid (R = ⟨#[]⟩) := Lib.hid (by rw [HP.out, if_pos (last_none fun j hj => HA.out j hj (Nat.zero_le _))])
      clear HP HA
      go_wp2
      go_ret
      exact Same.mk (by rw [HR.out]; rfl)
    · obtain ⟨k, rfl⟩ : ∃ k', k = k' + 1 := ⟨k - 1, by omega⟩
      have hkk : ((k + 1 : Nat) : Int) - 1 = k := by omega
      rw [hkk]
      have hlt : k < s.size := by omega
      clear hz hkk
      go_wp2
      · rename_i hc _
        have hc' : s[k] = 47 := by rw [byte_slash] at hc; exact of_decide_eq_true hc
        have HR : Hid (R = s.extract 0 k) := Lib.hid (by
          have h0 := last_some hlt hc' (fun j hj h => HA.out j hj (by omega))
          rw [HP.out, h0, if_neg (by omega), Int.toNat_natCast])
        go_ret
        exact Same.mk (by rw [HR.out]; rfl)
      · rename_i hc
        have hc' : s[k] ≠ 47 := by rw [byte_slash] at hc; exact of_decide_eq_false hc
        refine ⟨⟨k, by omega, rfl, Lib.hid fun j hj h => ?_⟩, by simp [intOf]⟩
        rcases Nat.eq_or_lt_of_le h with e | e
        · subst e
          exact hc'
        · exact HA.out j hj e
theorem rparent_any (s : ByteArray) (w : World) (hs : s.size ≤ 4611686018427387904) :
    Calls Tryz.prog 34 #[.string s] w (Ret (.string (Qm.parent s)) w) :=
  (rparent_same s w hs).mono fun _ _ h => ⟨h.1, by rw [h.2]; exact Ext.refl _⟩
end Go.Proofs.YtnjcifppkijanaaGreatDoor
namespace Go.Proofs.YtnjcifppkijanaaGreatDoor
open Go Go.RowKit

theorem parent_eq (s : ByteArray) : Qm.parent s = Tr.parent s := by
  unfold Qm.parent Tr.parent
  split
  · rename_i h
    rw [show (Lib.lastIndexByte s 47).toNat = 0 by omega]
    apply Pa.L_inj
    rw [Pa.L_extract]
    rfl
  · rfl
theorem rtparent_any (s : ByteArray) (w : World) (hs : s.size ≤ 4611686018427387904) : Calls Tryz.prog 34 #[.string s] w (Ret (.string (Tr.parent s)) w) := by
  rw [← parent_eq]
  exact (rparent_same s w hs).mono fun _ _ h => ⟨h.1, by rw [h.2]; exact Ext.refl _⟩

set_option maxHeartbeats 4000000 in
theorem rfile_any (f : Pf) (w : World) : Calls Tryz.prog 77 #[f.v] w (Ret (.int .i64 (Tr.element f)) w) := by
  go_enter Tryz.func77, Tryz.ntmps77
  have hx := Ext.refl w
  go_wp2_with (first | (go_at_call 22; refine (rpath_same _ _).mono ?_; rintro e w1 ⟨rfl, rfl⟩) | (go_at_call 105; refine (rcontent_any _ _ _).mono ?_; rintro e w1 ⟨rfl, hx0⟩; have hy := Ext.trans (a := w) EX hx0; clear hx; have hx := hy; clear hy; have hn0 := BB hx0 (w.heap.size); (first | simp [↓heap_drew_at, ↓heap_drewN_at, ↓heap_alloc_at, ↓heap_set_at, ne_two, ne_three, ne_two_left, ne_three_left, ↓hb0.eq, hb0.lt, hb0.ne] at hn0 | simp [↓heap_drew_at, ↓heap_drewN_at, ↓heap_alloc_at, ↓heap_set_at, ne_two, ne_three, ne_two_left, ne_three_left] at hn0); (try clear hb0 hc0 hf0 hl0); have hb0 := Blk.mk hn0; clear hn0; obtain ⟨hc0, hf0, hl0⟩ := hb0.all; (try clear hx0)))
  all_goals (go_ret; refine Ret.mk ?_ ?_; (focus (refine congrArg (Value.int .i64) ?_; unfold Tr.element; repeat' split; all_goals first | rfl | omega | (simp_all [Qm.eqB]; done) | (simp_all [Qm.eqB]; omega); done)); (focus (exact EX; done)))

namespace Tr
def home (t : List Pf) (s : ByteArray) : Int :=
  if Qm.eqB (parent s) ⟨#[]⟩ then 0
  else match find t (parent s) with
    | none => 7
    | some f => if f.ty = 4 then 0 else 8
theorem home_iff {t : List Pf} {s : ByteArray} (hs : Srt t) : home t s = 0 ↔ isDir t (parent s) = true := by
  unfold home
  rw [isDir_iff]
  by_cases h3 : parent s = ⟨#[]⟩
  · rw [if_pos (Qm.eqB_iff.2 h3)]
    exact ⟨fun _ => .inl h3, fun _ => rfl⟩
  · rw [if_neg (fun k => h3 (Qm.eqB_iff.1 k))]
    constructor
    · intro h
      split at h
      · cases h
      · rename_i f hf
        split at h
        · exact .inr ⟨f, (hs.find.1 hf).1, by assumption, (hs.find.1 hf).2⟩
        · cases h
    · rintro (h2 | ⟨g, hg, k1, k2⟩)
      · exact (h3 h2).elim
      · rw [hs.find.2 ⟨hg, k2⟩]
        simp [k1]
theorem wrong_geq {l : List Pf} {j : Nat} {g : Pf} (h : l[j]? = some g) (f : Pf) : wrong (l.take (j + 1)) f = !lt g.path f.path := by
  rw [wrong_succ h, Bool.eq_iff_iff, Bool.or_eq_true, Qm.eqB_iff, Bool.not_eq_true']
  rcases lt_or g.path f.path with k | k | k
  · rw [k, lt_asymm k]
    simp [(lt_ne k).symm]
  · rw [k, lt_irrefl]
    simp
  · rw [k, lt_asymm k]
    simp
end Tr
theorem Trs.take {w : World} {A : Option Addr} {l : List Pf} (h : Trs w A l) (k : Nat) : Trs w A (l.take k) := fun h0 => by
  rw [List.length_take] at h0
  obtain ⟨b, o, hA, hb, hr⟩ := h (by omega)
  refine ⟨b, o, hA, hb, fun j v hv => hr j v ?_⟩
  have e : fl l = fl (l.take k) ++ fl (l.drop k) := by rw [← fl_append, List.take_append_drop]
  rw [e, List.getElem?_append_left (List.getElem?_eq_some_iff.1 hv).1, hv]

set_option maxHeartbeats 8000000 in
set_option maxRecDepth 100000 in
theorem rhome_any (A : Option Addr) (n c : Nat) (s : ByteArray) (l : List Pf) (w : World) (h : Trs w A l) (hn : l.length = n) (hb : n ≤ 10000000000000) (hs : s.size ≤ 1000000) :
    Calls Tryz.prog 78 #[.slice A n c, .string s] w (Ret (.int .i64 (Tr.home l s)) w) := by
  have HF := Lib.hid (fun u W (hW : Ext w W) => rtfind_any A n c u l W (h.ext hW) hn hb)
  have HP := Lib.hid (fun W => rtparent_any s W (by omega))
  clear h hn
  by_cases h2 : Tr.parent s = ⟨#[]⟩
  · have hv : Tr.home l s = 0 := by unfold Tr.home; rw [if_pos (Qm.eqB_iff.2 h2)]
    rw [hv]
    have H2 := Lib.hid h2
    clear h2 hv
    go_enter Tryz.func78, Tryz.ntmps78
    have hx := Ext.refl w
    go_wp2_with (go_at_call 34; refine (HP.out _).mono ?_; rintro e w1 ⟨rfl, hx0⟩; rw [H2.out]; have hy := Ext.trans (a := w) EX hx0; clear hx; have hx := hy; clear hy hx0)
    (go_ret; refine Ret.mk ?_ ?_; (focus (rfl; done)); (focus (exact EX; done)))
  · have h2' : ((Tr.parent s).toList == []) = false := by
      have := Tr.eqB_ne.2 h2
      unfold Qm.eqB at this
      rwa [show (⟨#[]⟩ : ByteArray).toList = [] from by rw [ByteArray.toList_eq]] at this
    have h2'' : (Tr.parent s).toList.isEmpty = false := by
      cases e : (Tr.parent s).toList.isEmpty
      · rfl
      · rw [List.isEmpty_iff] at e
        rw [e] at h2'
        cases h2'
    cases h3 : Tr.find l (Tr.parent s) with
    | none =>
      have hv : Tr.home l s = 7 := by unfold Tr.home; rw [if_neg (fun k => h2 (Qm.eqB_iff.1 k)), h3]
      rw [hv]
      have H3 := Lib.hid (found_none h3)
      clear h2 h3 hv
      generalize Tr.parent s = u at HP H3 h2' h2''
      go_enter Tryz.func78, Tryz.ntmps78
      have hx := Ext.refl w
      go_wp2_with (first
        | (go_at_call 106; refine (HF.out _ _ EX).mono ?_; rintro e w1 ⟨rfl, hx0⟩; rw [H3.out]; have hy := Ext.trans (a := w) EX hx0; clear hx; have hx := hy; clear hy hx0)
        | (go_at_call 34; refine (HP.out _).mono ?_; rintro e w1 ⟨rfl, hx0⟩; have hy := Ext.trans (a := w) EX hx0; clear hx; have hx := hy; clear hy hx0))
      (go_ret; refine Ret.mk ?_ ?_; (focus (rfl; done)); (focus (exact EX; done)))
    | some f =>
      have hv : Tr.home l s = if f.ty = 4 then 0 else 8 := by unfold Tr.home; rw [if_neg (fun k => h2 (Qm.eqB_iff.1 k)), h3]
      rw [hv]
      have H3 := Lib.hid (found_some h3)
      clear h2 h3 hv
      generalize Tr.parent s = u at HP H3 h2' h2''
      go_enter Tryz.func78, Tryz.ntmps78
      have hx := Ext.refl w
      go_wp2_with (first
        | (go_at_call 106; refine (HF.out _ _ EX).mono ?_; rintro e w1 ⟨rfl, hx0⟩; rw [H3.out]; have hy := Ext.trans (a := w) EX hx0; clear hx; have hx := hy; clear hy hx0)
        | (go_at_call 34; refine (HP.out _).mono ?_; rintro e w1 ⟨rfl, hx0⟩; have hy := Ext.trans (a := w) EX hx0; clear hx; have hx := hy; clear hy hx0))
      all_goals (go_ret; refine Ret.mk ?_ ?_; (focus (simp_all; done)); (focus (exact EX; done)))

theorem take_full {l : List Pf} {n k : Nat} (hn : l.length = n) (hk : k ≤ n) : (l.take k).length = k := by
  rw [List.length_take, hn]
  omega
theorem home_bool {t : List Pf} {s : ByteArray} (hs : Tr.Srt t) : (Tr.home t s != 0) = !Tr.isDir t (Tr.parent s) := by
  cases h : Tr.isDir t (Tr.parent s)
  · have : Tr.home t s ≠ 0 := fun k => by
      rw [(Tr.home_iff hs).1 k] at h
      cases h
    simpa using this
  · rw [(Tr.home_iff hs).2 h]
    rfl

set_option maxHeartbeats 16000000 in
set_option maxRecDepth 100000 in
theorem rchecktree_any (A : Option Addr) (n c : Nat) (l : List Pf) (w : World) (h : Trs w A l) (hn : l.length = n) (hb : n ≤ 10000000000000) (hcap : n ≤ c) :
    Calls Tryz.prog 57 #[.slice A n c] w (Ret (.int .i64 (Tr.checkTree l)) w) := by
  by_cases h200 : 200 < n
  · have hv : Tr.checkTree l = 4 := by unfold Tr.checkTree; rw [if_pos (by omega)]
    rw [hv]
    clear h hn hv
    go_enter Tryz.func57, Tryz.ntmps57
    have hx := Ext.refl w
    go_wp2
    (go_ret; refine Ret.mk ?_ ?_; (focus (rfl; done)); (focus (exact EX; done)))
  have hv : Tr.checkTree l = Tr.checkFrom (l.take 0) (l.drop 0) := by unfold Tr.checkTree; rw [if_neg (by omega)]; rfl
  rw [hv]
  clear hv
  have HQ := Lib.hid h
  have HN := Lib.hid hn
  clear h hn
  go_enter Tryz.func57, Tryz.ntmps57
  have hx := Ext.refl w
  go_wp2
  have HX0 := Lib.hid hx
  clear hx
  go_loopw [3] (fun i wr => ∃ k : Nat, k ≤ n ∧ i = .int .i64 k ∧ Hid (Ext w wr) ∧ Hid (Tr.Srt (l.take k)) ∧ Hid (Tr.checkFrom (l.take k) (l.drop k) = Tr.checkFrom (l.take 0) (l.drop 0))) (fun i wr => n - (intOf i).toNat)
  case atStart => exact ⟨0, Nat.zero_le _, rfl, HX0, Lib.hid Tr.Srt.nil, Lib.hid rfl⟩
  case round =>
    clear HX0
    obtain ⟨k, hk, rfl, HX, HT, HC⟩ := hrel
    have hx := HX.out
    by_cases hlt : k < n
    · have hkl : k < l.length := by rw [HN.out]; exact hlt
      have hf : l[k]? = some (l[k]'hkl) := List.getElem?_eq_getElem hkl
      generalize l[k]'hkl = f at hf
      obtain ⟨b, o, rfl, hbl, c0, c1, c2, c3⟩ := (HQ.out.ext hx).get hf
      have HF := Lib.hid hf
      clear hf hkl
      by_cases he : Tr.element f = 0
      · have HE := Lib.hid he
        have hs : f.path.size ≤ 200 := by
          have := Tr.element_path he
          rw [isPath_pieces, Bool.and_eq_true] at this
          exact of_decide_eq_true this.1
        have HH := Lib.hid (fun W (hW : Ext w W) => rhome_any (some ⟨b, o, none⟩) k c f.path (l.take k) W ((HQ.out.ext hW).take k) (take_full HN.out hk) (by omega) (by omega))
        have hst : ∃ v : Bool, v = Tr.wrong (l.take k) f ∧ (k = 0 ∨ (0 < k ∧ ∃ g : Pf, Hid (l[k - 1]? = some g) ∧ wr.cell? ⟨b, o + (k - 1) * 4, none⟩ = some (.string g.path) ∧ Op.bytesLess g.path.toList f.path.toList = !v)) := by
          refine ⟨_, rfl, ?_⟩
          rcases k with _ | j
          · exact .inl rfl
          · have hj : j < l.length := by rw [HN.out]; omega
            have hg : l[j]? = some (l[j]'hj) := List.getElem?_eq_getElem hj
            obtain ⟨b', o', e', _, d0, _⟩ := (HQ.out.ext HX.out).get hg
            cases e'
            refine .inr ⟨Nat.succ_pos _, _, Lib.hid hg, d0, ?_⟩
            rw [Tr.wrong_geq hg, Bool.not_not]
            rfl
        obtain ⟨v, hv, hst⟩ := hst
        have HV := Lib.hid hv.symm
        have HT2 : Hid (v = false → Tr.Srt (l.take (k + 1))) := Lib.hid (fun e => by
          rw [Tr.take_at HF.out]
          exact (Tr.wrong_iff HT.out).1 (HV.out.trans e))
        clear hv he hs
        have hcut : ∃ d : Bool, d = Tr.isDir (l.take k) (Tr.parent f.path) := ⟨_, rfl⟩
        obtain ⟨dd, hdd⟩ := hcut
        have hdn : (Tr.home (l.take k) f.path != 0) = !dd := by rw [hdd]; exact home_bool HT.out
        have HD := Lib.hid hdd.symm
        have HO : Hid (v = false → dd = true → Tr.checkFrom (l.take (k + 1)) (l.drop (k + 1)) = Tr.checkFrom (l.take 0) (l.drop 0)) := Lib.hid (fun e1 e2 => by rw [Tr.from_on HF.out HE.out (HV.out.trans e1) (HD.out.trans e2), HC.out])
        clear hdd
        generalize Tr.home (l.take k) f.path = r at HH hdn
        rcases hst with rfl | ⟨hk0, g, HGl, d0, hle⟩
        · have hv0 : v = false := by rw [← HV.out]; rfl
          subst hv0
          simp only [Nat.zero_mul, Nat.add_zero] at c0 c1 c2 c3
          cases dd
          · go_wp2_with (go_at_call 77; refine (rfile_any f _).mono ?_; rintro e w1 ⟨rfl, hx0⟩; rw [HE.out]; have hy := Ext.trans (a := w) EX hx0; clear hx; have hx := hy; clear hy; have HQ1 := Lib.hid hx0; obtain ⟨hcc, hff⟩ := bcell hx0; have hzz := hx0.size_le; have hbl1 := Nat.lt_of_lt_of_le hbl hzz; clear hx0)
            go_quiet (fail)
            have HC0 := Lib.hid (fun W (hW : Ext (w1.drewN nq) W) => (hW.cell (p := ⟨b, o, none⟩) (by simpa using hbl1)).trans ((HQ1.out.cell (p := ⟨b, o, none⟩) hbl).trans c0))
            have HC1 := HC0
            have hx2 := Ext.drewN hx nq
            clear hx
            go_wp2_with fail
            refine wp_region_ext (by kernel_rfl) (by kernel_rfl) ?_
            repeat (first | go_big_quiet_skip | (go_big_quiet_want; first | (go_big_quiet_op; go_big_quiet_on) | (apply quiet_at; intro W hW; have hc0 := HC0.out W hW; have hc1 := HC1.out W hW; go_simp; (first | exact rfl | (simp only [Oper.quietUpon, true_and]; first | exact rfl | (go_at_call 78; exact quiet_call hW (HH.out _ (hx2.trans hW)) (fun _ _ h => Ret.bcell h))) | (go_at_call 78; exact quiet_call hW (HH.out _ (hx2.trans hW)) (fun _ _ h => Ret.bcell h))); go_big_quiet_on; simp only [Act.put, sA, s0, sS])))
            refine wpQuiet_nil ?_
            intro w9 hx9
            have hx := hx2.trans hx9
            clear hx2 hx9 HC0 HC1
            go_wp2_with fail
            (go_ret; refine Ret.mk ?_ ?_; (focus (rw [Tr.from_none HF.out HE.out HV.out HD.out]; rfl; done)); (focus (exact EX; done)))
          · go_wp2_with (go_at_call 77; refine (rfile_any f _).mono ?_; rintro e w1 ⟨rfl, hx0⟩; rw [HE.out]; have hy := Ext.trans (a := w) EX hx0; clear hx; have hx := hy; clear hy; have HQ1 := Lib.hid hx0; obtain ⟨hcc, hff⟩ := bcell hx0; have hzz := hx0.size_le; have hbl1 := Nat.lt_of_lt_of_le hbl hzz; clear hx0)
            go_quiet (fail)
            have HC0 := Lib.hid (fun W (hW : Ext (w1.drewN nq) W) => (hW.cell (p := ⟨b, o, none⟩) (by simpa using hbl1)).trans ((HQ1.out.cell (p := ⟨b, o, none⟩) hbl).trans c0))
            have HC1 := HC0
            have hx2 := Ext.drewN hx nq
            clear hx
            go_wp2_with fail
            refine wp_region_ext (by kernel_rfl) (by kernel_rfl) ?_
            repeat (first | go_big_quiet_skip | (go_big_quiet_want; first | (go_big_quiet_op; go_big_quiet_on) | (apply quiet_at; intro W hW; have hc0 := HC0.out W hW; have hc1 := HC1.out W hW; go_simp; (first | exact rfl | (simp only [Oper.quietUpon, true_and]; first | exact rfl | (go_at_call 78; exact quiet_call hW (HH.out _ (hx2.trans hW)) (fun _ _ h => Ret.bcell h))) | (go_at_call 78; exact quiet_call hW (HH.out _ (hx2.trans hW)) (fun _ _ h => Ret.bcell h))); go_big_quiet_on; simp only [Act.put, sA, s0, sS])))
            refine wpQuiet_nil ?_
            intro w9 hx9
            have hx := hx2.trans hx9
            clear hx2 hx9 HC0 HC1
            go_wp2_with fail
            go_roundw
            case rel => exact ⟨0 + 1, by omega, rfl, Lib.hid hx, Lib.hid (HT2.out (by trivial)), Lib.hid (HO.out (by trivial) (by trivial))⟩
            case measure => simp [intOf]; omega
        · have y1 : IntKind.i64.wrap ((k : Int) - 1) = (k : Int) - 1 := IntWalk.i64_in _ (by omega)
          have y2 : (0 : Int) ≤ (k : Int) - 1 := by omega
          have y3 : ((k : Int) - 1).toNat = k - 1 := by omega
          have y4 : ((k : Int) - 1) < n := by omega
          have y5 : (0 : Int) < k := by omega
          have y6 : (k : Int) ≤ c := by omega
          have y7 : k ≤ c := by omega
          cases v
          · cases dd
            · go_wp2_with (go_at_call 77; refine (rfile_any f _).mono ?_; rintro e w1 ⟨rfl, hx0⟩; rw [HE.out]; have hy := Ext.trans (a := w) EX hx0; clear hx; have hx := hy; clear hy; have HQ1 := Lib.hid hx0; obtain ⟨hcc, hff⟩ := bcell hx0; have hzz := hx0.size_le; have hbl1 := Nat.lt_of_lt_of_le hbl hzz; clear hx0)
              go_quiet (fail)
              have HC0 := Lib.hid (fun W (hW : Ext (w1.drewN nq) W) => (hW.cell (p := ⟨b, o + k * 4, none⟩) (by simpa using hbl1)).trans ((HQ1.out.cell (p := ⟨b, o + k * 4, none⟩) hbl).trans c0))
              have HC1 := HC0
              have hx2 := Ext.drewN hx nq
              clear hx
              go_wp2_with fail
              refine wp_region_ext (by kernel_rfl) (by kernel_rfl) ?_
              repeat (first | go_big_quiet_skip | (go_big_quiet_want; first | (go_big_quiet_op; go_big_quiet_on) | (apply quiet_at; intro W hW; have hc0 := HC0.out W hW; have hc1 := HC1.out W hW; go_simp; (first | exact rfl | (simp only [Oper.quietUpon, true_and]; first | exact rfl | (go_at_call 78; exact quiet_call hW (HH.out _ (hx2.trans hW)) (fun _ _ h => Ret.bcell h))) | (go_at_call 78; exact quiet_call hW (HH.out _ (hx2.trans hW)) (fun _ _ h => Ret.bcell h))); go_big_quiet_on; simp only [Act.put, sA, s0, sS])))
              refine wpQuiet_nil ?_
              intro w9 hx9
              have hx := hx2.trans hx9
              clear hx2 hx9 HC0 HC1
              go_wp2_with fail
              (go_ret; refine Ret.mk ?_ ?_; (focus (rw [← HC.out, Tr.from_none HF.out HE.out HV.out HD.out]; rfl; done)); (focus (exact EX; done)))
            · go_wp2_with (go_at_call 77; refine (rfile_any f _).mono ?_; rintro e w1 ⟨rfl, hx0⟩; rw [HE.out]; have hy := Ext.trans (a := w) EX hx0; clear hx; have hx := hy; clear hy; have HQ1 := Lib.hid hx0; obtain ⟨hcc, hff⟩ := bcell hx0; have hzz := hx0.size_le; have hbl1 := Nat.lt_of_lt_of_le hbl hzz; clear hx0)
              go_quiet (fail)
              have HC0 := Lib.hid (fun W (hW : Ext (w1.drewN nq) W) => (hW.cell (p := ⟨b, o + k * 4, none⟩) (by simpa using hbl1)).trans ((HQ1.out.cell (p := ⟨b, o + k * 4, none⟩) hbl).trans c0))
              have HC1 := HC0
              have hx2 := Ext.drewN hx nq
              clear hx
              go_wp2_with fail
              refine wp_region_ext (by kernel_rfl) (by kernel_rfl) ?_
              repeat (first | go_big_quiet_skip | (go_big_quiet_want; first | (go_big_quiet_op; go_big_quiet_on) | (apply quiet_at; intro W hW; have hc0 := HC0.out W hW; have hc1 := HC1.out W hW; go_simp; (first | exact rfl | (simp only [Oper.quietUpon, true_and]; first | exact rfl | (go_at_call 78; exact quiet_call hW (HH.out _ (hx2.trans hW)) (fun _ _ h => Ret.bcell h))) | (go_at_call 78; exact quiet_call hW (HH.out _ (hx2.trans hW)) (fun _ _ h => Ret.bcell h))); go_big_quiet_on; simp only [Act.put, sA, s0, sS])))
              refine wpQuiet_nil ?_
              intro w9 hx9
              have hx := hx2.trans hx9
              clear hx2 hx9 HC0 HC1
              go_wp2_with fail
              go_roundw
              case rel => exact ⟨k + 1, by omega, rfl, Lib.hid hx, Lib.hid (HT2.out (by trivial)), Lib.hid (HO.out (by trivial) (by trivial))⟩
              case measure => simp [intOf]; omega
          · go_wp2_with (go_at_call 77; refine (rfile_any f _).mono ?_; rintro e w1 ⟨rfl, hx0⟩; rw [HE.out]; have hy := Ext.trans (a := w) EX hx0; clear hx; have hx := hy; clear hy; have HQ1 := Lib.hid hx0; obtain ⟨hcc, hff⟩ := bcell hx0; have hzz := hx0.size_le; have hbl1 := Nat.lt_of_lt_of_le hbl hzz; clear hx0)
            go_quiet (fail)
            go_wp2
            (go_ret; refine Ret.mk ?_ ?_; (focus (rw [← HC.out, Tr.from_wrong HF.out HE.out HV.out]; rfl; done)); (focus (exact EX; done)))
      · have HE := Lib.hid he
        have he2 : (Tr.element f != 0) = true := by simpa using he
        clear he
        go_wp2_with (go_at_call 77; refine (rfile_any f _).mono ?_; rintro e w1 ⟨rfl, hx0⟩; have hy := Ext.trans (a := w) EX hx0; clear hx; have hx := hy; clear hy hx0)
        (go_ret; refine Ret.mk ?_ ?_; (focus (rw [← HC.out, Tr.from_element HF.out HE.out]; rfl; done)); (focus (exact EX; done)))
    · have hkn : k = n := by omega
      subst hkn
      have HZ : Hid (Tr.checkFrom (l.take 0) (l.drop 0) = 0) := Lib.hid (by
        rw [← HC.out, List.drop_eq_nil_of_le (by rw [HN.out]; exact Nat.le_refl _)]
        rfl)
      go_wp2
      (go_ret; refine Ret.mk ?_ ?_; (focus (rw [HZ.out]; rfl; done)); (focus (exact EX; done)))
end Go.Proofs.YtnjcifppkijanaaGreatDoor
