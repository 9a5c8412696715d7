/- Walks: lists of lines: equal, cloned, one behind the other; a line is valid. -/
import Derived.Test.YtnjcifppkijanaaGreatDoorBase
import Derived.Test.YtnjcifppkijanaaGreatDoorShelf
import Derived.Lib.AppendZerosOnto
import Derived.Laws.AppendOwnNone
import Derived.OwnWalk
set_option linter.unusedSimpArgs false
set_option linter.unusedVariables false
namespace Go.Proofs.YtnjcifppkijanaaGreatDoor
open Go.RowKit

/-- A slice of strings that reads as l; nil has no room. -/
def Sl (w : World) (A : Option Addr) (n c : Nat) (l : List ByteArray) : Prop := Lst w A n l ∧ (A = none → n = 0 ∧ c = 0)
theorem Sl.ext {w w' : World} {A : Option Addr} {n c : Nat} {l : List ByteArray} (h : Sl w A n c l) (hx : Ext w w') : Sl w' A n c l := ⟨h.1.ext hx, h.2⟩
theorem Sl.len {w : World} {A : Option Addr} {n c : Nat} {l : List ByteArray} (h : Sl w A n c l) : l.length = n := h.1.1
theorem Lst.cells {w : World} {A : Option Addr} {n : Nat} {l : List ByteArray} (h : Lst w A n l) (hn : 0 < n) : ∃ b o, A = some ⟨b, o, none⟩ ∧ ∀ j, j < l.length → w.cell? ⟨b, o + j, none⟩ = some (.string (l.getD j ByteArray.empty)) := by
  obtain ⟨b, o, hA, _, hc⟩ := h.2 hn
  exact ⟨b, o, hA, fun j hj => hc j (by have := h.1; omega)⟩
theorem drewN_ext (w : World) (n : Nat) : Ext w (w.drewN n) := (Ext.refl w).drewN n

theorem sequal_any (A1 A2 : Option Addr) (n1 c1 n2 c2 : Nat) (l1 l2 : List ByteArray) (w : World) (h1 : Lst w A1 n1 l1) (h2 : Lst w A2 n2 l2) (b1 : n1 ≤ 1152921504606846976) (b2 : n2 ≤ 1152921504606846976) :
    Calls Tryz.prog 216 #[.slice A1 n1 c1, .slice A2 n2 c2] w (Ret (.bool (decide (l1 = l2))) w) := by
  have e1 := h1.1
  have e2 := h2.1
  by_cases hne : n1 = n2
  · subst hne
    by_cases h0 : n1 = 0
    · subst h0
      have z1 := List.length_eq_zero_iff.1 e1
      have z2 := List.length_eq_zero_iff.1 e2
      refine (Tryz.slices_Equal_string_empty A1 A2 c1 0 c2 w (by omega)).mono ?_
      rintro e w' ⟨rfl, rfl⟩
      exact Ret.mk (by rw [z1, z2]; simp) (Ext.refl _)
    · obtain ⟨b, o, rfl, hc1⟩ := h1.cells (by omega)
      obtain ⟨b', o', rfl, hc2⟩ := h2.cells (by omega)
      refine (Tryz.slices_Equal_string b o n1 c1 b' o' n1 c2 l1 l2 w (by omega) (by omega) (by omega) (by omega) hc1 hc2).mono ?_
      rintro e w' ⟨rfl, q, rfl⟩
      exact Ret.mk (by rw [List.take_of_length_le (by omega), List.take_of_length_le (by omega)]) (drewN_ext _ _)
  · refine (Tryz.slices_Equal_string_lens A1 A2 n1 c1 n2 c2 w hne).mono ?_
    rintro e w' ⟨rfl, rfl⟩
    refine Ret.mk ?_ (Ext.refl _)
    rw [decide_eq_false]
    intro h
    exact hne (by rw [← e1, ← e2, h])

/-- The slice lies in a block from B on. -/
def Hi (B : Nat) (A : Option Addr) : Prop := ∀ a, A = some a → B ≤ a.block
theorem Hi.le {B C : Nat} {A : Option Addr} (h : Hi B A) (hc : C ≤ B) : Hi C A := fun a ha => Nat.le_trans hc (h a ha)
theorem Sl.set {w : World} {A : Option Addr} {n c B k : Nat} {l : List ByteArray} (h : Sl w A n c l) (hi : Hi (B + 1) A) (u : Value) : Sl (w.setCell ⟨B, k, none⟩ u) A n c l := by
  refine ⟨⟨h.1.1, fun hn => ?_⟩, h.2⟩
  obtain ⟨b, o, hA, hb, hc⟩ := h.1.2 hn
  have hne : b ≠ B := by have h0 := hi _ hA; dsimp only at h0; omega
  refine ⟨b, o, hA, by simpa using hb, fun j hj => ?_⟩
  rw [← hc j hj]
  exact World.cell?_of_block (Below.heap_setCell w ⟨B, k, none⟩ u b hne)

/-- What an owned row of strings reads as. -/
theorem Sl.of_own' {w' : World} {B : Nat} {v : Value} {n : Nat} {l : List ByteArray} (h : w'.ownsRow B 9 1 v n (l.map Value.string)) : ∃ A c, v = .slice A n c ∧ Sl w' A n c l ∧ Hi B A := by
  have hl : l.length = n := by simpa using h.1
  rcases h.2 with ⟨rfl, rfl⟩ | ⟨g, cap, cur, rfl, hb, hg, hn, hcap, hcs, htk⟩
  · exact ⟨none, 0, rfl, ⟨⟨hl, fun h => by omega⟩, fun _ => ⟨rfl, rfl⟩⟩, (fun a ha => nomatch ha)⟩
  · refine ⟨some ⟨g, 0, none⟩, cap, rfl, ⟨⟨hl, fun _ => ⟨g, 0, rfl, (Array.getElem?_eq_some_iff.1 hg).1, fun j hj => ?_⟩⟩, fun h => by cases h⟩, (fun a ha => by cases ha; exact hb)⟩
    have h1 := h.cells (g := g) rfl j (.string (l.getD j ByteArray.empty)) (by simp [List.getD, List.getElem?_eq_getElem (show j < l.length by omega)])
    have ea : (⟨g, 0, none⟩ : Addr).add j = ⟨g, j, none⟩ := by unfold Addr.add; split <;> simp_all
    rw [ea] at h1
    simpa using h1
theorem Sl.of_own {w w' : World} {v : Value} {n : Nat} {l : List ByteArray} (h : w'.ownsRow w.heap.size 9 1 v n (l.map Value.string)) : ∃ A c, v = .slice A n c ∧ Sl w' A n c l := by
  obtain ⟨A, c, h1, h2, _⟩ := Sl.of_own' h
  exact ⟨A, c, h1, h2⟩
theorem info_str : (Tryz.prog.info? 9).map (fun i => (i.zero, i.size, i.bytes)) = some (some (.string ⟨#[]⟩), 1, 16) := by kernel_rfl

set_option maxHeartbeats 2000000 in
set_option maxRecDepth 100000 in
theorem grow_any (n : Nat) (w : World) (hn : n ≤ 4194304) :
    Calls Tryz.prog 218 #[.slice none 0 0, .int .i64 n] w (fun e w' => ∃ v, e = .returned v ∧ w'.ownsRow w.heap.size 9 1 v 0 [] ∧ Ext w w') := by
  obtain ⟨i0, hi, hz0, hz1, hz2⟩ := info_parts info_str
  by_cases h0 : n = 0
  · subst h0
    go_enter Tryz.func218, Tryz.ntmps218
    go_wp2
    go_ret
    exact ⟨_, rfl, ⟨rfl, .inl ⟨rfl, rfl⟩⟩, Ext.refl _⟩
  · have hrz : ∀ ty, (Builtin.append_ #[91, 3] ty #[.slice none 0 0, .int .i64 n]).run Tryz.prog w =
        .ok (.slice (some ⟨w.heap.size, 0, none⟩) n (grownCap w n 0 9)) (w.drew.alloc (.cells (#[] ++ Builtin.zeroCells #[.string ⟨#[]⟩] n ++ Builtin.zeroCells #[.string ⟨#[]⟩] (grownCap w n 0 9 - n)) 9)) := fun ty => by
      have h := Lib.run_append_grow_zeros w 91 3 ty 9 i0 (.string ⟨#[]⟩) .i64 .i64 Tryz.underlying91 Tryz.underlying3 hi hz0 none 0 0 [] (by exact run_firstCells_none w.drew i0.size 0 0 0) n (by omega) (by omega) (by omega) (by omega)
        (by rw [hz2]; omega) (by rw [hz2]; exact growslice_fits (by omega) (by omega))
      simpa [Value.cells] using h
    have hG := grownCap_ge w n 0 9
    have hG2 := grownCap_le_maxLen w n 0 9 (by unfold maxLen; omega)
    generalize grownCap w n 0 9 = G at hrz hG hG2
    unfold maxLen at hG2
    go_enter Tryz.func218, Tryz.ntmps218
    go_wp2_with (at_builtin; refine Lib.wpList_append_run _ rfl _ _ _ _ rfl _ _ rfl rfl _ _ (hrz _) ?_)
    go_ret
    refine ⟨_, rfl, ⟨rfl, .inr ⟨w.heap.size, G, _, rfl, Nat.le_refl _, heap_alloc_new _ _, Nat.zero_le _, by unfold maxLen; omega, ?_, by simp⟩⟩, (Ext.refl w).drew1.alloc _⟩
    simp [size_zeroCells]
    omega

/-- 'append' of a list that lies somewhere to a row of the call's own. -/
theorem wpList_append_sl {w : World} {ops : Array Oper} {rest : List Oper} {o : Oper} {a : Act} {Q : Exit → Act → World → Prop} (hgd : o.guard = none) (s x : Operand)
    (ho : o.op = .call { callee := .builtin .append, args := #[s, x], argTypes := #[91, 91] })
    (base : Nat) (v : Value) (n : Nat) (l0 : List ByteArray) (hs : a.eval s = v) (hown : w.ownsRow base 9 1 v n (l0.map Value.string)) (hb : base ≤ w.heap.size)
    (A : Option Addr) (m c : Nat) (l : List ByteArray) (hsl : Sl w A m c l) (hx : a.eval x = .slice A m c) (hn : n ≤ 4194304) (hm : m ≤ 4194304)
    (h : ∀ v' w', w'.ownsRow base 9 1 v' (n + m) ((l0 ++ l).map Value.string) → w.grownBy w' v.ownBlock → wpList Tryz.prog ops Q rest (a.put o.dst v') w') : wpList Tryz.prog ops Q (o :: rest) a w := by
  obtain ⟨i0, hi, hz0, hz1, hz2⟩ := info_parts info_str
  cases A with
  | none =>
    obtain ⟨rfl, rfl⟩ := hsl.2 rfl
    have z := List.length_eq_zero_iff.1 hsl.1.1
    subst z
    refine wpList_append_own_none hgd s x 91 ho base 9 i0 1 Tryz.underlying91 hi v n (l0.map Value.string) hs hown hx ?_
    rw [List.append_nil] at h
    exact h v w hown (World.grownBy.refl _ _)
  | some ad =>
    refine wpList_append_own _ hgd s x 91 ho base 9 i0 (.string ⟨#[]⟩) 1 16 Tryz.underlying91 hi hz0 hz1 hz2 rfl (by decide) v n (l0.map Value.string) hs hown ad m c (l.map Value.string) hx (by simp [hsl.1.1]) ?_ (by simp [Value.oneCell']) (by unfold maxLen; omega) (by omega) hb ?_
    · intro j u hu
      have hj := (List.getElem?_eq_some_iff.1 hu).1
      rw [List.length_map, hsl.1.1] at hj
      obtain ⟨b, o', ha, _, hc⟩ := hsl.1.2 (by omega)
      obtain rfl := Option.some.inj ha
      have ea : (⟨b, o', none⟩ : Addr).add j = ⟨b, o' + j, none⟩ := by unfold Addr.add; split <;> simp_all
      rw [ea, hc j hj]
      have hj2 : j < l.length := by have := hsl.1.1; omega
      rw [List.getElem?_map, List.getElem?_eq_getElem hj2] at hu
      simp at hu
      simp [List.getD, List.getElem?_eq_getElem hj2, hu]
    · intro v' w' h1 h2 _
      exact h v' w' (by rw [List.map_append]; exact h1) h2

theorem grownBy_ext {w w' : World} {b : Option Nat} (h : w.grownBy w' b) (W : World) (hW : Ext W w) (hb : ∀ g, b = some g → W.heap.size ≤ g) : Ext W w' := by
  refine ⟨h.os.trans hW.os, h.tape.trans hW.tape, h.output.trans hW.output, Nat.le_trans hW.size_le h.size, fun k hk => ?_⟩
  refine (h.block k (Nat.lt_of_lt_of_le hk hW.size_le) ?_).trans (hW.block k hk)
  intro e
  have := hb k e.symm
  omega

set_option maxHeartbeats 2000000 in
set_option maxRecDepth 100000 in
theorem concat_any (bX : Nat) (A1 A2 : Option Addr) (n1 c1 n2 c2 : Nat) (l1 l2 : List ByteArray) (w : World) (hbX : Blk w bX 91 #[.slice A1 n1 c1, .slice A2 n2 c2]) (h1 : Sl w A1 n1 c1 l1) (h2 : Sl w A2 n2 c2 l2) (b1 : n1 ≤ 4194304) (b2 : n2 ≤ 2097152) (b3 : n1 ≤ 2097152) :
    Calls Tryz.prog 214 #[.slice (some ⟨bX, 0, none⟩) 2 2] w (fun e w' => ∃ A c, e = .returned (.slice A (n1 + n2 : Nat) c) ∧ Sl w' A (n1 + n2) c (l1 ++ l2) ∧ Ext w w') := by
  obtain ⟨hcX, hfX, hlX⟩ := hbX.all
  go_enter Tryz.func214, Tryz.ntmps214
  have hx := Ext.refl w
  go_wp2
  refine wp_loop_rounds 3 ?_
  rw [rounds_succ]
  go_wp2
  rw [rounds_succ]
  go_wp2
  rw [rounds_succ]
  go_wp2_with fail
  rw [show ((n1 : Int) + (n2 : Int)) = ((n1 + n2 : Nat) : Int) from by omega]
  refine (grow_any (n1 + n2) _ (by omega)).mono ?_
  rintro e w1 ⟨v, rfl, hown, hx0⟩
  have hs1 := h1.ext hx0
  have hs2 := h2.ext hx0
  have hbY := hbX.ext hx0
  have hz := hx0.size_le
  have Hx := Lib.hid hx0
  have H2 := Lib.hid h2
  have HbX := Lib.hid hbX
  clear hx hx0 h1 h2 hcX hfX hlX hbX
  obtain ⟨hcX, hfX, hlX⟩ := hbY.all
  go_wp2_with fail
  refine wp_loop_rounds 3 ?_
  rw [rounds_succ]
  go_wp2_with (at_builtin; refine wpList_append_sl rfl _ _ rfl w.heap.size v 0 [] rfl hown hz A1 n1 c1 l1 hs1 rfl (by omega) (by omega) ?_; intro v2 w2 hown2 hg2)
  have hx2 := grownBy_ext hg2 w Hx.out (fun g hg => (hown.lt g hg).1)
  rw [Nat.zero_add, List.nil_append] at hown2
  have hs2 := H2.out.ext hx2
  have hbY := HbX.out.ext hx2
  have hz := hx2.size_le
  have Hx2 := Lib.hid hx2
  clear hx2 hcX hfX hlX hg2 Hx
  obtain ⟨hcX, hfX, hlX⟩ := hbY.all
  rw [rounds_succ]
  go_wp2_with (at_builtin; refine wpList_append_sl rfl _ _ rfl w.heap.size v2 n1 l1 rfl hown2 hz A2 n2 c2 l2 hs2 rfl (by omega) (by omega) ?_; intro v3 w3 hown3 hg3)
  rw [rounds_succ]
  go_wp2
  go_ret
  obtain ⟨A, c, rfl, hs3⟩ := Sl.of_own hown3
  exact ⟨A, c, rfl, hs3, grownBy_ext hg3 w Hx2.out (fun g hg => (hown2.lt g hg).1)⟩

set_option maxHeartbeats 1000000 in
theorem lineValid_same (s : ByteArray) (w : World) : Calls Tryz.prog 215 #[.string s] w (fun e w' => e = .returned (.bool (Qm.validLine s)) ∧ w = w') := by
  go_enter Tryz.func215, Tryz.ntmps215
  go_wp2_with (go_at_call 151; refine (Tryz.strings_IndexByte _ _ _).mono ?_; rintro e w1 ⟨rfl, rfl⟩)
  all_goals (go_ret; refine ⟨congrArg (fun b => Ending.returned (Value.bool b)) ?_, rfl⟩; unfold Qm.validLine; first | (rw [decide_eq_true (by omega : s.size ≤ 1000), decide_eq_true (by assumption : Lib.indexByte s.data.toList 10 < 0)]; rfl) | (rw [decide_eq_true (by omega : s.size ≤ 1000), decide_eq_false (by omega : ¬ Lib.indexByte s.data.toList 10 < 0)]; rfl) | (rw [decide_eq_false (by omega : ¬ s.size ≤ 1000)]; rfl))
end Go.Proofs.YtnjcifppkijanaaGreatDoor
