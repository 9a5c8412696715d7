/- Walks: votes and reviews copied. -/
import Derived.Test.YtojfgidoobgcaaaGreatDoorNt
import Derived.Test.YtojfgidoobgcaaaGreatDoorSc
set_option linter.unusedSimpArgs false
set_option linter.unusedVariables false
namespace Go.Proofs.YtojfgidoobgcaaaGreatDoor
open Go Go.RowKit

section
variable {P : Program}
theorem run_append_zeroN {w : World} (base : Nat) (t ty e : TypeId) (i : TypeInfo) (size : Nat) (ht : P.underlying t = some (.slice e)) (hi : P.info? e = some i)
    (v : Value) (n : Nat) (xs : List Value) (hown : w.ownsRow base e size v n xs) (ad : Addr) (c : Nat) :
    (Builtin.append_ #[t, t] ty #[v, .slice (some ad) 0 c]).run P w = .ok v w := by
  have hf := run_firstCells_some (P := P) w i.size 0 ad 0 c [] (by simp) (by simp)
  rcases hown.2 with ⟨rfl, rfl⟩ | ⟨g, cap, cur, rfl, _, _, hnc, _⟩
  · simp [Builtin.append_, run_underlying ht, sizeOf, typeInfo, hi, Builtin.lenOf, hf]
  · simp [Builtin.append_, run_underlying ht, sizeOf, typeInfo, hi, Builtin.lenOf, hf, hnc, storeCells]
variable {ops : Array Oper} {Q : Exit → Act → World → Prop}
theorem wpList_append_zeroN {w : World} {rest : List Oper} {o : Oper} {a : Act} (hgd : o.guard = none) (s x : Operand) (t : TypeId)
    (ho : o.op = .call { callee := .builtin .append, args := #[s, x], argTypes := #[t, t] })
    (base : Nat) (e : TypeId) (i : TypeInfo) (size : Nat) (ht : P.underlying t = some (.slice e)) (hi : P.info? e = some i)
    (v : Value) (n : Nat) (xs : List Value) (hs : a.eval s = v) (hown : w.ownsRow base e size v n xs) (ad : Addr) (c : Nat) (hx : a.eval x = .slice (some ad) 0 c)
    (h : wpList P ops Q rest (a.put o.dst v) w) : wpList P ops Q (o :: rest) a w := by
  refine wpList_plain hgd fun K hK => ?_
  have hrun := run_append_zeroN (P := P) (w := w) base t o.type e i size ht hi v n xs hown ad c
  unfold Oper.wp
  simp [execOp, ho, resolve, invoke, builtin, hs, hx, hrun, Result.andThen]
  exact hK _ _ h
end
/-- A slice owns its row of structs: the row lies in w, the elements read in w0. -/
def OwnW {α : Type} (k : Nat) (R : Reads α) (t : TypeId) (w0 w : World) (base : Nat) (F : Nat → Prop) (v : Value) (l : List α) : Prop :=
  ∃ cs : List (List Value), cs.length = l.length ∧ (∀ c ∈ cs, c.length = k) ∧ w.ownsRow base t k v l.length cs.flatten ∧ ∀ (i : Nat) c x, cs[i]? = some c → l[i]? = some x → R w0 F c x
theorem Vot.one {w : World} {F : Nat → Prop} {c : List Value} {v : Vt} (h : Vot w F c v) : ∀ u ∈ c, u.oneCell' = true := by
  obtain ⟨A, n, m, rfl, _⟩ := h
  simp [Value.oneCell']
theorem Rev.one {w : World} {F : Nat → Prop} {c : List Value} {r : Rv} (h : Rev w F c r) : ∀ u ∈ c, u.oneCell' = true := by
  obtain ⟨A, n, m, B, p, q, rfl, _⟩ := h
  simp [Value.oneCell']
theorem flat_one' {α : Type} {R : Reads α} {w : World} {F : Nat → Prop} {cs : List (List Value)} {l : List α} (ho : ∀ {c x}, R w F c x → ∀ u ∈ c, Value.oneCell' u = true) (hl : cs.length = l.length) (h : ∀ (i : Nat) c x, cs[i]? = some c → l[i]? = some x → R w F c x) : ∀ u ∈ cs.flatten, u.oneCell' = true := by
  intro u hu
  obtain ⟨c, hc, huc⟩ := List.mem_flatten.1 hu
  obtain ⟨i, hi, e⟩ := List.getElem_of_mem hc
  have e1 : l[i]? = some (l[i]'(by omega)) := List.getElem?_eq_getElem _
  exact ho (h i c _ (by rw [List.getElem?_eq_getElem hi, e]) e1) u huc

theorem vclone_info : (Tryz.prog.info? 39).map (fun i => (i.size, i.bytes, i.zero.map fun z => z.cells.size)) = some (4, 64, some 4) := by kernel_rfl
set_option maxRecDepth 100000 in
theorem vclone_empty (ad : Addr) (c : Nat) (w0 w : World) {F : Nat → Prop} : Calls Tryz.prog 20 #[.slice (some ad) 0 c] w (fun e w' => ∃ v', e = .returned v' ∧ OwnW 4 Vot 39 w0 w' w.heap.size F v' [] ∧ Ext w w') := by
  obtain ⟨i0, hi⟩ : ∃ i0, Tryz.prog.info? 39 = some i0 := by
    cases hq : Tryz.prog.info? 39 with
    | none => have := vclone_info; rw [hq] at this; cases this
    | some i0 => exact ⟨i0, rfl⟩
  have hi2 := vclone_info
  rw [hi] at hi2
  simp only [Option.map_some, Option.some.injEq, Prod.mk.injEq] at hi2
  have hown : (w.alloc (.cells #[] 39)).ownsRow w.heap.size 39 4 (.slice (some ⟨w.heap.size, 0, none⟩) 0 0) 0 [] := ⟨rfl, .inr ⟨w.heap.size, 0, #[], rfl, Nat.le_refl _, (Blk.new' rfl).eq, Nat.le_refl _, Nat.zero_le _, rfl, rfl⟩⟩
  have hq22 : ∀ (w : World) (a : Option Addr) (n c n' c' : Nat), (binOp .eql 26 (.slice a n c) (.slice none n' c')).run Tryz.prog w = .ok (.bool a.isNone) w := fun w a n c n' c' => Lib.run_eql_slice_nil w _ _ a n c n' c' Tryz.underlying26
  have HOW := Lib.hid hown
  clear hown
  go_enter Tryz.func20, Tryz.ntmps20
  have hx := Ext.refl w
  go_wp2_with (at_builtin; refine wpList_append_zeroN rfl _ _ 26 rfl w.heap.size 39 i0 4 Tryz.underlying26 hi _ 0 [] rfl HOW.out ad c rfl ?_)
  go_ret
  exact ⟨_, rfl, ⟨[], rfl, by simp, HOW.out, fun i c x h => by simp at h⟩, EX⟩
theorem vclone_any (A : Option Addr) (n c : Nat) (l : List _) (w0 w : World) {F : Nat → Prop} (h : Vs w0 F A l) (hw : Ext w0 w) (hn : l.length = n) (hb : n ≤ 1000000000) :
    Calls Tryz.prog 20 #[.slice A n c] w (fun e w' => ∃ v', e = .returned v' ∧ OwnW 4 Vot 39 w0 w' w.heap.size F v' l ∧ Ext w w') := by
  obtain ⟨cs, h1, h2, h3, h4⟩ := h
  by_cases h0 : n = 0
  · subst h0
    obtain rfl : l = [] := List.length_eq_zero_iff.1 hn
    cases A with
    | none =>
      refine (AnyE.slices_Clone_nil Tryz.laysCloneV 0 c w).mono ?_
      rintro e w' ⟨rfl, rfl⟩
      exact ⟨_, rfl, ⟨[], rfl, by simp, ⟨rfl, .inl ⟨rfl, rfl⟩⟩, fun i c x h => by simp at h⟩, Ext.refl _⟩
    | some ad => exact vclone_empty ad c w0 w
  obtain ⟨b, o, rfl, _, _, _⟩ := h3 (by omega)
  · obtain ⟨i0, hi⟩ : ∃ i0, Tryz.prog.info? 39 = some i0 := by
      cases hq : Tryz.prog.info? 39 with
      | none => have := vclone_info; rw [hq] at this; cases this
      | some i0 => exact ⟨i0, rfl⟩
    have hi2 := vclone_info
    rw [hi] at hi2
    simp only [Option.map_some, Option.some.injEq, Prod.mk.injEq] at hi2
    obtain ⟨hs, hby, hz⟩ := hi2
    obtain ⟨z, hz0, hz1⟩ : ∃ z, i0.zero = some z ∧ z.cells.size = 4 := by
      cases hq : i0.zero with
      | none => rw [hq] at hz; cases hz
      | some z => rw [hq] at hz; exact ⟨z, rfl, by simpa using hz⟩
    have hsz : ∀ W, (Go.sizeOf 39).run Tryz.prog W = .ok 4 W := fun W => by kernel_rfl
    have hone := flat_one' (R := Vot) (fun h => Vot.one h) h1 h4
    refine (AnyE.slices_Clone Tryz.laysCloneV i0 z 4 64 hi hz0 hs hby hz1 (by decide) hsz b o n c cs.flatten w (by rw [flatten_len h2, h1, hn]) (by unfold maxLen; omega) (by omega) (fun j u hj => ?_) hone).mono ?_
    · rcases Nat.eq_zero_or_pos n with h0 | h0
      · have : cs = [] := List.length_eq_zero_iff.1 (by omega)
        subst this
        simp at hj
      · obtain ⟨b', o', e, hbl, _, hr⟩ := h3 (by omega)
        obtain ⟨rfl, rfl⟩ : b = b' ∧ o = o' := by simpa using e
        rw [← hr j u hj]
        exact hw.cell (p := ⟨b, _, none⟩) hbl
    · rintro e w' ⟨v', rfl, hown, _, hx⟩
      subst hn
      exact ⟨v', rfl, ⟨cs, h1, h2, hown, h4⟩, hx⟩

theorem rclone_info : (Tryz.prog.info? 28).map (fun i => (i.size, i.bytes, i.zero.map fun z => z.cells.size)) = some (6, 96, some 6) := by kernel_rfl
set_option maxRecDepth 100000 in
theorem rclone_empty (ad : Addr) (c : Nat) (w0 w : World) {F : Nat → Prop} : Calls Tryz.prog 68 #[.slice (some ad) 0 c] w (fun e w' => ∃ v', e = .returned v' ∧ OwnW 6 Rev 28 w0 w' w.heap.size F v' [] ∧ Ext w w') := by
  obtain ⟨i0, hi⟩ : ∃ i0, Tryz.prog.info? 28 = some i0 := by
    cases hq : Tryz.prog.info? 28 with
    | none => have := rclone_info; rw [hq] at this; cases this
    | some i0 => exact ⟨i0, rfl⟩
  have hi2 := rclone_info
  rw [hi] at hi2
  simp only [Option.map_some, Option.some.injEq, Prod.mk.injEq] at hi2
  have hown : (w.alloc (.cells #[] 28)).ownsRow w.heap.size 28 6 (.slice (some ⟨w.heap.size, 0, none⟩) 0 0) 0 [] := ⟨rfl, .inr ⟨w.heap.size, 0, #[], rfl, Nat.le_refl _, (Blk.new' rfl).eq, Nat.le_refl _, Nat.zero_le _, rfl, rfl⟩⟩
  have hq22 : ∀ (w : World) (a : Option Addr) (n c n' c' : Nat), (binOp .eql 22 (.slice a n c) (.slice none n' c')).run Tryz.prog w = .ok (.bool a.isNone) w := fun w a n c n' c' => Lib.run_eql_slice_nil w _ _ a n c n' c' Tryz.underlying22
  have HOW := Lib.hid hown
  clear hown
  go_enter Tryz.func68, Tryz.ntmps68
  have hx := Ext.refl w
  go_wp2_with (at_builtin; refine wpList_append_zeroN rfl _ _ 22 rfl w.heap.size 28 i0 6 Tryz.underlying22 hi _ 0 [] rfl HOW.out ad c rfl ?_)
  go_ret
  exact ⟨_, rfl, ⟨[], rfl, by simp, HOW.out, fun i c x h => by simp at h⟩, EX⟩
theorem rclone_any (A : Option Addr) (n c : Nat) (l : List _) (w0 w : World) {F : Nat → Prop} (h : Rs w0 F A l) (hw : Ext w0 w) (hn : l.length = n) (hb : n ≤ 1000000000) :
    Calls Tryz.prog 68 #[.slice A n c] w (fun e w' => ∃ v', e = .returned v' ∧ OwnW 6 Rev 28 w0 w' w.heap.size F v' l ∧ Ext w w') := by
  obtain ⟨cs, h1, h2, h3, h4⟩ := h
  by_cases h0 : n = 0
  · subst h0
    obtain rfl : l = [] := List.length_eq_zero_iff.1 hn
    cases A with
    | none =>
      refine (AnyE.slices_Clone_nil Tryz.laysCloneR 0 c w).mono ?_
      rintro e w' ⟨rfl, rfl⟩
      exact ⟨_, rfl, ⟨[], rfl, by simp, ⟨rfl, .inl ⟨rfl, rfl⟩⟩, fun i c x h => by simp at h⟩, Ext.refl _⟩
    | some ad => exact rclone_empty ad c w0 w
  obtain ⟨b, o, rfl, _, _, _⟩ := h3 (by omega)
  · obtain ⟨i0, hi⟩ : ∃ i0, Tryz.prog.info? 28 = some i0 := by
      cases hq : Tryz.prog.info? 28 with
      | none => have := rclone_info; rw [hq] at this; cases this
      | some i0 => exact ⟨i0, rfl⟩
    have hi2 := rclone_info
    rw [hi] at hi2
    simp only [Option.map_some, Option.some.injEq, Prod.mk.injEq] at hi2
    obtain ⟨hs, hby, hz⟩ := hi2
    obtain ⟨z, hz0, hz1⟩ : ∃ z, i0.zero = some z ∧ z.cells.size = 6 := by
      cases hq : i0.zero with
      | none => rw [hq] at hz; cases hz
      | some z => rw [hq] at hz; exact ⟨z, rfl, by simpa using hz⟩
    have hsz : ∀ W, (Go.sizeOf 28).run Tryz.prog W = .ok 6 W := fun W => by kernel_rfl
    have hone := flat_one' (R := Rev) (fun h => Rev.one h) h1 h4
    refine (AnyE.slices_Clone Tryz.laysCloneR i0 z 6 96 hi hz0 hs hby hz1 (by decide) hsz b o n c cs.flatten w (by rw [flatten_len h2, h1, hn]) (by unfold maxLen; omega) (by omega) (fun j u hj => ?_) hone).mono ?_
    · rcases Nat.eq_zero_or_pos n with h0 | h0
      · have : cs = [] := List.length_eq_zero_iff.1 (by omega)
        subst this
        simp at hj
      · obtain ⟨b', o', e, hbl, _, hr⟩ := h3 (by omega)
        obtain ⟨rfl, rfl⟩ : b = b' ∧ o = o' := by simpa using e
        rw [← hr j u hj]
        exact hw.cell (p := ⟨b, _, none⟩) hbl
    · rintro e w' ⟨v', rfl, hown, _, hx⟩
      subst hn
      exact ⟨v', rfl, ⟨cs, h1, h2, hown, h4⟩, hx⟩
end Go.Proofs.YtojfgidoobgcaaaGreatDoor
