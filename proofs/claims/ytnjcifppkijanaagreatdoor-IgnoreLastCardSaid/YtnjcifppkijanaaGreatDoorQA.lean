/- Walks: the reference's globs: a byte that may be quoted; elements of 258 cells. Walks: the reference's globs: a class. Walks: the reference's globs: a class read. Walks: the reference's globs: a component being built. Walks: the reference's globs: a component read. -/
import Derived.Test.YtnjcifppkijanaaGreatDoorPC
import Derived.Test.YtnjcifppkijanaaGreatDoorPG
import Derived.Laws.ResultCell
import Derived.Test.YtnjcifppkijanaaGreatDoorPD
import Derived.Great.BuildSlice
import Derived.Great.FillDense
set_option linter.unusedSimpArgs false
set_option linter.unusedVariables false
namespace Go.Proofs.YtnjcifppkijanaaGreatDoor
open Go Go.RowKit Go.Shelf
namespace Gl
/-- The byte at the beginning, quoted or not, and its length. -/
def ron : List UInt8 → UInt8 × Nat
  | [] => (0, 0)
  | c :: t => if c ≠ 92 then (c, 1) else match t with
    | [] => (0, 0)
    | d :: _ => (d, 2)
theorem plain_ron (l : List UInt8) : plain l = if (ron l).2 = 0 then none else some ((ron l).1, l.drop (ron l).2) := by
  cases l with
  | nil => rfl
  | cons c t =>
    by_cases h : c = 92
    · subst h
      cases t with
      | nil => rfl
      | cons d u => rfl
    · rw [plain_cons h]
      have e : ron (c :: t) = (c, 1) := if_pos h
      rw [e]
      rfl
theorem ron_le (l : List UInt8) : (ron l).2 ≤ l.length ∧ (ron l).2 ≤ 2 := by
  cases l with
  | nil => exact ⟨Nat.le_refl _, by decide⟩
  | cons c t =>
    by_cases h : c = 92
    · subst h
      cases t with
      | nil => exact ⟨Nat.zero_le _, by decide⟩
      | cons d u => exact ⟨by show 2 ≤ _; simp, Nat.le_refl _⟩
    · have e : ron (c :: t) = (c, 1) := if_pos h
      rw [e]
      exact ⟨by show 1 ≤ _; simp, by show 1 ≤ 2; decide⟩
end Gl
set_option maxHeartbeats 2000000 in
/-- quiltref32.one. -/
theorem rone_same (s : ByteArray) (w : World) : Calls Tryz.prog 121 #[.string s] w (Same (.tuple #[.int .u8 (Gl.ron (Ig.L s)).1.toNat, .int .i64 (Gl.ron (Ig.L s)).2]) w) := by
  obtain ⟨l, hl⟩ : ∃ l, l = Ig.L s := ⟨_, rfl⟩
  have hsz : s.size = l.length := by rw [hl]; rfl
  have htl : s.toList = l := by rw [hl, ByteArray.toList_eq]
  rw [← hl]
  have HL := Lib.hid hl
  clear hl
  cases l with
  | nil =>
    have hq : (s.toList == ([] : List UInt8)) = true := by rw [htl]; rfl
    clear htl
    go_enter Tryz.func121, Tryz.ntmps121
    go_wp2_with fail
    go_ret2
    exact ⟨rfl, rfl⟩
  | cons c t =>
    have hq : (s.toList == ([] : List UInt8)) = false := by rw [htl]; rfl
    have h0 : 0 < s.size := by rw [hsz]; simp
    have hc : s[0] = c := by
      have h1 : (Ig.L s)[0]? = some c := by rw [← HL.out]; rfl
      have h2 : (Ig.L s)[0]? = some s[0] := by
        show s.data.toList[0]? = some s.data[0]
        rw [Array.getElem?_toList]
        exact Array.getElem?_eq_getElem h0
      rw [h2] at h1
      exact Option.some.inj h1
    clear htl
    by_cases h : c = 92
    · subst h
      have e1 : ((s[0].toNat : Int) != 92) = false := by rw [hc]; rfl
      cases t with
      | nil =>
        have h2 : ((s.size : Int) < 2) := by rw [hsz]; decide
        go_enter Tryz.func121, Tryz.ntmps121
        go_wp2_with fail
        go_ret2
        exact ⟨rfl, rfl⟩
      | cons d u =>
        have h2 : ¬ ((s.size : Int) < 2) := by rw [hsz]; simp; omega
        have h1 : 1 < s.size := by omega
        have hd : s[1] = d := by
          have h1' : (Ig.L s)[1]? = some d := by rw [← HL.out]; rfl
          have h2' : (Ig.L s)[1]? = some s[1] := by
            show s.data.toList[1]? = some s.data[1]
            rw [Array.getElem?_toList]
            exact Array.getElem?_eq_getElem h1
          rw [h2'] at h1'
          exact Option.some.inj h1'
        have e : Gl.ron (92 :: d :: u) = (d, 2) := rfl
        go_enter Tryz.func121, Tryz.ntmps121
        go_wp2_with fail
        go_ret2
        exact ⟨rfl, rfl⟩
    · have e1 : ((c.toNat : Int) != 92) = true := by
        have := byte_ne (n := 92) (by omega) h
        simpa using this
      have e : Gl.ron (c :: t) = (c, 1) := if_pos h
      go_enter Tryz.func121, Tryz.ntmps121
      go_wp2_with fail
      go_ret2
      rw [e]
      exact ⟨rfl, rfl⟩
/-- The cells of an element. -/
def eltOf (star fixed : Bool) (p : UInt8 → Bool) : Array Value := #[.bool star, .bool fixed] ++ rowOf p
theorem eltOf_size (star fixed : Bool) (p : UInt8 → Bool) : (eltOf star fixed p).size = 258 := by simp [eltOf, rowOf_size]
theorem eltOf_get (star fixed : Bool) (p : UInt8 → Bool) (c : UInt8) : (eltOf star fixed p)[2 + c.toNat]? = some (.bool (p c)) := by
  unfold eltOf
  rw [Array.getElem?_append_right (by simp)]
  simpa using rowOf_get p c
theorem rowOf_put (p : UInt8 → Bool) (c : UInt8) (b : Bool) : (rowOf p).setIfInBounds c.toNat (.bool b) = rowOf (fun x => if x = c then b else p x) := by
  refine Array.ext_getElem? fun i => ?_
  rw [Array.getElem?_setIfInBounds]
  by_cases e : c.toNat = i
  · subst e
    rw [if_pos rfl, rowOf_get, if_pos (by rw [rowOf_size]; exact UInt8.toNat_lt c)]
    simp
  · rw [if_neg e]
    by_cases hi : i < 256
    · have h2 : ¬ (UInt8.ofNat i = c) := fun h => e (by rw [← h, UInt8.toNat_ofNat_of_lt' hi])
      simp [rowOf, hi, h2]
    · simp [rowOf, hi]
theorem eltOf_put (star fixed : Bool) (p : UInt8 → Bool) (c : UInt8) (b : Bool) : (eltOf star fixed p).setIfInBounds (2 + c.toNat) (.bool b) = eltOf star fixed (fun x => if x = c then b else p x) := by
  unfold eltOf
  rw [← rowOf_put]
  refine Array.ext_getElem? fun i => ?_
  rw [Array.getElem?_setIfInBounds]
  by_cases e : 2 + c.toNat = i
  · subst e
    have := UInt8.toNat_lt c
    rw [if_pos rfl, Array.getElem?_append_right (by simp), if_pos (by simp [rowOf_size]; omega)]
    simp [Array.getElem?_setIfInBounds, rowOf_size]
    omega
  · rw [if_neg e]
    rcases Nat.lt_or_ge i 2 with h | h
    · rw [Array.getElem?_append_left (by simpa using h), Array.getElem?_append_left (by simpa using h)]
    · rw [Array.getElem?_append_right (by simpa using h), Array.getElem?_append_right (by simpa using h), Array.getElem?_setIfInBounds, if_neg (by simp; omega)]
theorem eltOf_star (star fixed b : Bool) (p : UInt8 → Bool) : (eltOf star fixed p).setIfInBounds 0 (.bool b) = eltOf b fixed p := by
  refine Array.ext_getElem? fun i => ?_
  rw [Array.getElem?_setIfInBounds, eltOf_size]
  unfold eltOf
  rcases i with _ | _ | i
  · rw [if_pos rfl, if_pos (by decide), Array.getElem?_append_left (by simp)]
    rfl
  · rw [if_neg (by decide), Array.getElem?_append_left (by simp), Array.getElem?_append_left (by simp)]
    rfl
  · rw [if_neg (by omega), Array.getElem?_append_right (by simp), Array.getElem?_append_right (by simp)]
    rfl
theorem eltOf_fixed (star fixed b : Bool) (p : UInt8 → Bool) : (eltOf star fixed p).setIfInBounds 1 (.bool b) = eltOf star b p := by
  refine Array.ext_getElem? fun i => ?_
  rw [Array.getElem?_setIfInBounds, eltOf_size]
  unfold eltOf
  rcases i with _ | _ | i
  · rw [if_neg (by decide), Array.getElem?_append_left (by simp), Array.getElem?_append_left (by simp)]
    rfl
  · rw [if_pos rfl, if_pos (by decide), Array.getElem?_append_left (by simp)]
    rfl
  · rw [if_neg (by omega), Array.getElem?_append_right (by simp), Array.getElem?_append_right (by simp)]
    rfl
theorem eltOf_one (star fixed : Bool) (p : UInt8 → Bool) : (eltOf star fixed p).all (·.oneCell') = true := by
  rw [Array.all_eq_true_iff_forall_mem]
  intro v hv
  simp only [eltOf, rowOf, Array.mem_append, List.mem_toArray, List.mem_map] at hv
  rcases hv with h | ⟨i, _, rfl⟩
  · simp at h
    rcases h with rfl | rfl <;> rfl
  · rfl
theorem elt_info : (Tryz.prog.info? 150).map (·.size) = some 258 := by kernel_rfl
theorem elt_zero : Tryz.zeroCells150 = eltOf false false fun _ => false := by kernel_rfl
end Go.Proofs.YtnjcifppkijanaaGreatDoor
namespace Go.Proofs.YtnjcifppkijanaaGreatDoor
open Go Go.RowKit Go.Shelf
theorem elt_zeroV (w : World) : (zeroValue 150).run Tryz.prog w = .ok (.agg (eltOf false false fun _ => false)) w := by kernel_rfl
theorem elt_built (f : Nat × Operand → Nat × Value) : Tryz.prog.built 150 (#[].map f).toList = some (eltOf false false fun _ => false) := by kernel_rfl
section
variable {P : Program} {ops : Array Oper} {Q : Exit → Act → World → Prop}
theorem wpList_allocTo {w : World} {rest : List Oper} {o : Oper} {a : Act} (hgd : o.guard = none) (ty : TypeId) (ho : o.op = .alloc ty) (cells : Array Value) (hz : ∀ w, (zeroValue ty).run P w = .ok (.agg cells) w) (g : Nat) (hg : w.heap.size = g)
    (h : wpList P ops Q rest (a.put o.dst (.pointer (some ⟨g, 0, none⟩))) (w.alloc (.cells cells ty))) : wpList P ops Q (o :: rest) a w := by
  subst hg
  refine wpList_plain hgd fun K hK => ?_
  unfold Oper.wp execOp
  simp [ho, Instr.alloc, hz, newVar, newRow, Value.cells]
  exact hK _ _ h
theorem wpList_buildZ {w : World} {rest : List Oper} {o : Oper} {a : Act} (hgd : o.guard = none) (ty : TypeId) (ho : o.op = .build ty #[]) (cells : Array Value) (hf : ∀ f : Nat × Operand → Nat × Value, P.built ty (#[].map f).toList = some cells)
    (h : wpList P ops Q rest (a.put o.dst (.agg cells)) w) : wpList P ops Q (o :: rest) a w := by
  refine wpList_build hgd ty #[] ho (by rw [hf]; rfl) ?_
  rw [hf]
  exact h
end
theorem wpList_load_arr {P : Program} {ops : Array Oper} {rest : List Oper} {op : Oper} {a : Act} {w : World} {Q : Exit → Act → World → Prop} (hgd : op.guard = none) (ty : TypeId) (x : Operand) (ho : op.op = .load ty x)
    (b o : Nat) (hx : a.eval x = .pointer (some ⟨b, o, none⟩)) (cs : Array Value) (d : TypeDesc) (hc : w.rangeAt b o cs.toList)
    (hu : P.underlying ty = some d) (hd : d.isRow = true) (hi : (P.info? ty).map (·.size) = some cs.toList.length)
    (h : wpList P ops Q rest (a.put op.dst (.agg cs)) w) : wpList P ops Q (op :: rest) a w :=
  wpList_load_mid hgd ty x ho b o hx cs.toList d hc hu hd hi (by rwa [Array.toArray_toList])
theorem results_cell_two {fn : Func} {p u : Tmp} {ty : TypeId} (h : fn.results = #[.cell p ty, .tmp u]) {tmps : Array Value} {P : Program} {w : World} {a : Addr} {v : Value} (hp : tmps.getD p undef = .pointer (some a)) (hl : (loadVar ty a).run P w = .ok v w) :
    (results fn tmps).run P w = .ok (.tuple #[v, tmps.getD u undef]) w := by
  have ha : ∀ b : Addr, (asAddr (.pointer (some b))).run P w = .ok b w := fun b => rfl
  rw [results_cell_tmp h, hp, ha]
  show ((loadVar ty a).run P w).andThen _ = _
  rw [hl]
  rfl
/-- A class being read: what lies in memory. -/
structure Est (w : World) (p : UInt8 → Bool) (W : World) : Prop where
  res : Blk W w.heap.size 150 (eltOf false false fun _ => false)
  row : Blk W (w.heap.size + 1) 150 (eltOf false false p)
  ext : Ext w W
section
variable {w W : World} {p : UInt8 → Bool}
theorem Est.size (p : UInt8 → Bool) : (Tryz.prog.info? 150).map (·.size) = some (eltOf false false p).size := by rw [eltOf_size]; exact elt_info
theorem Est.sizeL (p : UInt8 → Bool) : (Tryz.prog.info? 150).map (·.size) = some (eltOf false false p).toList.length := by rw [Array.length_toList]; exact Est.size p
theorem Est.range (h : Est w p W) : W.rangeAt (w.heap.size + 1) 0 (eltOf false false p).toList := h.row.range 0 _ (fun j _ => by rw [Nat.zero_add, Array.getElem?_toList])
theorem Est.there (h : Est w p W) : W.there w.heap.size 0 (eltOf false false p).size := by rw [eltOf_size, ← eltOf_size false false fun _ => false]; exact h.res.there
theorem Est.put (h : Est w p W) (c : UInt8) (b : Bool) : Est w (fun x => if x = c then b else p x) (W.setCell ⟨w.heap.size + 1, 2 + c.toNat, none⟩ (.bool b)) :=
  ⟨Blk.far (p := ⟨w.heap.size + 1, 2 + c.toNat, none⟩) h.res (by show w.heap.size ≠ w.heap.size + 1; omega) _, Blk.convG (h.row.set_ _ _) (eltOf_put false false p c b), Ext.setCell (p := ⟨w.heap.size + 1, 2 + c.toNat, none⟩) h.ext (by simp) _⟩
theorem Est.into {W' : World} (h : Est w p W) (hx : Ext W W') : Est w p W' := ⟨Blk.ext hx h.res, Blk.ext hx h.row, h.ext.trans hx⟩
theorem Est.retB (h : Est w p W) : Blk (W.setCells w.heap.size 0 (eltOf false false p).toList) w.heap.size 150 (eltOf false false p) := Blk.whole h.res (by rw [eltOf_size, eltOf_size])
theorem Est.retX (h : Est w p W) : Ext w (W.setCells w.heap.size 0 (eltOf false false p).toList) := Ext.setAll (Nat.le_refl _) _ _ _ h.ext
theorem Est.ld (h : Est w p W) : (loadVar 150 ⟨w.heap.size, 0, none⟩).run Tryz.prog (W.setCells w.heap.size 0 (eltOf false false p).toList) = .ok (.agg (eltOf false false p)) (W.setCells w.heap.size 0 (eltOf false false p).toList) := by
  have := run_loadVar_mid (P := Tryz.prog) (W.setCells w.heap.size 0 (eltOf false false p).toList) w.heap.size 0 150 (eltOf false false p).toList _ (h.retB.range 0 _ (fun j _ => by rw [Nat.zero_add, Array.getElem?_toList])) Tryz.underlying150 rfl (Est.sizeL p)
  rwa [Array.toArray_toList] at this
end
/-- All that a return asks of an element. -/
theorem Est.all {w W : World} {p : UInt8 → Bool} (h : Est w p W) : ∃ Y : Array Value, Y = eltOf false false p ∧ W.rangeAt (w.heap.size + 1) 0 Y.toList ∧ (Tryz.prog.info? 150).map (·.size) = some Y.toList.length ∧ W.there w.heap.size 0 Y.size ∧ (Tryz.prog.info? 150).map (·.size) = some Y.size ∧ Y.all (·.oneCell') = true ∧
    (loadVar 150 ⟨w.heap.size, 0, none⟩).run Tryz.prog (W.setCells w.heap.size 0 Y.toList) = .ok (.agg Y) (W.setCells w.heap.size 0 Y.toList) ∧ Ext w (W.setCells w.heap.size 0 Y.toList) :=
  ⟨_, rfl, h.range, Est.sizeL _, h.there, Est.size _, eltOf_one _ _ _, h.ld, h.retX⟩
/-- What class hands back. -/
def ClsF (l : List UInt8) (w : World) (e : Ending) (w' : World) : Prop := ∃ (p : UInt8 → Bool) (n : Nat), e = .returned (.tuple #[.agg (eltOf false false p), .int .i64 n]) ∧ n ≤ l.length ∧ Gl.cls (l.drop 1) = (if n = 0 then none else some (some p, l.drop n)) ∧ Ext w w'
/-- A row half turned. -/
def midRow (neg : Bool) (p : UInt8 → Bool) (b : Nat) : UInt8 → Bool := fun x => if x.toNat < b then Gl.clsSet neg p x else p x
theorem midRow_zero (neg : Bool) (p : UInt8 → Bool) : midRow neg p 0 = p := by funext x; simp [midRow]
theorem midRow_end (neg : Bool) (p : UInt8 → Bool) : midRow neg p 256 = Gl.clsSet neg p := by
  funext x
  have := UInt8.toNat_lt x
  simp only [midRow]
  rw [if_pos (by omega)]
theorem midRow_step (neg : Bool) (p : UInt8 → Bool) (c : UInt8) : (fun x => if x = c then Gl.clsSet neg p c else midRow neg p c.toNat x) = midRow neg p (c.toNat + 1) := by
  funext x
  unfold midRow
  by_cases e : x = c
  · subst e
    rw [if_pos rfl, if_pos (Nat.lt_succ_self _)]
  · have h3 : x.toNat ≠ c.toNat := fun k => e (UInt8.toNat_inj.1 k)
    rw [if_neg e]
    by_cases h : x.toNat < c.toNat
    · rw [if_pos h, if_pos (by omega)]
    · rw [if_neg h, if_neg (by omega)]
theorem fillTo_put (p : UInt8 → Bool) (lo : UInt8) {b : Nat} (h1 : lo.toNat ≤ b) (h2 : b < 256) : (fun x => if x = UInt8.ofNat b then true else fillTo p lo b x) = fillTo p lo (b + 1) := by
  rw [← fillTo_step p lo h1 h2]
  funext x
  by_cases e : x = UInt8.ofNat b
  · rw [if_pos e, e]; simp
  · rw [if_neg e, beq_eq_false_iff_ne.2 e, Bool.or_false]
/-- What is read of an item. -/
theorem item_ron {l : List UInt8} {c : UInt8} {n : Nat} (h : Gl.ron l = (c, n)) (hn : n ≠ 0) : Gl.item l = match l.drop n with
    | 45 :: d :: u => if d = 93 then some (c, c, l.drop n) else
      match Gl.plain (d :: u) with
      | none => none
      | some (hi, v) => if c ≤ hi then some (c, hi, v) else none
    | _ => some (c, c, l.drop n) := by
  have e : Gl.plain l = some (c, l.drop n) := by rw [Gl.plain_ron, h, if_neg hn]
  unfold Gl.item
  rw [e]
  rfl
theorem item_alone {l : List UInt8} {c : UInt8} {n : Nat} (h : Gl.ron l = (c, n)) (hn : n ≠ 0) (hno : ∀ d u, l.drop n = 45 :: d :: u → d = 93) : Gl.item l = some (c, c, l.drop n) := by
  rw [item_ron h hn]
  split
  · rename_i d u e
    rw [if_pos (hno d u e), e]
  · rfl
theorem item_range {l : List UInt8} {c : UInt8} {n : Nat} (h : Gl.ron l = (c, n)) (hn : n ≠ 0) {d : UInt8} {u : List UInt8} (e : l.drop n = 45 :: d :: u) (hd : d ≠ 93) : Gl.item l = if (Gl.ron (d :: u)).2 = 0 then none else if c ≤ (Gl.ron (d :: u)).1 then some (c, (Gl.ron (d :: u)).1, (d :: u).drop (Gl.ron (d :: u)).2) else none := by
  rw [item_ron h hn, e]
  show (if d = 93 then _ else _) = _
  rw [if_neg hd, Gl.plain_ron]
  by_cases h0 : (Gl.ron (d :: u)).2 = 0
  · rw [if_pos h0, if_pos h0]
  · rw [if_neg h0, if_neg h0]
theorem drop_at {l : List UInt8} {j : Nat} {c : UInt8} (h : l[j]? = some c) : l.drop j = c :: l.drop (j + 1) := by
  obtain ⟨h1, h2⟩ := List.getElem?_eq_some_iff.1 h
  rw [List.drop_eq_getElem_cons h1, h2]
theorem byteAt (s : ByteArray) {j : Nat} (h : j < s.size) : (Ig.L s)[j]? = some s[j] := by
  show s.data.toList[j]? = some s.data[j]
  rw [Array.getElem?_toList]
  exact Array.getElem?_eq_getElem h
end Go.Proofs.YtnjcifppkijanaaGreatDoor
namespace Go.Proofs.YtnjcifppkijanaaGreatDoor
open Go Go.RowKit Go.Shelf
theorem L_from (s : ByteArray) (j : Nat) : Ig.L (s.extract j s.size) = (Ig.L s).drop j := by
  show Pa.L (s.extract j s.size) = _
  rw [Pa.L_extract s j s.size, List.take_of_length_le]
  exact Nat.le_refl _
set_option maxHeartbeats 32000000 in
set_option maxRecDepth 100000 in
theorem rclass_any (s : ByteArray) (w : World) (hs : s.size ≤ 1000000) (h0 : 0 < s.size) : Calls Tryz.prog 120 #[.string s] w (ClsF (Ig.L s) w) := by
  obtain ⟨Z, hZ⟩ : ∃ Z, Z = eltOf false false fun _ => false := ⟨_, rfl⟩
  have HE0 : Hid (Est w (fun _ => false) (((w.alloc (.cells Z 150)).alloc (.cells Z 150)).setCells (w.heap.size + 1) 0 Z.toList)) := Lib.hid (by
    rw [hZ]
    exact ⟨Blk.farAll (w := (w.alloc (.cells (eltOf false false fun _ => false) 150)).alloc (.cells (eltOf false false fun _ => false) 150)) (by omega) _ _ _ (Blk.alloc (Blk.new' rfl) _), Blk.whole (Blk.new' (by simp)) rfl, Ext.setAll (by omega) _ _ _ (((Ext.refl w).alloc _).alloc _)⟩)
  have HTH : Hid (((w.alloc (.cells Z 150)).alloc (.cells Z 150)).there (w.heap.size + 1) 0 Z.size) := Lib.hid (Blk.there (Blk.new' (t := 150) (by simp)))
  have HZ : Hid ((∀ w, (zeroValue 150).run Tryz.prog w = .ok (.agg Z) w) ∧ (∀ f : Nat × Operand → Nat × Value, Tryz.prog.built 150 (#[].map f).toList = some Z) ∧ (Tryz.prog.info? 150).map (·.size) = some Z.size ∧ Z.all (·.oneCell') = true) := Lib.hid (by
    rw [hZ]
    exact ⟨elt_zeroV, elt_built, Est.size _, eltOf_one _ _ _⟩)
  clear hZ
  by_cases hn : ∃ h1 : 1 < s.size, s[1] = 33
  · obtain ⟨h1, h33⟩ := hn
    have e33 : ((s[1].toNat : Int) == 33) = true := by rw [h33]; rfl
    have hi0 : 2 ≤ s.size := h1
    have HLN : Hid (Gl.cls ((Ig.L s).drop 1) = match Gl.items (((Ig.L s).drop 2).length + 1) ((Ig.L s).drop 2) (fun _ => false) 0 with
      | none => none
      | some (p, k, r) => if k ≠ 0 ∧ Gl.some256 (Gl.clsSet true p) = true then some (some (Gl.clsSet true p), r) else none) := Lib.hid (by
        have h := cls_neg (l := (Ig.L s).drop 1) (by rw [drop_at (byteAt s h1), h33]; rfl)
        rwa [List.tail_drop] at h)
    go_enter Tryz.func120, Tryz.ntmps120
    go_wp2_with (first
      | (refine wpList_allocTo rfl 150 rfl Z HZ.out.1 w.heap.size rfl ?_; try simp only [Act.put, sA, s0, sS])
      | (refine wpList_allocTo rfl 150 rfl Z HZ.out.1 (w.heap.size + 1) (by simp) ?_; try simp only [Act.put, sA, s0, sS])
      | (refine wpList_buildZ rfl 150 rfl Z HZ.out.2.1 ?_; try simp only [Act.put, sA, s0, sS])
      | (refine wpList_store_mid rfl 150 (.tmp 4) (.tmp 16) rfl (w.heap.size + 1) 0 Z rfl rfl HTH.out HZ.out.2.2.1 HZ.out.2.2.2 ?_; try simp only [Act.put]))
    clear HTH e33 h33 h1
    go_loopw [5, 7, 8, 9, 10, 11, 12, 13] (fun u5 u7 _ _ _ _ _ _ wr => ∃ (j k : Nat) (p : UInt8 → Bool) (n : Nat), u5 = .int .i64 j ∧ u7 = .int .i64 k ∧ k ≤ j ∧ j ≤ s.size ∧ Hid (Est w p wr) ∧ Hid (Gl.items (((Ig.L s).drop 2).length + 1) ((Ig.L s).drop 2) (fun _ => false) 0 = Gl.items n ((Ig.L s).drop j) p k ∧ ((Ig.L s).drop j).length < n)) (fun u _ _ _ _ _ _ _ _ => s.size - (intOf u).toNat)
    case atStart => exact ⟨2, 0, _, _, rfl, rfl, Nat.zero_le _, hi0, HE0, Lib.hid ⟨rfl, Nat.lt_succ_self _⟩⟩
    case round =>
      clear HE0
      rename World => wo
      obtain ⟨j, k, p, n, rfl, rfl, hkj, hjs, HE, HI⟩ := hrel
      by_cases hlt : j < s.size
      · have hat := byteAt s hlt
        obtain ⟨c, hc⟩ : ∃ c, s[j] = c := ⟨_, rfl⟩
        rw [hc] at hat
        have HDR := Lib.hid (drop_at hat)
        have hlen : (Ig.L s).length = s.size := rfl
        obtain ⟨m, rfl⟩ : ∃ m, n = m + 1 := ⟨n - 1, by have := HI.out.2; omega⟩
        have HLT : Hid (((Ig.L s).drop (j + 1)).length < m) := Lib.hid (by have := HI.out.2; rw [HDR.out, List.length_cons] at this; omega)
        clear hat hlen
        by_cases h93 : c = 93
        · have e1 : ((c.toNat : Int) != 93) = false := by rw [h93]; rfl
          have HN : Hid (Gl.items (((Ig.L s).drop 2).length + 1) ((Ig.L s).drop 2) (fun _ => false) 0 = some (p, k, (Ig.L s).drop (j + 1))) := Lib.hid (by rw [HI.out.1, HDR.out, h93, items_end])
          have hjz : ¬ ((s.size : Int) ≤ (j : Int)) := by omega
          subst h93
          rcases Nat.eq_zero_or_pos k with hk0 | hk0
          · subst hk0
            have HNN : Hid (Gl.cls ((Ig.L s).drop 1) = none) := Lib.hid (by rw [HLN.out, HN.out]; simp)
            obtain ⟨Y, hY, hYs⟩ := HE.out.all
            have HYE := Lib.hid hY
            have HY := Lib.hid hYs
            clear hY hYs
            go_wp2_with (first
              | (refine wpList_load_arr rfl 150 (.tmp 4) rfl (w.heap.size + 1) 0 rfl Y _ HY.out.1 Tryz.underlying150 rfl HY.out.2.1 ?_; try simp only [Act.put, sA, s0, sS])
              | (refine wpList_store_mid rfl 150 (.tmp 2) (.tmp 114) rfl w.heap.size 0 Y rfl rfl HY.out.2.2.1 HY.out.2.2.2.1 HY.out.2.2.2.2.1 ?_; try simp only [Act.put]))
            refine bodyPost_ret (results_cell_two (ty := 150) Tryz.results120 (a := ⟨w.heap.size, 0, none⟩) (v := .agg Y) rfl HY.out.2.2.2.2.2.1) rfl ?_
            exact ⟨p, 0, by rw [← HYE.out]; rfl, Nat.zero_le _, HNN.out, HY.out.2.2.2.2.2.2⟩
          · have hkb : ((k : Int) == 0) = false := beq_eq_false_iff_ne.2 (by omega)
            go_wp2_with fail
            go_loopw [14, 15] (fun u14 u15 wr => ∃ (b : Nat) (sm : Bool), u14 = .bool sm ∧ u15 = .int .i64 b ∧ b ≤ 256 ∧ Hid (Est w (midRow true p b) wr) ∧ Hid (sm = (List.range b).any fun i => Gl.clsSet true p (UInt8.ofNat i))) (fun _ u _ => 256 - (intOf u).toNat)
            case atStart => exact ⟨0, false, rfl, rfl, Nat.zero_le _, Lib.hid (by rw [midRow_zero]; exact HE.out), Lib.hid rfl⟩
            case round =>
              clear HE
              rename World => wf
              obtain ⟨b, sm, rfl, rfl, hb256, HF, HSM⟩ := hrel
              by_cases hbl : b < 256
              · have hbl2 : (b : Int) < 256 := by omega
                have e3 : (UInt8.ofNat b).toNat = b := UInt8.toNat_ofNat_of_lt' hbl
                have hcell : wf.cell? ⟨w.heap.size + 1, 2 + b, none⟩ = some (.bool (p (UInt8.ofNat b))) := by
                  rw [HF.out.row.cell]
                  have := eltOf_get false false (midRow true p b) (UInt8.ofNat b)
                  rw [e3] at this
                  rw [this]
                  unfold midRow
                  rw [e3, if_neg (Nat.lt_irrefl b)]
                have hfz : wf.frozen? ⟨w.heap.size + 1, 2 + b, none⟩ = false := HF.out.row.frozen _
                have HF2 : Hid (∀ v, v = Gl.clsSet true p (UInt8.ofNat b) → Est w (midRow true p (b + 1)) (wf.setCell ⟨w.heap.size + 1, 2 + b, none⟩ (.bool v))) := Lib.hid (fun v hv => by
                  have := HF.out.put (UInt8.ofNat b) v
                  have h2 := midRow_step true p (UInt8.ofNat b)
                  rw [e3] at h2
                  rw [hv, e3, h2] at this
                  rw [hv]
                  exact this)
                have HSN : Hid (∀ v, v = Gl.clsSet true p (UInt8.ofNat b) → (List.range (b + 1)).any (fun i => Gl.clsSet true p (UInt8.ofNat i)) = (sm || v)) := Lib.hid (fun v hv => by rw [List.range_succ, List.any_append, ← HSM.out, hv]; simp)
                have HV : Hid (Gl.clsSet true p (UInt8.ofNat b) = (UInt8.ofNat b != 47 && (p (UInt8.ofNat b) != true))) := Lib.hid rfl
                have h47 : (UInt8.ofNat b != 47) = ((b : Int) != 47) := by
                  have := byte_beq (UInt8.ofNat b) 47 (by omega)
                  rw [e3] at this
                  exact congrArg not this.symm
                rw [h47] at HV
                generalize p (UInt8.ofNat b) = pc at hcell HV
                clear h47 e3 HF HSM
                cases h7 : ((b : Int) != 47) <;> rw [h7] at HV <;> cases pc <;> cases sm
                all_goals
                  go_wp2_with fail
                  go_roundw
                  case rel => exact ⟨b + 1, _, rfl, rfl, by omega, Lib.hid (HF2.out _ HV.out.symm), Lib.hid (by rw [HSN.out _ HV.out.symm]; rfl)⟩
                  case measure => simp [intOf]; omega
              · obtain rfl : b = 256 := by omega
                have HF3 : Hid (Est w (Gl.clsSet true p) wf) := Lib.hid (by have := HF.out; rwa [midRow_end] at this)
                have HS3 : Hid (sm = Gl.some256 (Gl.clsSet true p)) := Lib.hid HSM.out
                clear HF HSM
                cases sm with
                | false =>
                  have HNN : Hid (Gl.cls ((Ig.L s).drop 1) = none) := Lib.hid (by rw [HLN.out, HN.out]; simp [← HS3.out])
                  obtain ⟨Y, hY, hYs⟩ := HF3.out.all
                  have HYE := Lib.hid hY
                  have HY := Lib.hid hYs
                  clear hY hYs
                  go_wp2_with (first
                    | (refine wpList_load_arr rfl 150 (.tmp 4) rfl (w.heap.size + 1) 0 rfl Y _ HY.out.1 Tryz.underlying150 rfl HY.out.2.1 ?_; try simp only [Act.put, sA, s0, sS])
                    | (refine wpList_store_mid rfl 150 (.tmp 2) (.tmp 141) rfl w.heap.size 0 Y rfl rfl HY.out.2.2.1 HY.out.2.2.2.1 HY.out.2.2.2.2.1 ?_; try simp only [Act.put]))
                  refine bodyPost_ret (results_cell_two (ty := 150) Tryz.results120 (a := ⟨w.heap.size, 0, none⟩) (v := .agg Y) rfl HY.out.2.2.2.2.2.1) rfl ?_
                  exact ⟨Gl.clsSet true p, 0, by rw [← HYE.out]; rfl, Nat.zero_le _, HNN.out, HY.out.2.2.2.2.2.2⟩
                | true =>
                  have HNN : Hid (Gl.cls ((Ig.L s).drop 1) = some (some (Gl.clsSet true p), (Ig.L s).drop (j + 1))) := Lib.hid (by rw [HLN.out, HN.out]; exact if_pos ⟨by omega, HS3.out.symm⟩)
                  obtain ⟨Y, hY, hYs⟩ := HF3.out.all
                  have HYE := Lib.hid hY
                  have HY := Lib.hid hYs
                  clear hY hYs
                  go_wp2_with (first
                    | (refine wpList_load_arr rfl 150 (.tmp 4) rfl (w.heap.size + 1) 0 rfl Y _ HY.out.1 Tryz.underlying150 rfl HY.out.2.1 ?_; try simp only [Act.put, sA, s0, sS])
                    | (refine wpList_store_mid rfl 150 (.tmp 2) (.tmp 142) rfl w.heap.size 0 Y rfl rfl HY.out.2.2.1 HY.out.2.2.2.1 HY.out.2.2.2.2.1 ?_; try simp only [Act.put]))
                  refine bodyPost_ret (results_cell_two (ty := 150) Tryz.results120 (a := ⟨w.heap.size, 0, none⟩) (v := .agg Y) rfl HY.out.2.2.2.2.2.1) rfl ?_
                  exact ⟨Gl.clsSet true p, j + 1, by rw [← HYE.out]; rfl, hlt, (by rw [HNN.out, if_neg (Nat.succ_ne_zero j)]), HY.out.2.2.2.2.2.2⟩
        · have e1 : ((c.toNat : Int) != 93) = true := by
            have := byte_ne (n := 93) (by omega) h93
            simpa using this
          have hex : Ig.L (s.extract j s.size) = (Ig.L s).drop j := L_from s j
          have HR1 : Hid (∀ W, Calls Tryz.prog 121 #[.string (s.extract j s.size)] W (Same (.tuple #[.int .u8 (Gl.ron ((Ig.L s).drop j)).1.toNat, .int .i64 (Gl.ron ((Ig.L s).drop j)).2]) W)) := Lib.hid fun W => by
            rw [← hex]
            exact rone_same _ W
          obtain ⟨lo, n1, hr⟩ : ∃ lo n1, Gl.ron ((Ig.L s).drop j) = (lo, n1) := ⟨_, _, rfl⟩
          rw [hr] at HR1
          have hn1 : n1 ≤ s.size - j := by
            have := (Gl.ron_le ((Ig.L s).drop j)).1
            rw [hr, List.length_drop] at this
            exact this
          have HRN := Lib.hid hr
          have HIC : Hid (Gl.items (m + 1) ((Ig.L s).drop j) p k = match Gl.item ((Ig.L s).drop j) with
            | none => none
            | some (lo, hi, t) => Gl.items m t (fun b => p b || (decide (lo ≤ b) && decide (b ≤ hi))) (k + 1)) := Lib.hid (by rw [HDR.out]; exact items_cons h93)
          clear hr hex
          go_wp2_with fail
          refine (HR1.out _).mono ?_
          rintro e w1 ⟨rfl, rfl⟩
          rcases Nat.eq_zero_or_pos n1 with hn0 | hn0
          · subst hn0
            have HNN : Hid (Gl.cls ((Ig.L s).drop 1) = none) := Lib.hid (by
              rw [HLN.out, HI.out.1, HIC.out, item_none (by rw [Gl.plain_ron, HRN.out]; rfl)])
            clear HI HIC HR1
            obtain ⟨Y, hY, hYs⟩ := HE.out.all
            have HYE := Lib.hid hY
            have HY := Lib.hid hYs
            clear hY hYs
            go_wp2_with (first
              | (refine wpList_load_arr rfl 150 (.tmp 4) rfl (w.heap.size + 1) 0 rfl Y _ HY.out.1 Tryz.underlying150 rfl HY.out.2.1 ?_; try simp only [Act.put, sA, s0, sS])
              | (refine wpList_store_mid rfl 150 (.tmp 2) (.tmp 49) rfl w.heap.size 0 Y rfl rfl HY.out.2.2.1 HY.out.2.2.2.1 HY.out.2.2.2.2.1 ?_; try simp only [Act.put]))
            refine bodyPost_ret (results_cell_two (ty := 150) Tryz.results120 (a := ⟨w.heap.size, 0, none⟩) (v := .agg Y) rfl HY.out.2.2.2.2.2.1) rfl ?_
            exact ⟨p, 0, by rw [← HYE.out]; rfl, Nat.zero_le _, HNN.out, HY.out.2.2.2.2.2.2⟩
          · have hnb : ((n1 : Int) == 0) = false := beq_eq_false_iff_ne.2 (by omega)
            have hw1 := wrap_byte lo
            have HDN : Hid (((Ig.L s).drop j).drop n1 = (Ig.L s).drop (j + n1)) := Lib.hid (List.drop_drop ..)
            clear HR1
            by_cases ha : j + n1 + 1 < s.size
            · have ha2 : (j : Int) + (n1 : Int) + 1 < (s.size : Int) := by omega
              have hj1 : j + n1 < s.size := by omega
              have HA1 := Lib.hid (drop_at (byteAt s hj1))
              have HA2 := Lib.hid (drop_at (byteAt s ha))
              obtain ⟨x, hx⟩ : ∃ x, s[j + n1] = x := ⟨_, rfl⟩
              obtain ⟨d, hd⟩ : ∃ x, s[j + n1 + 1] = x := ⟨_, rfl⟩
              rw [hx] at HA1
              rw [hd] at HA2
              by_cases hx45 : x = 45
              · have e5 : ((x.toNat : Int) == 45) = true := by rw [hx45]; rfl
                subst hx45
                by_cases hd93 : d = 93
                · have e6 : ((d.toNat : Int) != 93) = false := by rw [hd93]; rfl
                  have HIT : Hid (Gl.item ((Ig.L s).drop j) = some (lo, lo, (Ig.L s).drop (j + n1))) := Lib.hid (by rw [item_alone HRN.out (by omega) (by rw [HDN.out, HA1.out, HA2.out]; intro d' u' e; simp at e; rw [← e.1]; exact hd93), HDN.out])
                  subst hd93
                  have HIN : Hid (Gl.items (((Ig.L s).drop 2).length + 1) ((Ig.L s).drop 2) (fun _ => false) 0 = Gl.items m ((Ig.L s).drop (j + n1)) (fun b => p b || (decide (lo ≤ b) && decide (b ≤ lo))) (k + 1) ∧ ((Ig.L s).drop (j + n1)).length < m) := Lib.hid ⟨by rw [HI.out.1, HIC.out, HIT.out], by have := HLT.out; rw [List.length_drop] at this ⊢; omega⟩
                  clear HI HIC HIT
                  go_wp2_with fail
                  go_loopw [13] (fun u13 wr => ∃ b : Nat, u13 = .int .i64 b ∧ lo.toNat ≤ b ∧ b ≤ lo.toNat + 1 ∧ Hid (Est w (fillTo p lo b) wr)) (fun u _ => 256 - (intOf u).toNat)
                  case atStart => exact ⟨lo.toNat, by first | rfl | rw [hw1], Nat.le_refl _, by omega, Lib.hid (by rw [fillTo_start]; exact HE.out)⟩
                  case round =>
                    rename World => wf
                    obtain ⟨b, rfl, hlb, hbh, HF⟩ := hrel
                    have hb255 : lo.toNat < 256 := UInt8.toNat_lt lo
                    by_cases hbl : b ≤ lo.toNat
                    · have hbl2 : (b : Int) ≤ (lo.toNat : Int) := by omega
                      have e3 : (UInt8.ofNat b).toNat = b := UInt8.toNat_ofNat_of_lt' (show b < 256 by omega)
                      have hcell : wf.cell? ⟨w.heap.size + 1, 2 + b, none⟩ = some (.bool (fillTo p lo b (UInt8.ofNat b))) := by
                        rw [HF.out.row.cell]
                        have := eltOf_get false false (fillTo p lo b) (UInt8.ofNat b)
                        rwa [e3] at this
                      have hfz : wf.frozen? ⟨w.heap.size + 1, 2 + b, none⟩ = false := HF.out.row.frozen _
                      have HF2 : Hid (Est w (fillTo p lo (b + 1)) (wf.setCell ⟨w.heap.size + 1, 2 + b, none⟩ (.bool true))) := Lib.hid (by
                        have := HF.out.put (UInt8.ofNat b) true
                        rw [e3, fillTo_put p lo hlb (by omega)] at this
                        exact this)
                      clear HF e3
                      go_wp2_with fail
                      go_roundw
                      case rel => exact ⟨b + 1, rfl, by omega, by omega, HF2⟩
                      case measure => simp [intOf]; omega
                    · obtain rfl : b = lo.toNat + 1 := by omega
                      have hbl2 : ¬ ((lo.toNat : Int) + 1 ≤ (lo.toNat : Int)) := by omega
                      have HE3 : Hid (Est w (fun b => p b || (decide (lo ≤ b) && decide (b ≤ lo))) wf) := Lib.hid (by have := HF.out; rwa [fillTo_end] at this)
                      clear HF HE
                      go_wp2_with fail
                      go_roundw
                      case rel => exact ⟨j + n1, k + 1, _, m, by first | rfl | (congr 1; push_cast; omega), by first | rfl | (congr 1; push_cast; omega), by omega, by omega, HE3, HIN⟩
                      case measure => simp [intOf]; omega
                · have e6 : ((d.toNat : Int) != 93) = true := by
                    have := byte_ne (n := 93) (by omega) hd93
                    simpa using this
                  have hex2 : Ig.L (s.extract (j + n1 + 1) s.size) = (Ig.L s).drop (j + n1 + 1) := L_from s (j + n1 + 1)
                  have HR2 : Hid (∀ W, Calls Tryz.prog 121 #[.string (s.extract (j + n1 + 1) s.size)] W (Same (.tuple #[.int .u8 (Gl.ron ((Ig.L s).drop (j + n1 + 1))).1.toNat, .int .i64 (Gl.ron ((Ig.L s).drop (j + n1 + 1))).2]) W)) := Lib.hid fun W => by
                    rw [← hex2]
                    exact rone_same _ W
                  obtain ⟨hi, n2, hr2⟩ : ∃ hi n2, Gl.ron ((Ig.L s).drop (j + n1 + 1)) = (hi, n2) := ⟨_, _, rfl⟩
                  rw [hr2] at HR2
                  have hn2 : n2 ≤ s.size - (j + n1 + 1) := by
                    have := (Gl.ron_le ((Ig.L s).drop (j + n1 + 1))).1
                    rw [hr2, List.length_drop] at this
                    exact this
                  have HIR : Hid (Gl.item ((Ig.L s).drop j) = if n2 = 0 then none else if lo ≤ hi then some (lo, hi, (Ig.L s).drop (j + n1 + 1 + n2)) else none) := Lib.hid (by
                    have h := item_range HRN.out (by omega) (d := d) (u := (Ig.L s).drop (j + n1 + 1 + 1)) (by rw [HDN.out, HA1.out, HA2.out]) hd93
                    rw [← HA2.out, hr2] at h
                    rw [h, List.drop_drop])
                  clear hr2 hex2 hd93
                  go_wp2_with fail
                  refine (HR2.out _).mono ?_
                  rintro e w1 ⟨rfl, rfl⟩
                  clear HR2
                  rcases Nat.eq_zero_or_pos n2 with hn20 | hn20
                  · subst hn20
                    have HNN : Hid (Gl.cls ((Ig.L s).drop 1) = none) := Lib.hid (by rw [HLN.out, HI.out.1, HIC.out, HIR.out, if_pos rfl])
                    clear HI HIC
                    obtain ⟨Y, hY, hYs⟩ := HE.out.all
                    have HYE := Lib.hid hY
                    have HY := Lib.hid hYs
                    clear hY hYs
                    go_wp2_with (first
                      | (refine wpList_load_arr rfl 150 (.tmp 4) rfl (w.heap.size + 1) 0 rfl Y _ HY.out.1 Tryz.underlying150 rfl HY.out.2.1 ?_; try simp only [Act.put, sA, s0, sS])
                      | (refine wpList_store_mid rfl 150 (.tmp 2) (.tmp 87) rfl w.heap.size 0 Y rfl rfl HY.out.2.2.1 HY.out.2.2.2.1 HY.out.2.2.2.2.1 ?_; try simp only [Act.put]))
                    refine bodyPost_ret (results_cell_two (ty := 150) Tryz.results120 (a := ⟨w.heap.size, 0, none⟩) (v := .agg Y) rfl HY.out.2.2.2.2.2.1) rfl ?_
                    exact ⟨p, 0, by rw [← HYE.out]; rfl, Nat.zero_le _, HNN.out, HY.out.2.2.2.2.2.2⟩
                  · have hn2b : ((n2 : Int) == 0) = false := beq_eq_false_iff_ne.2 (by omega)
                    by_cases hlh : lo ≤ hi
                    · have hlh2 : ¬ ((hi.toNat : Int) < (lo.toNat : Int)) := by have := UInt8.le_iff_toNat_le.1 hlh; omega
                      have hw2 := wrap_byte hi
                      have hlh3 := UInt8.le_iff_toNat_le.1 hlh
                      have HIT : Hid (Gl.item ((Ig.L s).drop j) = some (lo, hi, (Ig.L s).drop (j + n1 + 1 + n2))) := Lib.hid (by rw [HIR.out, if_neg (by omega), if_pos hlh])
                      have HIN : Hid (Gl.items (((Ig.L s).drop 2).length + 1) ((Ig.L s).drop 2) (fun _ => false) 0 = Gl.items m ((Ig.L s).drop (j + n1 + 1 + n2)) (fun b => p b || (decide (lo ≤ b) && decide (b ≤ hi))) (k + 1) ∧ ((Ig.L s).drop (j + n1 + 1 + n2)).length < m) := Lib.hid ⟨by rw [HI.out.1, HIC.out, HIT.out], by have := HLT.out; rw [List.length_drop] at this ⊢; omega⟩
                      clear HI HIC HIR HIT hlh
                      go_wp2_with fail
                      go_loopw [13] (fun u13 wr => ∃ b : Nat, u13 = .int .i64 b ∧ lo.toNat ≤ b ∧ b ≤ hi.toNat + 1 ∧ Hid (Est w (fillTo p lo b) wr)) (fun u _ => 256 - (intOf u).toNat)
                      case atStart => exact ⟨lo.toNat, by first | rfl | rw [hw1], Nat.le_refl _, by omega, Lib.hid (by rw [fillTo_start]; exact HE.out)⟩
                      case round =>
                        rename World => wf
                        obtain ⟨b, rfl, hlb, hbh, HF⟩ := hrel
                        have hb255 : hi.toNat < 256 := UInt8.toNat_lt hi
                        by_cases hbl : b ≤ hi.toNat
                        · have hbl2 : (b : Int) ≤ (hi.toNat : Int) := by omega
                          have e3 : (UInt8.ofNat b).toNat = b := UInt8.toNat_ofNat_of_lt' (show b < 256 by omega)
                          have hcell : wf.cell? ⟨w.heap.size + 1, 2 + b, none⟩ = some (.bool (fillTo p lo b (UInt8.ofNat b))) := by
                            rw [HF.out.row.cell]
                            have := eltOf_get false false (fillTo p lo b) (UInt8.ofNat b)
                            rwa [e3] at this
                          have hfz : wf.frozen? ⟨w.heap.size + 1, 2 + b, none⟩ = false := HF.out.row.frozen _
                          have HF2 : Hid (Est w (fillTo p lo (b + 1)) (wf.setCell ⟨w.heap.size + 1, 2 + b, none⟩ (.bool true))) := Lib.hid (by
                            have := HF.out.put (UInt8.ofNat b) true
                            rw [e3, fillTo_put p lo hlb (by omega)] at this
                            exact this)
                          clear HF e3
                          go_wp2_with fail
                          go_roundw
                          case rel => exact ⟨b + 1, rfl, by omega, by omega, HF2⟩
                          case measure => simp [intOf]; omega
                        · obtain rfl : b = hi.toNat + 1 := by omega
                          have hbl2 : ¬ ((hi.toNat : Int) + 1 ≤ (hi.toNat : Int)) := by omega
                          have HE3 : Hid (Est w (fun b => p b || (decide (lo ≤ b) && decide (b ≤ hi))) wf) := Lib.hid (by have := HF.out; rwa [fillTo_end] at this)
                          clear HF HE
                          go_wp2_with fail
                          go_roundw
                          case rel => exact ⟨j + n1 + 1 + n2, k + 1, _, m, by first | rfl | (congr 1; push_cast; omega), by first | rfl | (congr 1; push_cast; omega), by omega, by omega, HE3, HIN⟩
                          case measure => simp [intOf]; omega
                    · have hlh2 : (hi.toNat : Int) < (lo.toNat : Int) := by have : ¬ lo.toNat ≤ hi.toNat := fun h => hlh (UInt8.le_iff_toNat_le.2 h); omega
                      have HNN : Hid (Gl.cls ((Ig.L s).drop 1) = none) := Lib.hid (by rw [HLN.out, HI.out.1, HIC.out, HIR.out, if_neg (by omega), if_neg hlh])
                      clear HI HIC
                      obtain ⟨Y, hY, hYs⟩ := HE.out.all
                      have HYE := Lib.hid hY
                      have HY := Lib.hid hYs
                      clear hY hYs
                      go_wp2_with (first
                        | (refine wpList_load_arr rfl 150 (.tmp 4) rfl (w.heap.size + 1) 0 rfl Y _ HY.out.1 Tryz.underlying150 rfl HY.out.2.1 ?_; try simp only [Act.put, sA, s0, sS])
                        | (refine wpList_store_mid rfl 150 (.tmp 2) (.tmp 87) rfl w.heap.size 0 Y rfl rfl HY.out.2.2.1 HY.out.2.2.2.1 HY.out.2.2.2.2.1 ?_; try simp only [Act.put]))
                      refine bodyPost_ret (results_cell_two (ty := 150) Tryz.results120 (a := ⟨w.heap.size, 0, none⟩) (v := .agg Y) rfl HY.out.2.2.2.2.2.1) rfl ?_
                      exact ⟨p, 0, by rw [← HYE.out]; rfl, Nat.zero_le _, HNN.out, HY.out.2.2.2.2.2.2⟩
              · have e5 : ((x.toNat : Int) == 45) = false := byte_ne (n := 45) (by omega) hx45
                have HIT : Hid (Gl.item ((Ig.L s).drop j) = some (lo, lo, (Ig.L s).drop (j + n1))) := Lib.hid (by rw [item_alone HRN.out (by omega) (by rw [HDN.out, HA1.out]; intro d' u' e; simp at e; exact absurd e.1 hx45), HDN.out])
                have HIN : Hid (Gl.items (((Ig.L s).drop 2).length + 1) ((Ig.L s).drop 2) (fun _ => false) 0 = Gl.items m ((Ig.L s).drop (j + n1)) (fun b => p b || (decide (lo ≤ b) && decide (b ≤ lo))) (k + 1) ∧ ((Ig.L s).drop (j + n1)).length < m) := Lib.hid ⟨by rw [HI.out.1, HIC.out, HIT.out], by have := HLT.out; rw [List.length_drop] at this ⊢; omega⟩
                clear HI HIC HIT
                go_wp2_with fail
                go_loopw [13] (fun u13 wr => ∃ b : Nat, u13 = .int .i64 b ∧ lo.toNat ≤ b ∧ b ≤ lo.toNat + 1 ∧ Hid (Est w (fillTo p lo b) wr)) (fun u _ => 256 - (intOf u).toNat)
                case atStart => exact ⟨lo.toNat, by first | rfl | rw [hw1], Nat.le_refl _, by omega, Lib.hid (by rw [fillTo_start]; exact HE.out)⟩
                case round =>
                  rename World => wf
                  obtain ⟨b, rfl, hlb, hbh, HF⟩ := hrel
                  have hb255 : lo.toNat < 256 := UInt8.toNat_lt lo
                  by_cases hbl : b ≤ lo.toNat
                  · have hbl2 : (b : Int) ≤ (lo.toNat : Int) := by omega
                    have e3 : (UInt8.ofNat b).toNat = b := UInt8.toNat_ofNat_of_lt' (show b < 256 by omega)
                    have hcell : wf.cell? ⟨w.heap.size + 1, 2 + b, none⟩ = some (.bool (fillTo p lo b (UInt8.ofNat b))) := by
                      rw [HF.out.row.cell]
                      have := eltOf_get false false (fillTo p lo b) (UInt8.ofNat b)
                      rwa [e3] at this
                    have hfz : wf.frozen? ⟨w.heap.size + 1, 2 + b, none⟩ = false := HF.out.row.frozen _
                    have HF2 : Hid (Est w (fillTo p lo (b + 1)) (wf.setCell ⟨w.heap.size + 1, 2 + b, none⟩ (.bool true))) := Lib.hid (by
                      have := HF.out.put (UInt8.ofNat b) true
                      rw [e3, fillTo_put p lo hlb (by omega)] at this
                      exact this)
                    clear HF e3
                    go_wp2_with fail
                    go_roundw
                    case rel => exact ⟨b + 1, rfl, by omega, by omega, HF2⟩
                    case measure => simp [intOf]; omega
                  · obtain rfl : b = lo.toNat + 1 := by omega
                    have hbl2 : ¬ ((lo.toNat : Int) + 1 ≤ (lo.toNat : Int)) := by omega
                    have HE3 : Hid (Est w (fun b => p b || (decide (lo ≤ b) && decide (b ≤ lo))) wf) := Lib.hid (by have := HF.out; rwa [fillTo_end] at this)
                    clear HF HE
                    go_wp2_with fail
                    go_roundw
                    case rel => exact ⟨j + n1, k + 1, _, m, by first | rfl | (congr 1; push_cast; omega), by first | rfl | (congr 1; push_cast; omega), by omega, by omega, HE3, HIN⟩
                    case measure => simp [intOf]; omega
            · have ha2 : ¬ ((j : Int) + (n1 : Int) + 1 < (s.size : Int)) := by omega
              have HIT : Hid (Gl.item ((Ig.L s).drop j) = some (lo, lo, (Ig.L s).drop (j + n1))) := Lib.hid (by rw [item_alone HRN.out (by omega) (by rw [HDN.out]; intro d' u' e; have h9 := congrArg List.length e; rw [List.length_drop] at h9; simp at h9; have : (Ig.L s).length = s.size := rfl; omega), HDN.out])
              have HIN : Hid (Gl.items (((Ig.L s).drop 2).length + 1) ((Ig.L s).drop 2) (fun _ => false) 0 = Gl.items m ((Ig.L s).drop (j + n1)) (fun b => p b || (decide (lo ≤ b) && decide (b ≤ lo))) (k + 1) ∧ ((Ig.L s).drop (j + n1)).length < m) := Lib.hid ⟨by rw [HI.out.1, HIC.out, HIT.out], by have := HLT.out; rw [List.length_drop] at this ⊢; omega⟩
              clear HI HIC HIT
              go_wp2_with fail
              go_loopw [13] (fun u13 wr => ∃ b : Nat, u13 = .int .i64 b ∧ lo.toNat ≤ b ∧ b ≤ lo.toNat + 1 ∧ Hid (Est w (fillTo p lo b) wr)) (fun u _ => 256 - (intOf u).toNat)
              case atStart => exact ⟨lo.toNat, by first | rfl | rw [hw1], Nat.le_refl _, by omega, Lib.hid (by rw [fillTo_start]; exact HE.out)⟩
              case round =>
                rename World => wf
                obtain ⟨b, rfl, hlb, hbh, HF⟩ := hrel
                have hb255 : lo.toNat < 256 := UInt8.toNat_lt lo
                by_cases hbl : b ≤ lo.toNat
                · have hbl2 : (b : Int) ≤ (lo.toNat : Int) := by omega
                  have e3 : (UInt8.ofNat b).toNat = b := UInt8.toNat_ofNat_of_lt' (show b < 256 by omega)
                  have hcell : wf.cell? ⟨w.heap.size + 1, 2 + b, none⟩ = some (.bool (fillTo p lo b (UInt8.ofNat b))) := by
                    rw [HF.out.row.cell]
                    have := eltOf_get false false (fillTo p lo b) (UInt8.ofNat b)
                    rwa [e3] at this
                  have hfz : wf.frozen? ⟨w.heap.size + 1, 2 + b, none⟩ = false := HF.out.row.frozen _
                  have HF2 : Hid (Est w (fillTo p lo (b + 1)) (wf.setCell ⟨w.heap.size + 1, 2 + b, none⟩ (.bool true))) := Lib.hid (by
                    have := HF.out.put (UInt8.ofNat b) true
                    rw [e3, fillTo_put p lo hlb (by omega)] at this
                    exact this)
                  clear HF e3
                  go_wp2_with fail
                  go_roundw
                  case rel => exact ⟨b + 1, rfl, by omega, by omega, HF2⟩
                  case measure => simp [intOf]; omega
                · obtain rfl : b = lo.toNat + 1 := by omega
                  have hbl2 : ¬ ((lo.toNat : Int) + 1 ≤ (lo.toNat : Int)) := by omega
                  have HE3 : Hid (Est w (fun b => p b || (decide (lo ≤ b) && decide (b ≤ lo))) wf) := Lib.hid (by have := HF.out; rwa [fillTo_end] at this)
                  clear HF HE
                  go_wp2_with fail
                  go_roundw
                  case rel => exact ⟨j + n1, k + 1, _, m, by first | rfl | (congr 1; push_cast; omega), by first | rfl | (congr 1; push_cast; omega), by omega, by omega, HE3, HIN⟩
                  case measure => simp [intOf]; omega
      · obtain rfl : j = s.size := by omega
        have HNN : Hid (Gl.cls ((Ig.L s).drop 1) = none) := Lib.hid (by
          have hnil : (Ig.L s).drop s.size = [] := List.drop_eq_nil_of_le (Nat.le_refl _)
          rw [HLN.out, HI.out.1, hnil]
          cases n <;> rfl)
        clear HI
        obtain ⟨Y, hY, hYs⟩ := HE.out.all
        have HYE := Lib.hid hY
        have HY := Lib.hid hYs
        clear hY hYs
        go_wp2_with (first
          | (refine wpList_load_arr rfl 150 (.tmp 4) rfl (w.heap.size + 1) 0 rfl Y _ HY.out.1 Tryz.underlying150 rfl HY.out.2.1 ?_; try simp only [Act.put, sA, s0, sS])
          | (refine wpList_store_mid rfl 150 (.tmp 2) (.tmp 114) rfl w.heap.size 0 Y rfl rfl HY.out.2.2.1 HY.out.2.2.2.1 HY.out.2.2.2.2.1 ?_; try simp only [Act.put]))
        refine bodyPost_ret (results_cell_two (ty := 150) Tryz.results120 (a := ⟨w.heap.size, 0, none⟩) (v := .agg Y) rfl HY.out.2.2.2.2.2.1) rfl ?_
        exact ⟨p, 0, by rw [← HYE.out]; rfl, Nat.zero_le _, HNN.out, HY.out.2.2.2.2.2.2⟩
  · have HLN : Hid (Gl.cls ((Ig.L s).drop 1) = match Gl.items (((Ig.L s).drop 1).length + 1) ((Ig.L s).drop 1) (fun _ => false) 0 with
      | none => none
      | some (p, k, r) => if k ≠ 0 ∧ Gl.some256 (Gl.clsSet false p) = true then some (some (Gl.clsSet false p), r) else none) := Lib.hid (cls_pos (by
        by_cases h1 : 1 < s.size
        · rw [drop_at (byteAt s h1)]
          have : s[1] ≠ 33 := fun e => hn ⟨h1, e⟩
          simpa using this
        · rw [List.drop_eq_nil_of_le (by show s.size ≤ 1; omega)]
          rfl))
    have hi0 : 1 ≤ s.size := h0
    by_cases h1 : 1 < s.size
    · have e33 : ((s[1].toNat : Int) == 33) = false := byte_ne (n := 33) (by omega) (fun e => hn ⟨h1, e⟩)
      go_enter Tryz.func120, Tryz.ntmps120
      go_wp2_with (first
        | (refine wpList_allocTo rfl 150 rfl Z HZ.out.1 w.heap.size rfl ?_; try simp only [Act.put, sA, s0, sS])
        | (refine wpList_allocTo rfl 150 rfl Z HZ.out.1 (w.heap.size + 1) (by simp) ?_; try simp only [Act.put, sA, s0, sS])
        | (refine wpList_buildZ rfl 150 rfl Z HZ.out.2.1 ?_; try simp only [Act.put, sA, s0, sS])
        | (refine wpList_store_mid rfl 150 (.tmp 4) (.tmp 16) rfl (w.heap.size + 1) 0 Z rfl rfl HTH.out HZ.out.2.2.1 HZ.out.2.2.2 ?_; try simp only [Act.put]))
      clear HTH e33 hn h1
      go_loopw [5, 7, 8, 9, 10, 11, 12, 13] (fun u5 u7 _ _ _ _ _ _ wr => ∃ (j k : Nat) (p : UInt8 → Bool) (n : Nat), u5 = .int .i64 j ∧ u7 = .int .i64 k ∧ k ≤ j ∧ j ≤ s.size ∧ Hid (Est w p wr) ∧ Hid (Gl.items (((Ig.L s).drop 1).length + 1) ((Ig.L s).drop 1) (fun _ => false) 0 = Gl.items n ((Ig.L s).drop j) p k ∧ ((Ig.L s).drop j).length < n)) (fun u _ _ _ _ _ _ _ _ => s.size - (intOf u).toNat)
      case atStart => exact ⟨1, 0, _, _, rfl, rfl, Nat.zero_le _, hi0, HE0, Lib.hid ⟨rfl, Nat.lt_succ_self _⟩⟩
      case round =>
        clear HE0
        rename World => wo
        obtain ⟨j, k, p, n, rfl, rfl, hkj, hjs, HE, HI⟩ := hrel
        by_cases hlt : j < s.size
        · have hat := byteAt s hlt
          obtain ⟨c, hc⟩ : ∃ c, s[j] = c := ⟨_, rfl⟩
          rw [hc] at hat
          have HDR := Lib.hid (drop_at hat)
          have hlen : (Ig.L s).length = s.size := rfl
          obtain ⟨m, rfl⟩ : ∃ m, n = m + 1 := ⟨n - 1, by have := HI.out.2; omega⟩
          have HLT : Hid (((Ig.L s).drop (j + 1)).length < m) := Lib.hid (by have := HI.out.2; rw [HDR.out, List.length_cons] at this; omega)
          clear hat hlen
          by_cases h93 : c = 93
          · have e1 : ((c.toNat : Int) != 93) = false := by rw [h93]; rfl
            have HN : Hid (Gl.items (((Ig.L s).drop 1).length + 1) ((Ig.L s).drop 1) (fun _ => false) 0 = some (p, k, (Ig.L s).drop (j + 1))) := Lib.hid (by rw [HI.out.1, HDR.out, h93, items_end])
            have hjz : ¬ ((s.size : Int) ≤ (j : Int)) := by omega
            subst h93
            rcases Nat.eq_zero_or_pos k with hk0 | hk0
            · subst hk0
              have HNN : Hid (Gl.cls ((Ig.L s).drop 1) = none) := Lib.hid (by rw [HLN.out, HN.out]; simp)
              obtain ⟨Y, hY, hYs⟩ := HE.out.all
              have HYE := Lib.hid hY
              have HY := Lib.hid hYs
              clear hY hYs
              go_wp2_with (first
                | (refine wpList_load_arr rfl 150 (.tmp 4) rfl (w.heap.size + 1) 0 rfl Y _ HY.out.1 Tryz.underlying150 rfl HY.out.2.1 ?_; try simp only [Act.put, sA, s0, sS])
                | (refine wpList_store_mid rfl 150 (.tmp 2) (.tmp 114) rfl w.heap.size 0 Y rfl rfl HY.out.2.2.1 HY.out.2.2.2.1 HY.out.2.2.2.2.1 ?_; try simp only [Act.put]))
              refine bodyPost_ret (results_cell_two (ty := 150) Tryz.results120 (a := ⟨w.heap.size, 0, none⟩) (v := .agg Y) rfl HY.out.2.2.2.2.2.1) rfl ?_
              exact ⟨p, 0, by rw [← HYE.out]; rfl, Nat.zero_le _, HNN.out, HY.out.2.2.2.2.2.2⟩
            · have hkb : ((k : Int) == 0) = false := beq_eq_false_iff_ne.2 (by omega)
              go_wp2_with fail
              go_loopw [14, 15] (fun u14 u15 wr => ∃ (b : Nat) (sm : Bool), u14 = .bool sm ∧ u15 = .int .i64 b ∧ b ≤ 256 ∧ Hid (Est w (midRow false p b) wr) ∧ Hid (sm = (List.range b).any fun i => Gl.clsSet false p (UInt8.ofNat i))) (fun _ u _ => 256 - (intOf u).toNat)
              case atStart => exact ⟨0, false, rfl, rfl, Nat.zero_le _, Lib.hid (by rw [midRow_zero]; exact HE.out), Lib.hid rfl⟩
              case round =>
                clear HE
                rename World => wf
                obtain ⟨b, sm, rfl, rfl, hb256, HF, HSM⟩ := hrel
                by_cases hbl : b < 256
                · have hbl2 : (b : Int) < 256 := by omega
                  have e3 : (UInt8.ofNat b).toNat = b := UInt8.toNat_ofNat_of_lt' hbl
                  have hcell : wf.cell? ⟨w.heap.size + 1, 2 + b, none⟩ = some (.bool (p (UInt8.ofNat b))) := by
                    rw [HF.out.row.cell]
                    have := eltOf_get false false (midRow false p b) (UInt8.ofNat b)
                    rw [e3] at this
                    rw [this]
                    unfold midRow
                    rw [e3, if_neg (Nat.lt_irrefl b)]
                  have hfz : wf.frozen? ⟨w.heap.size + 1, 2 + b, none⟩ = false := HF.out.row.frozen _
                  have HF2 : Hid (∀ v, v = Gl.clsSet false p (UInt8.ofNat b) → Est w (midRow false p (b + 1)) (wf.setCell ⟨w.heap.size + 1, 2 + b, none⟩ (.bool v))) := Lib.hid (fun v hv => by
                    have := HF.out.put (UInt8.ofNat b) v
                    have h2 := midRow_step false p (UInt8.ofNat b)
                    rw [e3] at h2
                    rw [hv, e3, h2] at this
                    rw [hv]
                    exact this)
                  have HSN : Hid (∀ v, v = Gl.clsSet false p (UInt8.ofNat b) → (List.range (b + 1)).any (fun i => Gl.clsSet false p (UInt8.ofNat i)) = (sm || v)) := Lib.hid (fun v hv => by rw [List.range_succ, List.any_append, ← HSM.out, hv]; simp)
                  have HV : Hid (Gl.clsSet false p (UInt8.ofNat b) = (UInt8.ofNat b != 47 && (p (UInt8.ofNat b) != false))) := Lib.hid rfl
                  have h47 : (UInt8.ofNat b != 47) = ((b : Int) != 47) := by
                    have := byte_beq (UInt8.ofNat b) 47 (by omega)
                    rw [e3] at this
                    exact congrArg not this.symm
                  rw [h47] at HV
                  generalize p (UInt8.ofNat b) = pc at hcell HV
                  clear h47 e3 HF HSM
                  cases h7 : ((b : Int) != 47) <;> rw [h7] at HV <;> cases pc <;> cases sm
                  all_goals
                    go_wp2_with fail
                    go_roundw
                    case rel => exact ⟨b + 1, _, rfl, rfl, by omega, Lib.hid (HF2.out _ HV.out.symm), Lib.hid (by rw [HSN.out _ HV.out.symm]; rfl)⟩
                    case measure => simp [intOf]; omega
                · obtain rfl : b = 256 := by omega
                  have HF3 : Hid (Est w (Gl.clsSet false p) wf) := Lib.hid (by have := HF.out; rwa [midRow_end] at this)
                  have HS3 : Hid (sm = Gl.some256 (Gl.clsSet false p)) := Lib.hid HSM.out
                  clear HF HSM
                  cases sm with
                  | false =>
                    have HNN : Hid (Gl.cls ((Ig.L s).drop 1) = none) := Lib.hid (by rw [HLN.out, HN.out]; simp [← HS3.out])
                    obtain ⟨Y, hY, hYs⟩ := HF3.out.all
                    have HYE := Lib.hid hY
                    have HY := Lib.hid hYs
                    clear hY hYs
                    go_wp2_with (first
                      | (refine wpList_load_arr rfl 150 (.tmp 4) rfl (w.heap.size + 1) 0 rfl Y _ HY.out.1 Tryz.underlying150 rfl HY.out.2.1 ?_; try simp only [Act.put, sA, s0, sS])
                      | (refine wpList_store_mid rfl 150 (.tmp 2) (.tmp 141) rfl w.heap.size 0 Y rfl rfl HY.out.2.2.1 HY.out.2.2.2.1 HY.out.2.2.2.2.1 ?_; try simp only [Act.put]))
                    refine bodyPost_ret (results_cell_two (ty := 150) Tryz.results120 (a := ⟨w.heap.size, 0, none⟩) (v := .agg Y) rfl HY.out.2.2.2.2.2.1) rfl ?_
                    exact ⟨Gl.clsSet false p, 0, by rw [← HYE.out]; rfl, Nat.zero_le _, HNN.out, HY.out.2.2.2.2.2.2⟩
                  | true =>
                    have HNN : Hid (Gl.cls ((Ig.L s).drop 1) = some (some (Gl.clsSet false p), (Ig.L s).drop (j + 1))) := Lib.hid (by rw [HLN.out, HN.out]; exact if_pos ⟨by omega, HS3.out.symm⟩)
                    obtain ⟨Y, hY, hYs⟩ := HF3.out.all
                    have HYE := Lib.hid hY
                    have HY := Lib.hid hYs
                    clear hY hYs
                    go_wp2_with (first
                      | (refine wpList_load_arr rfl 150 (.tmp 4) rfl (w.heap.size + 1) 0 rfl Y _ HY.out.1 Tryz.underlying150 rfl HY.out.2.1 ?_; try simp only [Act.put, sA, s0, sS])
                      | (refine wpList_store_mid rfl 150 (.tmp 2) (.tmp 142) rfl w.heap.size 0 Y rfl rfl HY.out.2.2.1 HY.out.2.2.2.1 HY.out.2.2.2.2.1 ?_; try simp only [Act.put]))
                    refine bodyPost_ret (results_cell_two (ty := 150) Tryz.results120 (a := ⟨w.heap.size, 0, none⟩) (v := .agg Y) rfl HY.out.2.2.2.2.2.1) rfl ?_
                    exact ⟨Gl.clsSet false p, j + 1, by rw [← HYE.out]; rfl, hlt, (by rw [HNN.out, if_neg (Nat.succ_ne_zero j)]), HY.out.2.2.2.2.2.2⟩
          · have e1 : ((c.toNat : Int) != 93) = true := by
              have := byte_ne (n := 93) (by omega) h93
              simpa using this
            have hex : Ig.L (s.extract j s.size) = (Ig.L s).drop j := L_from s j
            have HR1 : Hid (∀ W, Calls Tryz.prog 121 #[.string (s.extract j s.size)] W (Same (.tuple #[.int .u8 (Gl.ron ((Ig.L s).drop j)).1.toNat, .int .i64 (Gl.ron ((Ig.L s).drop j)).2]) W)) := Lib.hid fun W => by
              rw [← hex]
              exact rone_same _ W
            obtain ⟨lo, n1, hr⟩ : ∃ lo n1, Gl.ron ((Ig.L s).drop j) = (lo, n1) := ⟨_, _, rfl⟩
            rw [hr] at HR1
            have hn1 : n1 ≤ s.size - j := by
              have := (Gl.ron_le ((Ig.L s).drop j)).1
              rw [hr, List.length_drop] at this
              exact this
            have HRN := Lib.hid hr
            have HIC : Hid (Gl.items (m + 1) ((Ig.L s).drop j) p k = match Gl.item ((Ig.L s).drop j) with
              | none => none
              | some (lo, hi, t) => Gl.items m t (fun b => p b || (decide (lo ≤ b) && decide (b ≤ hi))) (k + 1)) := Lib.hid (by rw [HDR.out]; exact items_cons h93)
            clear hr hex
            go_wp2_with fail
            refine (HR1.out _).mono ?_
            rintro e w1 ⟨rfl, rfl⟩
            rcases Nat.eq_zero_or_pos n1 with hn0 | hn0
            · subst hn0
              have HNN : Hid (Gl.cls ((Ig.L s).drop 1) = none) := Lib.hid (by
                rw [HLN.out, HI.out.1, HIC.out, item_none (by rw [Gl.plain_ron, HRN.out]; rfl)])
              clear HI HIC HR1
              obtain ⟨Y, hY, hYs⟩ := HE.out.all
              have HYE := Lib.hid hY
              have HY := Lib.hid hYs
              clear hY hYs
              go_wp2_with (first
                | (refine wpList_load_arr rfl 150 (.tmp 4) rfl (w.heap.size + 1) 0 rfl Y _ HY.out.1 Tryz.underlying150 rfl HY.out.2.1 ?_; try simp only [Act.put, sA, s0, sS])
                | (refine wpList_store_mid rfl 150 (.tmp 2) (.tmp 49) rfl w.heap.size 0 Y rfl rfl HY.out.2.2.1 HY.out.2.2.2.1 HY.out.2.2.2.2.1 ?_; try simp only [Act.put]))
              refine bodyPost_ret (results_cell_two (ty := 150) Tryz.results120 (a := ⟨w.heap.size, 0, none⟩) (v := .agg Y) rfl HY.out.2.2.2.2.2.1) rfl ?_
              exact ⟨p, 0, by rw [← HYE.out]; rfl, Nat.zero_le _, HNN.out, HY.out.2.2.2.2.2.2⟩
            · have hnb : ((n1 : Int) == 0) = false := beq_eq_false_iff_ne.2 (by omega)
              have hw1 := wrap_byte lo
              have HDN : Hid (((Ig.L s).drop j).drop n1 = (Ig.L s).drop (j + n1)) := Lib.hid (List.drop_drop ..)
              clear HR1
              by_cases ha : j + n1 + 1 < s.size
              · have ha2 : (j : Int) + (n1 : Int) + 1 < (s.size : Int) := by omega
                have hj1 : j + n1 < s.size := by omega
                have HA1 := Lib.hid (drop_at (byteAt s hj1))
                have HA2 := Lib.hid (drop_at (byteAt s ha))
                obtain ⟨x, hx⟩ : ∃ x, s[j + n1] = x := ⟨_, rfl⟩
                obtain ⟨d, hd⟩ : ∃ x, s[j + n1 + 1] = x := ⟨_, rfl⟩
                rw [hx] at HA1
                rw [hd] at HA2
                by_cases hx45 : x = 45
                · have e5 : ((x.toNat : Int) == 45) = true := by rw [hx45]; rfl
                  subst hx45
                  by_cases hd93 : d = 93
                  · have e6 : ((d.toNat : Int) != 93) = false := by rw [hd93]; rfl
                    have HIT : Hid (Gl.item ((Ig.L s).drop j) = some (lo, lo, (Ig.L s).drop (j + n1))) := Lib.hid (by rw [item_alone HRN.out (by omega) (by rw [HDN.out, HA1.out, HA2.out]; intro d' u' e; simp at e; rw [← e.1]; exact hd93), HDN.out])
                    subst hd93
                    have HIN : Hid (Gl.items (((Ig.L s).drop 1).length + 1) ((Ig.L s).drop 1) (fun _ => false) 0 = Gl.items m ((Ig.L s).drop (j + n1)) (fun b => p b || (decide (lo ≤ b) && decide (b ≤ lo))) (k + 1) ∧ ((Ig.L s).drop (j + n1)).length < m) := Lib.hid ⟨by rw [HI.out.1, HIC.out, HIT.out], by have := HLT.out; rw [List.length_drop] at this ⊢; omega⟩
                    clear HI HIC HIT
                    go_wp2_with fail
                    go_loopw [13] (fun u13 wr => ∃ b : Nat, u13 = .int .i64 b ∧ lo.toNat ≤ b ∧ b ≤ lo.toNat + 1 ∧ Hid (Est w (fillTo p lo b) wr)) (fun u _ => 256 - (intOf u).toNat)
                    case atStart => exact ⟨lo.toNat, by first | rfl | rw [hw1], Nat.le_refl _, by omega, Lib.hid (by rw [fillTo_start]; exact HE.out)⟩
                    case round =>
                      rename World => wf
                      obtain ⟨b, rfl, hlb, hbh, HF⟩ := hrel
                      have hb255 : lo.toNat < 256 := UInt8.toNat_lt lo
                      by_cases hbl : b ≤ lo.toNat
                      · have hbl2 : (b : Int) ≤ (lo.toNat : Int) := by omega
                        have e3 : (UInt8.ofNat b).toNat = b := UInt8.toNat_ofNat_of_lt' (show b < 256 by omega)
                        have hcell : wf.cell? ⟨w.heap.size + 1, 2 + b, none⟩ = some (.bool (fillTo p lo b (UInt8.ofNat b))) := by
                          rw [HF.out.row.cell]
                          have := eltOf_get false false (fillTo p lo b) (UInt8.ofNat b)
                          rwa [e3] at this
                        have hfz : wf.frozen? ⟨w.heap.size + 1, 2 + b, none⟩ = false := HF.out.row.frozen _
                        have HF2 : Hid (Est w (fillTo p lo (b + 1)) (wf.setCell ⟨w.heap.size + 1, 2 + b, none⟩ (.bool true))) := Lib.hid (by
                          have := HF.out.put (UInt8.ofNat b) true
                          rw [e3, fillTo_put p lo hlb (by omega)] at this
                          exact this)
                        clear HF e3
                        go_wp2_with fail
                        go_roundw
                        case rel => exact ⟨b + 1, rfl, by omega, by omega, HF2⟩
                        case measure => simp [intOf]; omega
                      · obtain rfl : b = lo.toNat + 1 := by omega
                        have hbl2 : ¬ ((lo.toNat : Int) + 1 ≤ (lo.toNat : Int)) := by omega
                        have HE3 : Hid (Est w (fun b => p b || (decide (lo ≤ b) && decide (b ≤ lo))) wf) := Lib.hid (by have := HF.out; rwa [fillTo_end] at this)
                        clear HF HE
                        go_wp2_with fail
                        go_roundw
                        case rel => exact ⟨j + n1, k + 1, _, m, by first | rfl | (congr 1; push_cast; omega), by first | rfl | (congr 1; push_cast; omega), by omega, by omega, HE3, HIN⟩
                        case measure => simp [intOf]; omega
                  · have e6 : ((d.toNat : Int) != 93) = true := by
                      have := byte_ne (n := 93) (by omega) hd93
                      simpa using this
                    have hex2 : Ig.L (s.extract (j + n1 + 1) s.size) = (Ig.L s).drop (j + n1 + 1) := L_from s (j + n1 + 1)
                    have HR2 : Hid (∀ W, Calls Tryz.prog 121 #[.string (s.extract (j + n1 + 1) s.size)] W (Same (.tuple #[.int .u8 (Gl.ron ((Ig.L s).drop (j + n1 + 1))).1.toNat, .int .i64 (Gl.ron ((Ig.L s).drop (j + n1 + 1))).2]) W)) := Lib.hid fun W => by
                      rw [← hex2]
                      exact rone_same _ W
                    obtain ⟨hi, n2, hr2⟩ : ∃ hi n2, Gl.ron ((Ig.L s).drop (j + n1 + 1)) = (hi, n2) := ⟨_, _, rfl⟩
                    rw [hr2] at HR2
                    have hn2 : n2 ≤ s.size - (j + n1 + 1) := by
                      have := (Gl.ron_le ((Ig.L s).drop (j + n1 + 1))).1
                      rw [hr2, List.length_drop] at this
                      exact this
                    have HIR : Hid (Gl.item ((Ig.L s).drop j) = if n2 = 0 then none else if lo ≤ hi then some (lo, hi, (Ig.L s).drop (j + n1 + 1 + n2)) else none) := Lib.hid (by
                      have h := item_range HRN.out (by omega) (d := d) (u := (Ig.L s).drop (j + n1 + 1 + 1)) (by rw [HDN.out, HA1.out, HA2.out]) hd93
                      rw [← HA2.out, hr2] at h
                      rw [h, List.drop_drop])
                    clear hr2 hex2 hd93
                    go_wp2_with fail
                    refine (HR2.out _).mono ?_
                    rintro e w1 ⟨rfl, rfl⟩
                    clear HR2
                    rcases Nat.eq_zero_or_pos n2 with hn20 | hn20
                    · subst hn20
                      have HNN : Hid (Gl.cls ((Ig.L s).drop 1) = none) := Lib.hid (by rw [HLN.out, HI.out.1, HIC.out, HIR.out, if_pos rfl])
                      clear HI HIC
                      obtain ⟨Y, hY, hYs⟩ := HE.out.all
                      have HYE := Lib.hid hY
                      have HY := Lib.hid hYs
                      clear hY hYs
                      go_wp2_with (first
                        | (refine wpList_load_arr rfl 150 (.tmp 4) rfl (w.heap.size + 1) 0 rfl Y _ HY.out.1 Tryz.underlying150 rfl HY.out.2.1 ?_; try simp only [Act.put, sA, s0, sS])
                        | (refine wpList_store_mid rfl 150 (.tmp 2) (.tmp 87) rfl w.heap.size 0 Y rfl rfl HY.out.2.2.1 HY.out.2.2.2.1 HY.out.2.2.2.2.1 ?_; try simp only [Act.put]))
                      refine bodyPost_ret (results_cell_two (ty := 150) Tryz.results120 (a := ⟨w.heap.size, 0, none⟩) (v := .agg Y) rfl HY.out.2.2.2.2.2.1) rfl ?_
                      exact ⟨p, 0, by rw [← HYE.out]; rfl, Nat.zero_le _, HNN.out, HY.out.2.2.2.2.2.2⟩
                    · have hn2b : ((n2 : Int) == 0) = false := beq_eq_false_iff_ne.2 (by omega)
                      by_cases hlh : lo ≤ hi
                      · have hlh2 : ¬ ((hi.toNat : Int) < (lo.toNat : Int)) := by have := UInt8.le_iff_toNat_le.1 hlh; omega
                        have hw2 := wrap_byte hi
                        have hlh3 := UInt8.le_iff_toNat_le.1 hlh
                        have HIT : Hid (Gl.item ((Ig.L s).drop j) = some (lo, hi, (Ig.L s).drop (j + n1 + 1 + n2))) := Lib.hid (by rw [HIR.out, if_neg (by omega), if_pos hlh])
                        have HIN : Hid (Gl.items (((Ig.L s).drop 1).length + 1) ((Ig.L s).drop 1) (fun _ => false) 0 = Gl.items m ((Ig.L s).drop (j + n1 + 1 + n2)) (fun b => p b || (decide (lo ≤ b) && decide (b ≤ hi))) (k + 1) ∧ ((Ig.L s).drop (j + n1 + 1 + n2)).length < m) := Lib.hid ⟨by rw [HI.out.1, HIC.out, HIT.out], by have := HLT.out; rw [List.length_drop] at this ⊢; omega⟩
                        clear HI HIC HIR HIT hlh
                        go_wp2_with fail
                        go_loopw [13] (fun u13 wr => ∃ b : Nat, u13 = .int .i64 b ∧ lo.toNat ≤ b ∧ b ≤ hi.toNat + 1 ∧ Hid (Est w (fillTo p lo b) wr)) (fun u _ => 256 - (intOf u).toNat)
                        case atStart => exact ⟨lo.toNat, by first | rfl | rw [hw1], Nat.le_refl _, by omega, Lib.hid (by rw [fillTo_start]; exact HE.out)⟩
                        case round =>
                          rename World => wf
                          obtain ⟨b, rfl, hlb, hbh, HF⟩ := hrel
                          have hb255 : hi.toNat < 256 := UInt8.toNat_lt hi
                          by_cases hbl : b ≤ hi.toNat
                          · have hbl2 : (b : Int) ≤ (hi.toNat : Int) := by omega
                            have e3 : (UInt8.ofNat b).toNat = b := UInt8.toNat_ofNat_of_lt' (show b < 256 by omega)
                            have hcell : wf.cell? ⟨w.heap.size + 1, 2 + b, none⟩ = some (.bool (fillTo p lo b (UInt8.ofNat b))) := by
                              rw [HF.out.row.cell]
                              have := eltOf_get false false (fillTo p lo b) (UInt8.ofNat b)
                              rwa [e3] at this
                            have hfz : wf.frozen? ⟨w.heap.size + 1, 2 + b, none⟩ = false := HF.out.row.frozen _
                            have HF2 : Hid (Est w (fillTo p lo (b + 1)) (wf.setCell ⟨w.heap.size + 1, 2 + b, none⟩ (.bool true))) := Lib.hid (by
                              have := HF.out.put (UInt8.ofNat b) true
                              rw [e3, fillTo_put p lo hlb (by omega)] at this
                              exact this)
                            clear HF e3
                            go_wp2_with fail
                            go_roundw
                            case rel => exact ⟨b + 1, rfl, by omega, by omega, HF2⟩
                            case measure => simp [intOf]; omega
                          · obtain rfl : b = hi.toNat + 1 := by omega
                            have hbl2 : ¬ ((hi.toNat : Int) + 1 ≤ (hi.toNat : Int)) := by omega
                            have HE3 : Hid (Est w (fun b => p b || (decide (lo ≤ b) && decide (b ≤ hi))) wf) := Lib.hid (by have := HF.out; rwa [fillTo_end] at this)
                            clear HF HE
                            go_wp2_with fail
                            go_roundw
                            case rel => exact ⟨j + n1 + 1 + n2, k + 1, _, m, by first | rfl | (congr 1; push_cast; omega), by first | rfl | (congr 1; push_cast; omega), by omega, by omega, HE3, HIN⟩
                            case measure => simp [intOf]; omega
                      · have hlh2 : (hi.toNat : Int) < (lo.toNat : Int) := by have : ¬ lo.toNat ≤ hi.toNat := fun h => hlh (UInt8.le_iff_toNat_le.2 h); omega
                        have HNN : Hid (Gl.cls ((Ig.L s).drop 1) = none) := Lib.hid (by rw [HLN.out, HI.out.1, HIC.out, HIR.out, if_neg (by omega), if_neg hlh])
                        clear HI HIC
                        obtain ⟨Y, hY, hYs⟩ := HE.out.all
                        have HYE := Lib.hid hY
                        have HY := Lib.hid hYs
                        clear hY hYs
                        go_wp2_with (first
                          | (refine wpList_load_arr rfl 150 (.tmp 4) rfl (w.heap.size + 1) 0 rfl Y _ HY.out.1 Tryz.underlying150 rfl HY.out.2.1 ?_; try simp only [Act.put, sA, s0, sS])
                          | (refine wpList_store_mid rfl 150 (.tmp 2) (.tmp 87) rfl w.heap.size 0 Y rfl rfl HY.out.2.2.1 HY.out.2.2.2.1 HY.out.2.2.2.2.1 ?_; try simp only [Act.put]))
                        refine bodyPost_ret (results_cell_two (ty := 150) Tryz.results120 (a := ⟨w.heap.size, 0, none⟩) (v := .agg Y) rfl HY.out.2.2.2.2.2.1) rfl ?_
                        exact ⟨p, 0, by rw [← HYE.out]; rfl, Nat.zero_le _, HNN.out, HY.out.2.2.2.2.2.2⟩
                · have e5 : ((x.toNat : Int) == 45) = false := byte_ne (n := 45) (by omega) hx45
                  have HIT : Hid (Gl.item ((Ig.L s).drop j) = some (lo, lo, (Ig.L s).drop (j + n1))) := Lib.hid (by rw [item_alone HRN.out (by omega) (by rw [HDN.out, HA1.out]; intro d' u' e; simp at e; exact absurd e.1 hx45), HDN.out])
                  have HIN : Hid (Gl.items (((Ig.L s).drop 1).length + 1) ((Ig.L s).drop 1) (fun _ => false) 0 = Gl.items m ((Ig.L s).drop (j + n1)) (fun b => p b || (decide (lo ≤ b) && decide (b ≤ lo))) (k + 1) ∧ ((Ig.L s).drop (j + n1)).length < m) := Lib.hid ⟨by rw [HI.out.1, HIC.out, HIT.out], by have := HLT.out; rw [List.length_drop] at this ⊢; omega⟩
                  clear HI HIC HIT
                  go_wp2_with fail
                  go_loopw [13] (fun u13 wr => ∃ b : Nat, u13 = .int .i64 b ∧ lo.toNat ≤ b ∧ b ≤ lo.toNat + 1 ∧ Hid (Est w (fillTo p lo b) wr)) (fun u _ => 256 - (intOf u).toNat)
                  case atStart => exact ⟨lo.toNat, by first | rfl | rw [hw1], Nat.le_refl _, by omega, Lib.hid (by rw [fillTo_start]; exact HE.out)⟩
                  case round =>
                    rename World => wf
                    obtain ⟨b, rfl, hlb, hbh, HF⟩ := hrel
                    have hb255 : lo.toNat < 256 := UInt8.toNat_lt lo
                    by_cases hbl : b ≤ lo.toNat
                    · have hbl2 : (b : Int) ≤ (lo.toNat : Int) := by omega
                      have e3 : (UInt8.ofNat b).toNat = b := UInt8.toNat_ofNat_of_lt' (show b < 256 by omega)
                      have hcell : wf.cell? ⟨w.heap.size + 1, 2 + b, none⟩ = some (.bool (fillTo p lo b (UInt8.ofNat b))) := by
                        rw [HF.out.row.cell]
                        have := eltOf_get false false (fillTo p lo b) (UInt8.ofNat b)
                        rwa [e3] at this
                      have hfz : wf.frozen? ⟨w.heap.size + 1, 2 + b, none⟩ = false := HF.out.row.frozen _
                      have HF2 : Hid (Est w (fillTo p lo (b + 1)) (wf.setCell ⟨w.heap.size + 1, 2 + b, none⟩ (.bool true))) := Lib.hid (by
                        have := HF.out.put (UInt8.ofNat b) true
                        rw [e3, fillTo_put p lo hlb (by omega)] at this
                        exact this)
                      clear HF e3
                      go_wp2_with fail
                      go_roundw
                      case rel => exact ⟨b + 1, rfl, by omega, by omega, HF2⟩
                      case measure => simp [intOf]; omega
                    · obtain rfl : b = lo.toNat + 1 := by omega
                      have hbl2 : ¬ ((lo.toNat : Int) + 1 ≤ (lo.toNat : Int)) := by omega
                      have HE3 : Hid (Est w (fun b => p b || (decide (lo ≤ b) && decide (b ≤ lo))) wf) := Lib.hid (by have := HF.out; rwa [fillTo_end] at this)
                      clear HF HE
                      go_wp2_with fail
                      go_roundw
                      case rel => exact ⟨j + n1, k + 1, _, m, by first | rfl | (congr 1; push_cast; omega), by first | rfl | (congr 1; push_cast; omega), by omega, by omega, HE3, HIN⟩
                      case measure => simp [intOf]; omega
              · have ha2 : ¬ ((j : Int) + (n1 : Int) + 1 < (s.size : Int)) := by omega
                have HIT : Hid (Gl.item ((Ig.L s).drop j) = some (lo, lo, (Ig.L s).drop (j + n1))) := Lib.hid (by rw [item_alone HRN.out (by omega) (by rw [HDN.out]; intro d' u' e; have h9 := congrArg List.length e; rw [List.length_drop] at h9; simp at h9; have : (Ig.L s).length = s.size := rfl; omega), HDN.out])
                have HIN : Hid (Gl.items (((Ig.L s).drop 1).length + 1) ((Ig.L s).drop 1) (fun _ => false) 0 = Gl.items m ((Ig.L s).drop (j + n1)) (fun b => p b || (decide (lo ≤ b) && decide (b ≤ lo))) (k + 1) ∧ ((Ig.L s).drop (j + n1)).length < m) := Lib.hid ⟨by rw [HI.out.1, HIC.out, HIT.out], by have := HLT.out; rw [List.length_drop] at this ⊢; omega⟩
                clear HI HIC HIT
                go_wp2_with fail
                go_loopw [13] (fun u13 wr => ∃ b : Nat, u13 = .int .i64 b ∧ lo.toNat ≤ b ∧ b ≤ lo.toNat + 1 ∧ Hid (Est w (fillTo p lo b) wr)) (fun u _ => 256 - (intOf u).toNat)
                case atStart => exact ⟨lo.toNat, by first | rfl | rw [hw1], Nat.le_refl _, by omega, Lib.hid (by rw [fillTo_start]; exact HE.out)⟩
                case round =>
                  rename World => wf
                  obtain ⟨b, rfl, hlb, hbh, HF⟩ := hrel
                  have hb255 : lo.toNat < 256 := UInt8.toNat_lt lo
                  by_cases hbl : b ≤ lo.toNat
                  · have hbl2 : (b : Int) ≤ (lo.toNat : Int) := by omega
                    have e3 : (UInt8.ofNat b).toNat = b := UInt8.toNat_ofNat_of_lt' (show b < 256 by omega)
                    have hcell : wf.cell? ⟨w.heap.size + 1, 2 + b, none⟩ = some (.bool (fillTo p lo b (UInt8.ofNat b))) := by
                      rw [HF.out.row.cell]
                      have := eltOf_get false false (fillTo p lo b) (UInt8.ofNat b)
                      rwa [e3] at this
                    have hfz : wf.frozen? ⟨w.heap.size + 1, 2 + b, none⟩ = false := HF.out.row.frozen _
                    have HF2 : Hid (Est w (fillTo p lo (b + 1)) (wf.setCell ⟨w.heap.size + 1, 2 + b, none⟩ (.bool true))) := Lib.hid (by
                      have := HF.out.put (UInt8.ofNat b) true
                      rw [e3, fillTo_put p lo hlb (by omega)] at this
                      exact this)
                    clear HF e3
                    go_wp2_with fail
                    go_roundw
                    case rel => exact ⟨b + 1, rfl, by omega, by omega, HF2⟩
                    case measure => simp [intOf]; omega
                  · obtain rfl : b = lo.toNat + 1 := by omega
                    have hbl2 : ¬ ((lo.toNat : Int) + 1 ≤ (lo.toNat : Int)) := by omega
                    have HE3 : Hid (Est w (fun b => p b || (decide (lo ≤ b) && decide (b ≤ lo))) wf) := Lib.hid (by have := HF.out; rwa [fillTo_end] at this)
                    clear HF HE
                    go_wp2_with fail
                    go_roundw
                    case rel => exact ⟨j + n1, k + 1, _, m, by first | rfl | (congr 1; push_cast; omega), by first | rfl | (congr 1; push_cast; omega), by omega, by omega, HE3, HIN⟩
                    case measure => simp [intOf]; omega
        · obtain rfl : j = s.size := by omega
          have HNN : Hid (Gl.cls ((Ig.L s).drop 1) = none) := Lib.hid (by
            have hnil : (Ig.L s).drop s.size = [] := List.drop_eq_nil_of_le (Nat.le_refl _)
            rw [HLN.out, HI.out.1, hnil]
            cases n <;> rfl)
          clear HI
          obtain ⟨Y, hY, hYs⟩ := HE.out.all
          have HYE := Lib.hid hY
          have HY := Lib.hid hYs
          clear hY hYs
          go_wp2_with (first
            | (refine wpList_load_arr rfl 150 (.tmp 4) rfl (w.heap.size + 1) 0 rfl Y _ HY.out.1 Tryz.underlying150 rfl HY.out.2.1 ?_; try simp only [Act.put, sA, s0, sS])
            | (refine wpList_store_mid rfl 150 (.tmp 2) (.tmp 114) rfl w.heap.size 0 Y rfl rfl HY.out.2.2.1 HY.out.2.2.2.1 HY.out.2.2.2.2.1 ?_; try simp only [Act.put]))
          refine bodyPost_ret (results_cell_two (ty := 150) Tryz.results120 (a := ⟨w.heap.size, 0, none⟩) (v := .agg Y) rfl HY.out.2.2.2.2.2.1) rfl ?_
          exact ⟨p, 0, by rw [← HYE.out]; rfl, Nat.zero_le _, HNN.out, HY.out.2.2.2.2.2.2⟩
    · have h12 : ¬ ((1 : Int) < (s.size : Int)) := by omega
      go_enter Tryz.func120, Tryz.ntmps120
      go_wp2_with (first
        | (refine wpList_allocTo rfl 150 rfl Z HZ.out.1 w.heap.size rfl ?_; try simp only [Act.put, sA, s0, sS])
        | (refine wpList_allocTo rfl 150 rfl Z HZ.out.1 (w.heap.size + 1) (by simp) ?_; try simp only [Act.put, sA, s0, sS])
        | (refine wpList_buildZ rfl 150 rfl Z HZ.out.2.1 ?_; try simp only [Act.put, sA, s0, sS])
        | (refine wpList_store_mid rfl 150 (.tmp 4) (.tmp 16) rfl (w.heap.size + 1) 0 Z rfl rfl HTH.out HZ.out.2.2.1 HZ.out.2.2.2 ?_; try simp only [Act.put]))
      clear HTH hn h1 h12
      go_loopw [5, 7, 8, 9, 10, 11, 12, 13] (fun u5 u7 _ _ _ _ _ _ wr => ∃ (j k : Nat) (p : UInt8 → Bool) (n : Nat), u5 = .int .i64 j ∧ u7 = .int .i64 k ∧ k ≤ j ∧ j ≤ s.size ∧ Hid (Est w p wr) ∧ Hid (Gl.items (((Ig.L s).drop 1).length + 1) ((Ig.L s).drop 1) (fun _ => false) 0 = Gl.items n ((Ig.L s).drop j) p k ∧ ((Ig.L s).drop j).length < n)) (fun u _ _ _ _ _ _ _ _ => s.size - (intOf u).toNat)
      case atStart => exact ⟨1, 0, _, _, rfl, rfl, Nat.zero_le _, hi0, HE0, Lib.hid ⟨rfl, Nat.lt_succ_self _⟩⟩
      case round =>
        clear HE0
        rename World => wo
        obtain ⟨j, k, p, n, rfl, rfl, hkj, hjs, HE, HI⟩ := hrel
        by_cases hlt : j < s.size
        · have hat := byteAt s hlt
          obtain ⟨c, hc⟩ : ∃ c, s[j] = c := ⟨_, rfl⟩
          rw [hc] at hat
          have HDR := Lib.hid (drop_at hat)
          have hlen : (Ig.L s).length = s.size := rfl
          obtain ⟨m, rfl⟩ : ∃ m, n = m + 1 := ⟨n - 1, by have := HI.out.2; omega⟩
          have HLT : Hid (((Ig.L s).drop (j + 1)).length < m) := Lib.hid (by have := HI.out.2; rw [HDR.out, List.length_cons] at this; omega)
          clear hat hlen
          by_cases h93 : c = 93
          · have e1 : ((c.toNat : Int) != 93) = false := by rw [h93]; rfl
            have HN : Hid (Gl.items (((Ig.L s).drop 1).length + 1) ((Ig.L s).drop 1) (fun _ => false) 0 = some (p, k, (Ig.L s).drop (j + 1))) := Lib.hid (by rw [HI.out.1, HDR.out, h93, items_end])
            have hjz : ¬ ((s.size : Int) ≤ (j : Int)) := by omega
            subst h93
            rcases Nat.eq_zero_or_pos k with hk0 | hk0
            · subst hk0
              have HNN : Hid (Gl.cls ((Ig.L s).drop 1) = none) := Lib.hid (by rw [HLN.out, HN.out]; simp)
              obtain ⟨Y, hY, hYs⟩ := HE.out.all
              have HYE := Lib.hid hY
              have HY := Lib.hid hYs
              clear hY hYs
              go_wp2_with (first
                | (refine wpList_load_arr rfl 150 (.tmp 4) rfl (w.heap.size + 1) 0 rfl Y _ HY.out.1 Tryz.underlying150 rfl HY.out.2.1 ?_; try simp only [Act.put, sA, s0, sS])
                | (refine wpList_store_mid rfl 150 (.tmp 2) (.tmp 114) rfl w.heap.size 0 Y rfl rfl HY.out.2.2.1 HY.out.2.2.2.1 HY.out.2.2.2.2.1 ?_; try simp only [Act.put]))
              refine bodyPost_ret (results_cell_two (ty := 150) Tryz.results120 (a := ⟨w.heap.size, 0, none⟩) (v := .agg Y) rfl HY.out.2.2.2.2.2.1) rfl ?_
              exact ⟨p, 0, by rw [← HYE.out]; rfl, Nat.zero_le _, HNN.out, HY.out.2.2.2.2.2.2⟩
            · have hkb : ((k : Int) == 0) = false := beq_eq_false_iff_ne.2 (by omega)
              go_wp2_with fail
              go_loopw [14, 15] (fun u14 u15 wr => ∃ (b : Nat) (sm : Bool), u14 = .bool sm ∧ u15 = .int .i64 b ∧ b ≤ 256 ∧ Hid (Est w (midRow false p b) wr) ∧ Hid (sm = (List.range b).any fun i => Gl.clsSet false p (UInt8.ofNat i))) (fun _ u _ => 256 - (intOf u).toNat)
              case atStart => exact ⟨0, false, rfl, rfl, Nat.zero_le _, Lib.hid (by rw [midRow_zero]; exact HE.out), Lib.hid rfl⟩
              case round =>
                clear HE
                rename World => wf
                obtain ⟨b, sm, rfl, rfl, hb256, HF, HSM⟩ := hrel
                by_cases hbl : b < 256
                · have hbl2 : (b : Int) < 256 := by omega
                  have e3 : (UInt8.ofNat b).toNat = b := UInt8.toNat_ofNat_of_lt' hbl
                  have hcell : wf.cell? ⟨w.heap.size + 1, 2 + b, none⟩ = some (.bool (p (UInt8.ofNat b))) := by
                    rw [HF.out.row.cell]
                    have := eltOf_get false false (midRow false p b) (UInt8.ofNat b)
                    rw [e3] at this
                    rw [this]
                    unfold midRow
                    rw [e3, if_neg (Nat.lt_irrefl b)]
                  have hfz : wf.frozen? ⟨w.heap.size + 1, 2 + b, none⟩ = false := HF.out.row.frozen _
                  have HF2 : Hid (∀ v, v = Gl.clsSet false p (UInt8.ofNat b) → Est w (midRow false p (b + 1)) (wf.setCell ⟨w.heap.size + 1, 2 + b, none⟩ (.bool v))) := Lib.hid (fun v hv => by
                    have := HF.out.put (UInt8.ofNat b) v
                    have h2 := midRow_step false p (UInt8.ofNat b)
                    rw [e3] at h2
                    rw [hv, e3, h2] at this
                    rw [hv]
                    exact this)
                  have HSN : Hid (∀ v, v = Gl.clsSet false p (UInt8.ofNat b) → (List.range (b + 1)).any (fun i => Gl.clsSet false p (UInt8.ofNat i)) = (sm || v)) := Lib.hid (fun v hv => by rw [List.range_succ, List.any_append, ← HSM.out, hv]; simp)
                  have HV : Hid (Gl.clsSet false p (UInt8.ofNat b) = (UInt8.ofNat b != 47 && (p (UInt8.ofNat b) != false))) := Lib.hid rfl
                  have h47 : (UInt8.ofNat b != 47) = ((b : Int) != 47) := by
                    have := byte_beq (UInt8.ofNat b) 47 (by omega)
                    rw [e3] at this
                    exact congrArg not this.symm
                  rw [h47] at HV
                  generalize p (UInt8.ofNat b) = pc at hcell HV
                  clear h47 e3 HF HSM
                  cases h7 : ((b : Int) != 47) <;> rw [h7] at HV <;> cases pc <;> cases sm
                  all_goals
                    go_wp2_with fail
                    go_roundw
                    case rel => exact ⟨b + 1, _, rfl, rfl, by omega, Lib.hid (HF2.out _ HV.out.symm), Lib.hid (by rw [HSN.out _ HV.out.symm]; rfl)⟩
                    case measure => simp [intOf]; omega
                · obtain rfl : b = 256 := by omega
                  have HF3 : Hid (Est w (Gl.clsSet false p) wf) := Lib.hid (by have := HF.out; rwa [midRow_end] at this)
                  have HS3 : Hid (sm = Gl.some256 (Gl.clsSet false p)) := Lib.hid HSM.out
                  clear HF HSM
                  cases sm with
                  | false =>
                    have HNN : Hid (Gl.cls ((Ig.L s).drop 1) = none) := Lib.hid (by rw [HLN.out, HN.out]; simp [← HS3.out])
                    obtain ⟨Y, hY, hYs⟩ := HF3.out.all
                    have HYE := Lib.hid hY
                    have HY := Lib.hid hYs
                    clear hY hYs
                    go_wp2_with (first
                      | (refine wpList_load_arr rfl 150 (.tmp 4) rfl (w.heap.size + 1) 0 rfl Y _ HY.out.1 Tryz.underlying150 rfl HY.out.2.1 ?_; try simp only [Act.put, sA, s0, sS])
                      | (refine wpList_store_mid rfl 150 (.tmp 2) (.tmp 141) rfl w.heap.size 0 Y rfl rfl HY.out.2.2.1 HY.out.2.2.2.1 HY.out.2.2.2.2.1 ?_; try simp only [Act.put]))
                    refine bodyPost_ret (results_cell_two (ty := 150) Tryz.results120 (a := ⟨w.heap.size, 0, none⟩) (v := .agg Y) rfl HY.out.2.2.2.2.2.1) rfl ?_
                    exact ⟨Gl.clsSet false p, 0, by rw [← HYE.out]; rfl, Nat.zero_le _, HNN.out, HY.out.2.2.2.2.2.2⟩
                  | true =>
                    have HNN : Hid (Gl.cls ((Ig.L s).drop 1) = some (some (Gl.clsSet false p), (Ig.L s).drop (j + 1))) := Lib.hid (by rw [HLN.out, HN.out]; exact if_pos ⟨by omega, HS3.out.symm⟩)
                    obtain ⟨Y, hY, hYs⟩ := HF3.out.all
                    have HYE := Lib.hid hY
                    have HY := Lib.hid hYs
                    clear hY hYs
                    go_wp2_with (first
                      | (refine wpList_load_arr rfl 150 (.tmp 4) rfl (w.heap.size + 1) 0 rfl Y _ HY.out.1 Tryz.underlying150 rfl HY.out.2.1 ?_; try simp only [Act.put, sA, s0, sS])
                      | (refine wpList_store_mid rfl 150 (.tmp 2) (.tmp 142) rfl w.heap.size 0 Y rfl rfl HY.out.2.2.1 HY.out.2.2.2.1 HY.out.2.2.2.2.1 ?_; try simp only [Act.put]))
                    refine bodyPost_ret (results_cell_two (ty := 150) Tryz.results120 (a := ⟨w.heap.size, 0, none⟩) (v := .agg Y) rfl HY.out.2.2.2.2.2.1) rfl ?_
                    exact ⟨Gl.clsSet false p, j + 1, by rw [← HYE.out]; rfl, hlt, (by rw [HNN.out, if_neg (Nat.succ_ne_zero j)]), HY.out.2.2.2.2.2.2⟩
          · have e1 : ((c.toNat : Int) != 93) = true := by
              have := byte_ne (n := 93) (by omega) h93
              simpa using this
            have hex : Ig.L (s.extract j s.size) = (Ig.L s).drop j := L_from s j
            have HR1 : Hid (∀ W, Calls Tryz.prog 121 #[.string (s.extract j s.size)] W (Same (.tuple #[.int .u8 (Gl.ron ((Ig.L s).drop j)).1.toNat, .int .i64 (Gl.ron ((Ig.L s).drop j)).2]) W)) := Lib.hid fun W => by
              rw [← hex]
              exact rone_same _ W
            obtain ⟨lo, n1, hr⟩ : ∃ lo n1, Gl.ron ((Ig.L s).drop j) = (lo, n1) := ⟨_, _, rfl⟩
            rw [hr] at HR1
            have hn1 : n1 ≤ s.size - j := by
              have := (Gl.ron_le ((Ig.L s).drop j)).1
              rw [hr, List.length_drop] at this
              exact this
            have HRN := Lib.hid hr
            have HIC : Hid (Gl.items (m + 1) ((Ig.L s).drop j) p k = match Gl.item ((Ig.L s).drop j) with
              | none => none
              | some (lo, hi, t) => Gl.items m t (fun b => p b || (decide (lo ≤ b) && decide (b ≤ hi))) (k + 1)) := Lib.hid (by rw [HDR.out]; exact items_cons h93)
            clear hr hex
            go_wp2_with fail
            refine (HR1.out _).mono ?_
            rintro e w1 ⟨rfl, rfl⟩
            rcases Nat.eq_zero_or_pos n1 with hn0 | hn0
            · subst hn0
              have HNN : Hid (Gl.cls ((Ig.L s).drop 1) = none) := Lib.hid (by
                rw [HLN.out, HI.out.1, HIC.out, item_none (by rw [Gl.plain_ron, HRN.out]; rfl)])
              clear HI HIC HR1
              obtain ⟨Y, hY, hYs⟩ := HE.out.all
              have HYE := Lib.hid hY
              have HY := Lib.hid hYs
              clear hY hYs
              go_wp2_with (first
                | (refine wpList_load_arr rfl 150 (.tmp 4) rfl (w.heap.size + 1) 0 rfl Y _ HY.out.1 Tryz.underlying150 rfl HY.out.2.1 ?_; try simp only [Act.put, sA, s0, sS])
                | (refine wpList_store_mid rfl 150 (.tmp 2) (.tmp 49) rfl w.heap.size 0 Y rfl rfl HY.out.2.2.1 HY.out.2.2.2.1 HY.out.2.2.2.2.1 ?_; try simp only [Act.put]))
              refine bodyPost_ret (results_cell_two (ty := 150) Tryz.results120 (a := ⟨w.heap.size, 0, none⟩) (v := .agg Y) rfl HY.out.2.2.2.2.2.1) rfl ?_
              exact ⟨p, 0, by rw [← HYE.out]; rfl, Nat.zero_le _, HNN.out, HY.out.2.2.2.2.2.2⟩
            · have hnb : ((n1 : Int) == 0) = false := beq_eq_false_iff_ne.2 (by omega)
              have hw1 := wrap_byte lo
              have HDN : Hid (((Ig.L s).drop j).drop n1 = (Ig.L s).drop (j + n1)) := Lib.hid (List.drop_drop ..)
              clear HR1
              by_cases ha : j + n1 + 1 < s.size
              · have ha2 : (j : Int) + (n1 : Int) + 1 < (s.size : Int) := by omega
                have hj1 : j + n1 < s.size := by omega
                have HA1 := Lib.hid (drop_at (byteAt s hj1))
                have HA2 := Lib.hid (drop_at (byteAt s ha))
                obtain ⟨x, hx⟩ : ∃ x, s[j + n1] = x := ⟨_, rfl⟩
                obtain ⟨d, hd⟩ : ∃ x, s[j + n1 + 1] = x := ⟨_, rfl⟩
                rw [hx] at HA1
                rw [hd] at HA2
                by_cases hx45 : x = 45
                · have e5 : ((x.toNat : Int) == 45) = true := by rw [hx45]; rfl
                  subst hx45
                  by_cases hd93 : d = 93
                  · have e6 : ((d.toNat : Int) != 93) = false := by rw [hd93]; rfl
                    have HIT : Hid (Gl.item ((Ig.L s).drop j) = some (lo, lo, (Ig.L s).drop (j + n1))) := Lib.hid (by rw [item_alone HRN.out (by omega) (by rw [HDN.out, HA1.out, HA2.out]; intro d' u' e; simp at e; rw [← e.1]; exact hd93), HDN.out])
                    subst hd93
                    have HIN : Hid (Gl.items (((Ig.L s).drop 1).length + 1) ((Ig.L s).drop 1) (fun _ => false) 0 = Gl.items m ((Ig.L s).drop (j + n1)) (fun b => p b || (decide (lo ≤ b) && decide (b ≤ lo))) (k + 1) ∧ ((Ig.L s).drop (j + n1)).length < m) := Lib.hid ⟨by rw [HI.out.1, HIC.out, HIT.out], by have := HLT.out; rw [List.length_drop] at this ⊢; omega⟩
                    clear HI HIC HIT
                    go_wp2_with fail
                    go_loopw [13] (fun u13 wr => ∃ b : Nat, u13 = .int .i64 b ∧ lo.toNat ≤ b ∧ b ≤ lo.toNat + 1 ∧ Hid (Est w (fillTo p lo b) wr)) (fun u _ => 256 - (intOf u).toNat)
                    case atStart => exact ⟨lo.toNat, by first | rfl | rw [hw1], Nat.le_refl _, by omega, Lib.hid (by rw [fillTo_start]; exact HE.out)⟩
                    case round =>
                      rename World => wf
                      obtain ⟨b, rfl, hlb, hbh, HF⟩ := hrel
                      have hb255 : lo.toNat < 256 := UInt8.toNat_lt lo
                      by_cases hbl : b ≤ lo.toNat
                      · have hbl2 : (b : Int) ≤ (lo.toNat : Int) := by omega
                        have e3 : (UInt8.ofNat b).toNat = b := UInt8.toNat_ofNat_of_lt' (show b < 256 by omega)
                        have hcell : wf.cell? ⟨w.heap.size + 1, 2 + b, none⟩ = some (.bool (fillTo p lo b (UInt8.ofNat b))) := by
                          rw [HF.out.row.cell]
                          have := eltOf_get false false (fillTo p lo b) (UInt8.ofNat b)
                          rwa [e3] at this
                        have hfz : wf.frozen? ⟨w.heap.size + 1, 2 + b, none⟩ = false := HF.out.row.frozen _
                        have HF2 : Hid (Est w (fillTo p lo (b + 1)) (wf.setCell ⟨w.heap.size + 1, 2 + b, none⟩ (.bool true))) := Lib.hid (by
                          have := HF.out.put (UInt8.ofNat b) true
                          rw [e3, fillTo_put p lo hlb (by omega)] at this
                          exact this)
                        clear HF e3
                        go_wp2_with fail
                        go_roundw
                        case rel => exact ⟨b + 1, rfl, by omega, by omega, HF2⟩
                        case measure => simp [intOf]; omega
                      · obtain rfl : b = lo.toNat + 1 := by omega
                        have hbl2 : ¬ ((lo.toNat : Int) + 1 ≤ (lo.toNat : Int)) := by omega
                        have HE3 : Hid (Est w (fun b => p b || (decide (lo ≤ b) && decide (b ≤ lo))) wf) := Lib.hid (by have := HF.out; rwa [fillTo_end] at this)
                        clear HF HE
                        go_wp2_with fail
                        go_roundw
                        case rel => exact ⟨j + n1, k + 1, _, m, by first | rfl | (congr 1; push_cast; omega), by first | rfl | (congr 1; push_cast; omega), by omega, by omega, HE3, HIN⟩
                        case measure => simp [intOf]; omega
                  · have e6 : ((d.toNat : Int) != 93) = true := by
                      have := byte_ne (n := 93) (by omega) hd93
                      simpa using this
                    have hex2 : Ig.L (s.extract (j + n1 + 1) s.size) = (Ig.L s).drop (j + n1 + 1) := L_from s (j + n1 + 1)
                    have HR2 : Hid (∀ W, Calls Tryz.prog 121 #[.string (s.extract (j + n1 + 1) s.size)] W (Same (.tuple #[.int .u8 (Gl.ron ((Ig.L s).drop (j + n1 + 1))).1.toNat, .int .i64 (Gl.ron ((Ig.L s).drop (j + n1 + 1))).2]) W)) := Lib.hid fun W => by
                      rw [← hex2]
                      exact rone_same _ W
                    obtain ⟨hi, n2, hr2⟩ : ∃ hi n2, Gl.ron ((Ig.L s).drop (j + n1 + 1)) = (hi, n2) := ⟨_, _, rfl⟩
                    rw [hr2] at HR2
                    have hn2 : n2 ≤ s.size - (j + n1 + 1) := by
                      have := (Gl.ron_le ((Ig.L s).drop (j + n1 + 1))).1
                      rw [hr2, List.length_drop] at this
                      exact this
                    have HIR : Hid (Gl.item ((Ig.L s).drop j) = if n2 = 0 then none else if lo ≤ hi then some (lo, hi, (Ig.L s).drop (j + n1 + 1 + n2)) else none) := Lib.hid (by
                      have h := item_range HRN.out (by omega) (d := d) (u := (Ig.L s).drop (j + n1 + 1 + 1)) (by rw [HDN.out, HA1.out, HA2.out]) hd93
                      rw [← HA2.out, hr2] at h
                      rw [h, List.drop_drop])
                    clear hr2 hex2 hd93
                    go_wp2_with fail
                    refine (HR2.out _).mono ?_
                    rintro e w1 ⟨rfl, rfl⟩
                    clear HR2
                    rcases Nat.eq_zero_or_pos n2 with hn20 | hn20
                    · subst hn20
                      have HNN : Hid (Gl.cls ((Ig.L s).drop 1) = none) := Lib.hid (by rw [HLN.out, HI.out.1, HIC.out, HIR.out, if_pos rfl])
                      clear HI HIC
                      obtain ⟨Y, hY, hYs⟩ := HE.out.all
                      have HYE := Lib.hid hY
                      have HY := Lib.hid hYs
                      clear hY hYs
                      go_wp2_with (first
                        | (refine wpList_load_arr rfl 150 (.tmp 4) rfl (w.heap.size + 1) 0 rfl Y _ HY.out.1 Tryz.underlying150 rfl HY.out.2.1 ?_; try simp only [Act.put, sA, s0, sS])
                        | (refine wpList_store_mid rfl 150 (.tmp 2) (.tmp 87) rfl w.heap.size 0 Y rfl rfl HY.out.2.2.1 HY.out.2.2.2.1 HY.out.2.2.2.2.1 ?_; try simp only [Act.put]))
                      refine bodyPost_ret (results_cell_two (ty := 150) Tryz.results120 (a := ⟨w.heap.size, 0, none⟩) (v := .agg Y) rfl HY.out.2.2.2.2.2.1) rfl ?_
                      exact ⟨p, 0, by rw [← HYE.out]; rfl, Nat.zero_le _, HNN.out, HY.out.2.2.2.2.2.2⟩
                    · have hn2b : ((n2 : Int) == 0) = false := beq_eq_false_iff_ne.2 (by omega)
                      by_cases hlh : lo ≤ hi
                      · have hlh2 : ¬ ((hi.toNat : Int) < (lo.toNat : Int)) := by have := UInt8.le_iff_toNat_le.1 hlh; omega
                        have hw2 := wrap_byte hi
                        have hlh3 := UInt8.le_iff_toNat_le.1 hlh
                        have HIT : Hid (Gl.item ((Ig.L s).drop j) = some (lo, hi, (Ig.L s).drop (j + n1 + 1 + n2))) := Lib.hid (by rw [HIR.out, if_neg (by omega), if_pos hlh])
                        have HIN : Hid (Gl.items (((Ig.L s).drop 1).length + 1) ((Ig.L s).drop 1) (fun _ => false) 0 = Gl.items m ((Ig.L s).drop (j + n1 + 1 + n2)) (fun b => p b || (decide (lo ≤ b) && decide (b ≤ hi))) (k + 1) ∧ ((Ig.L s).drop (j + n1 + 1 + n2)).length < m) := Lib.hid ⟨by rw [HI.out.1, HIC.out, HIT.out], by have := HLT.out; rw [List.length_drop] at this ⊢; omega⟩
                        clear HI HIC HIR HIT hlh
                        go_wp2_with fail
                        go_loopw [13] (fun u13 wr => ∃ b : Nat, u13 = .int .i64 b ∧ lo.toNat ≤ b ∧ b ≤ hi.toNat + 1 ∧ Hid (Est w (fillTo p lo b) wr)) (fun u _ => 256 - (intOf u).toNat)
                        case atStart => exact ⟨lo.toNat, by first | rfl | rw [hw1], Nat.le_refl _, by omega, Lib.hid (by rw [fillTo_start]; exact HE.out)⟩
                        case round =>
                          rename World => wf
                          obtain ⟨b, rfl, hlb, hbh, HF⟩ := hrel
                          have hb255 : hi.toNat < 256 := UInt8.toNat_lt hi
                          by_cases hbl : b ≤ hi.toNat
                          · have hbl2 : (b : Int) ≤ (hi.toNat : Int) := by omega
                            have e3 : (UInt8.ofNat b).toNat = b := UInt8.toNat_ofNat_of_lt' (show b < 256 by omega)
                            have hcell : wf.cell? ⟨w.heap.size + 1, 2 + b, none⟩ = some (.bool (fillTo p lo b (UInt8.ofNat b))) := by
                              rw [HF.out.row.cell]
                              have := eltOf_get false false (fillTo p lo b) (UInt8.ofNat b)
                              rwa [e3] at this
                            have hfz : wf.frozen? ⟨w.heap.size + 1, 2 + b, none⟩ = false := HF.out.row.frozen _
                            have HF2 : Hid (Est w (fillTo p lo (b + 1)) (wf.setCell ⟨w.heap.size + 1, 2 + b, none⟩ (.bool true))) := Lib.hid (by
                              have := HF.out.put (UInt8.ofNat b) true
                              rw [e3, fillTo_put p lo hlb (by omega)] at this
                              exact this)
                            clear HF e3
                            go_wp2_with fail
                            go_roundw
                            case rel => exact ⟨b + 1, rfl, by omega, by omega, HF2⟩
                            case measure => simp [intOf]; omega
                          · obtain rfl : b = hi.toNat + 1 := by omega
                            have hbl2 : ¬ ((hi.toNat : Int) + 1 ≤ (hi.toNat : Int)) := by omega
                            have HE3 : Hid (Est w (fun b => p b || (decide (lo ≤ b) && decide (b ≤ hi))) wf) := Lib.hid (by have := HF.out; rwa [fillTo_end] at this)
                            clear HF HE
                            go_wp2_with fail
                            go_roundw
                            case rel => exact ⟨j + n1 + 1 + n2, k + 1, _, m, by first | rfl | (congr 1; push_cast; omega), by first | rfl | (congr 1; push_cast; omega), by omega, by omega, HE3, HIN⟩
                            case measure => simp [intOf]; omega
                      · have hlh2 : (hi.toNat : Int) < (lo.toNat : Int) := by have : ¬ lo.toNat ≤ hi.toNat := fun h => hlh (UInt8.le_iff_toNat_le.2 h); omega
                        have HNN : Hid (Gl.cls ((Ig.L s).drop 1) = none) := Lib.hid (by rw [HLN.out, HI.out.1, HIC.out, HIR.out, if_neg (by omega), if_neg hlh])
                        clear HI HIC
                        obtain ⟨Y, hY, hYs⟩ := HE.out.all
                        have HYE := Lib.hid hY
                        have HY := Lib.hid hYs
                        clear hY hYs
                        go_wp2_with (first
                          | (refine wpList_load_arr rfl 150 (.tmp 4) rfl (w.heap.size + 1) 0 rfl Y _ HY.out.1 Tryz.underlying150 rfl HY.out.2.1 ?_; try simp only [Act.put, sA, s0, sS])
                          | (refine wpList_store_mid rfl 150 (.tmp 2) (.tmp 87) rfl w.heap.size 0 Y rfl rfl HY.out.2.2.1 HY.out.2.2.2.1 HY.out.2.2.2.2.1 ?_; try simp only [Act.put]))
                        refine bodyPost_ret (results_cell_two (ty := 150) Tryz.results120 (a := ⟨w.heap.size, 0, none⟩) (v := .agg Y) rfl HY.out.2.2.2.2.2.1) rfl ?_
                        exact ⟨p, 0, by rw [← HYE.out]; rfl, Nat.zero_le _, HNN.out, HY.out.2.2.2.2.2.2⟩
                · have e5 : ((x.toNat : Int) == 45) = false := byte_ne (n := 45) (by omega) hx45
                  have HIT : Hid (Gl.item ((Ig.L s).drop j) = some (lo, lo, (Ig.L s).drop (j + n1))) := Lib.hid (by rw [item_alone HRN.out (by omega) (by rw [HDN.out, HA1.out]; intro d' u' e; simp at e; exact absurd e.1 hx45), HDN.out])
                  have HIN : Hid (Gl.items (((Ig.L s).drop 1).length + 1) ((Ig.L s).drop 1) (fun _ => false) 0 = Gl.items m ((Ig.L s).drop (j + n1)) (fun b => p b || (decide (lo ≤ b) && decide (b ≤ lo))) (k + 1) ∧ ((Ig.L s).drop (j + n1)).length < m) := Lib.hid ⟨by rw [HI.out.1, HIC.out, HIT.out], by have := HLT.out; rw [List.length_drop] at this ⊢; omega⟩
                  clear HI HIC HIT
                  go_wp2_with fail
                  go_loopw [13] (fun u13 wr => ∃ b : Nat, u13 = .int .i64 b ∧ lo.toNat ≤ b ∧ b ≤ lo.toNat + 1 ∧ Hid (Est w (fillTo p lo b) wr)) (fun u _ => 256 - (intOf u).toNat)
                  case atStart => exact ⟨lo.toNat, by first | rfl | rw [hw1], Nat.le_refl _, by omega, Lib.hid (by rw [fillTo_start]; exact HE.out)⟩
                  case round =>
                    rename World => wf
                    obtain ⟨b, rfl, hlb, hbh, HF⟩ := hrel
                    have hb255 : lo.toNat < 256 := UInt8.toNat_lt lo
                    by_cases hbl : b ≤ lo.toNat
                    · have hbl2 : (b : Int) ≤ (lo.toNat : Int) := by omega
                      have e3 : (UInt8.ofNat b).toNat = b := UInt8.toNat_ofNat_of_lt' (show b < 256 by omega)
                      have hcell : wf.cell? ⟨w.heap.size + 1, 2 + b, none⟩ = some (.bool (fillTo p lo b (UInt8.ofNat b))) := by
                        rw [HF.out.row.cell]
                        have := eltOf_get false false (fillTo p lo b) (UInt8.ofNat b)
                        rwa [e3] at this
                      have hfz : wf.frozen? ⟨w.heap.size + 1, 2 + b, none⟩ = false := HF.out.row.frozen _
                      have HF2 : Hid (Est w (fillTo p lo (b + 1)) (wf.setCell ⟨w.heap.size + 1, 2 + b, none⟩ (.bool true))) := Lib.hid (by
                        have := HF.out.put (UInt8.ofNat b) true
                        rw [e3, fillTo_put p lo hlb (by omega)] at this
                        exact this)
                      clear HF e3
                      go_wp2_with fail
                      go_roundw
                      case rel => exact ⟨b + 1, rfl, by omega, by omega, HF2⟩
                      case measure => simp [intOf]; omega
                    · obtain rfl : b = lo.toNat + 1 := by omega
                      have hbl2 : ¬ ((lo.toNat : Int) + 1 ≤ (lo.toNat : Int)) := by omega
                      have HE3 : Hid (Est w (fun b => p b || (decide (lo ≤ b) && decide (b ≤ lo))) wf) := Lib.hid (by have := HF.out; rwa [fillTo_end] at this)
                      clear HF HE
                      go_wp2_with fail
                      go_roundw
                      case rel => exact ⟨j + n1, k + 1, _, m, by first | rfl | (congr 1; push_cast; omega), by first | rfl | (congr 1; push_cast; omega), by omega, by omega, HE3, HIN⟩
                      case measure => simp [intOf]; omega
              · have ha2 : ¬ ((j : Int) + (n1 : Int) + 1 < (s.size : Int)) := by omega
                have HIT : Hid (Gl.item ((Ig.L s).drop j) = some (lo, lo, (Ig.L s).drop (j + n1))) := Lib.hid (by rw [item_alone HRN.out (by omega) (by rw [HDN.out]; intro d' u' e; have h9 := congrArg List.length e; rw [List.length_drop] at h9; simp at h9; have : (Ig.L s).length = s.size := rfl; omega), HDN.out])
                have HIN : Hid (Gl.items (((Ig.L s).drop 1).length + 1) ((Ig.L s).drop 1) (fun _ => false) 0 = Gl.items m ((Ig.L s).drop (j + n1)) (fun b => p b || (decide (lo ≤ b) && decide (b ≤ lo))) (k + 1) ∧ ((Ig.L s).drop (j + n1)).length < m) := Lib.hid ⟨by rw [HI.out.1, HIC.out, HIT.out], by have := HLT.out; rw [List.length_drop] at this ⊢; omega⟩
                clear HI HIC HIT
                go_wp2_with fail
                go_loopw [13] (fun u13 wr => ∃ b : Nat, u13 = .int .i64 b ∧ lo.toNat ≤ b ∧ b ≤ lo.toNat + 1 ∧ Hid (Est w (fillTo p lo b) wr)) (fun u _ => 256 - (intOf u).toNat)
                case atStart => exact ⟨lo.toNat, by first | rfl | rw [hw1], Nat.le_refl _, by omega, Lib.hid (by rw [fillTo_start]; exact HE.out)⟩
                case round =>
                  rename World => wf
                  obtain ⟨b, rfl, hlb, hbh, HF⟩ := hrel
                  have hb255 : lo.toNat < 256 := UInt8.toNat_lt lo
                  by_cases hbl : b ≤ lo.toNat
                  · have hbl2 : (b : Int) ≤ (lo.toNat : Int) := by omega
                    have e3 : (UInt8.ofNat b).toNat = b := UInt8.toNat_ofNat_of_lt' (show b < 256 by omega)
                    have hcell : wf.cell? ⟨w.heap.size + 1, 2 + b, none⟩ = some (.bool (fillTo p lo b (UInt8.ofNat b))) := by
                      rw [HF.out.row.cell]
                      have := eltOf_get false false (fillTo p lo b) (UInt8.ofNat b)
                      rwa [e3] at this
                    have hfz : wf.frozen? ⟨w.heap.size + 1, 2 + b, none⟩ = false := HF.out.row.frozen _
                    have HF2 : Hid (Est w (fillTo p lo (b + 1)) (wf.setCell ⟨w.heap.size + 1, 2 + b, none⟩ (.bool true))) := Lib.hid (by
                      have := HF.out.put (UInt8.ofNat b) true
                      rw [e3, fillTo_put p lo hlb (by omega)] at this
                      exact this)
                    clear HF e3
                    go_wp2_with fail
                    go_roundw
                    case rel => exact ⟨b + 1, rfl, by omega, by omega, HF2⟩
                    case measure => simp [intOf]; omega
                  · obtain rfl : b = lo.toNat + 1 := by omega
                    have hbl2 : ¬ ((lo.toNat : Int) + 1 ≤ (lo.toNat : Int)) := by omega
                    have HE3 : Hid (Est w (fun b => p b || (decide (lo ≤ b) && decide (b ≤ lo))) wf) := Lib.hid (by have := HF.out; rwa [fillTo_end] at this)
                    clear HF HE
                    go_wp2_with fail
                    go_roundw
                    case rel => exact ⟨j + n1, k + 1, _, m, by first | rfl | (congr 1; push_cast; omega), by first | rfl | (congr 1; push_cast; omega), by omega, by omega, HE3, HIN⟩
                    case measure => simp [intOf]; omega
        · obtain rfl : j = s.size := by omega
          have HNN : Hid (Gl.cls ((Ig.L s).drop 1) = none) := Lib.hid (by
            have hnil : (Ig.L s).drop s.size = [] := List.drop_eq_nil_of_le (Nat.le_refl _)
            rw [HLN.out, HI.out.1, hnil]
            cases n <;> rfl)
          clear HI
          obtain ⟨Y, hY, hYs⟩ := HE.out.all
          have HYE := Lib.hid hY
          have HY := Lib.hid hYs
          clear hY hYs
          go_wp2_with (first
            | (refine wpList_load_arr rfl 150 (.tmp 4) rfl (w.heap.size + 1) 0 rfl Y _ HY.out.1 Tryz.underlying150 rfl HY.out.2.1 ?_; try simp only [Act.put, sA, s0, sS])
            | (refine wpList_store_mid rfl 150 (.tmp 2) (.tmp 114) rfl w.heap.size 0 Y rfl rfl HY.out.2.2.1 HY.out.2.2.2.1 HY.out.2.2.2.2.1 ?_; try simp only [Act.put]))
          refine bodyPost_ret (results_cell_two (ty := 150) Tryz.results120 (a := ⟨w.heap.size, 0, none⟩) (v := .agg Y) rfl HY.out.2.2.2.2.2.1) rfl ?_
          exact ⟨p, 0, by rw [← HYE.out]; rfl, Nat.zero_le _, HNN.out, HY.out.2.2.2.2.2.2⟩
end Go.Proofs.YtnjcifppkijanaaGreatDoor
namespace Go.Proofs.YtnjcifppkijanaaGreatDoor
open Go Go.RowKit Go.Shelf
theorem eltInfo : ∃ i z, Tryz.prog.info? 150 = some i ∧ i.zero = some z ∧ i.size = 258 ∧ i.bytes = 258 ∧ z.cells.size = 258 := by
  have h : (Tryz.prog.info? 150).map (fun i => (i.zero.map (·.cells.size), i.size, i.bytes)) = some (some 258, 258, 258) := by kernel_rfl
  cases hi : Tryz.prog.info? 150 with
  | none => rw [hi] at h; cases h
  | some i =>
    rw [hi] at h
    simp only [Option.map_some, Option.some.injEq, Prod.mk.injEq] at h
    obtain ⟨h1, h2, h3⟩ := h
    cases hz : i.zero with
    | none => rw [hz] at h1; cases h1
    | some z => exact ⟨i, z, rfl, hz, h2, h3, by rw [hz] at h1; simpa using h1⟩
section
variable {P : Program} {ops : Array Oper} {Q : Exit → Act → World → Prop}
theorem wpList_buildOne {w : World} {rest : List Oper} {o : Oper} {a : Act} (hgd : o.guard = none) (t e : TypeId) (x : Operand) (ho : o.op = .buildSlice t 1 #[(0, x)]) (Y : Array Value) (hx : a.eval x = .agg Y) (k : Nat) (hk : Y.size = k) (hu : P.underlying t = some (.slice e))
    (hi : ∃ ie z, P.info? e = some ie ∧ ie.zero = some z ∧ ie.size = k ∧ z.cells.size = k) (h0 : 0 < k) (hs : k ≤ 2 ^ 24) (N : Nat) (hN : w.heap.size = N)
    (h : wpList P ops Q rest (a.put o.dst (.slice (some ⟨N, 0, none⟩) 1 1)) (w.alloc (.cells Y e))) : wpList P ops Q (o :: rest) a w := by
  subst hN
  obtain ⟨ie, z, h1, h2, h3, h4⟩ := hi
  refine wpList_buildSlice hgd t e 1 #[(0, x)] ho Y ie z hu h1 h2 (by rw [h3]; omega) (by rw [h3]; omega) ?_ h
  have hf := Go.Great.fill_whole h0 [Value.agg Y] ((Array.range (1 * ie.size)).map (z.cells[· % z.cells.size]!)) (fun v hv => by
    obtain rfl : v = .agg Y := by simpa using hv
    exact hk) (by simp [h3])
  rw [h3] at hf ⊢
  have e1 : ((#[(0, x)] : Array (Nat × Operand)).map fun (i, x) => (i, a.eval x)).toList = ([Value.agg Y].zipIdx 0).map fun x => (x.2, x.1) := by
    simp [hx]
  rw [e1, hf]
  congr 1
  show ([Value.agg Y].flatMap fun v => v.cells.toList).toArray = Y
  simp [Value.cells]
end
theorem RElt.one {w : World} {F : Nat → Prop} {c : List Value} {e : Gl.El} (h : RElt w F c e) : ∀ u ∈ c, Value.oneCell' u = true := by
  obtain ⟨fixed, rfl⟩ := h
  intro u hu
  simp only [List.mem_cons, List.mem_map] at hu
  rcases hu with rfl | rfl | ⟨i, _, rfl⟩ <;> rfl
theorem relt_of {w : World} {F : Nat → Prop} (fixed : Bool) (p : UInt8 → Bool) : RElt w F (eltOf false fixed p).toList (some p) := ⟨fixed, by simp [eltOf, rowOf]⟩
theorem relt_star {w : World} {F : Nat → Prop} (fixed : Bool) : RElt w F (eltOf true fixed fun _ => false).toList none := ⟨fixed, by simp [eltOf, rowOf]⟩
/-- A component being built. -/
structure Pst (w : World) (els : List Gl.El) (v : Value) (W : World) : Prop where
  res : Blk W w.heap.size 122 #[.bool false, .slice none 0 0]
  c : Blk W (w.heap.size + 1) 122 #[.bool false, v]
  own : OwnW 258 RElt 150 w W (w.heap.size + 2) All v els
  ext : Ext w W
section
variable {w W W' : World} {els : List Gl.El} {v v' : Value}
theorem Pst.into (h : Pst w els v W) (hx : Ext W W') : Pst w els v W' := ⟨Blk.ext hx h.res, Blk.ext hx h.c, h.own.ext hx, h.ext.trans hx⟩
theorem Pst.app {e : Gl.El} (h : Pst w els v W) (hg : W.grownBy W' v.ownBlock) (ho : OwnW 258 RElt 150 w W' (w.heap.size + 2) All v' (els ++ [e])) : Pst w (els ++ [e]) v' (W'.setCell ⟨w.heap.size + 1, 1, none⟩ v') := by
  have hb : ∀ (g : Nat) t cs, Blk W g t cs → g < w.heap.size + 2 → Blk W' g t cs := fun g t cs hB hl => (hg.block g hB.lt (fun e => by have := (h.own.block e.symm).1; omega)).trans hB
  have hX : Ext w W' := Below.grown h.ext hg h.ext.size_le (fun j e => by have := (h.own.block e).1; omega)
  refine ⟨(hb _ _ _ h.res (by omega)).far (by show w.heap.size ≠ w.heap.size + 1; omega) _, Blk.conv ((hb _ _ _ h.c (by omega)).set_ 1 v') (by simp), ?_, Ext.setCell (p := ⟨w.heap.size + 1, 1, none⟩) hX (by simp) _⟩
  obtain ⟨cs, h1, h2, ⟨h3, h5⟩, h4⟩ := ho
  refine ⟨cs, h1, h2, ⟨h3, ?_⟩, h4⟩
  rcases h5 with h5 | ⟨g, cap, cur, e, hbg, hgg, r⟩
  · exact .inl h5
  · exact .inr ⟨g, cap, cur, e, hbg, (Blk.far (p := ⟨w.heap.size + 1, 1, none⟩) (Blk.mk hgg) (by show g ≠ w.heap.size + 1; omega) v').eq, r⟩
end
theorem OwnW.under {α : Type} {k : Nat} {R : Reads α} {t : TypeId} {w0 w : World} {base : Nat} {F : Nat → Prop} {v : Value} {l : List α} (h : OwnW k R t w0 w base F v l) {p : Addr} (hp : p.block < base) (u : Value) : OwnW k R t w0 (w.setCell p u) base F v l := by
  obtain ⟨cs, h1, h2, ⟨h3, h5⟩, h4⟩ := h
  refine ⟨cs, h1, h2, ⟨h3, ?_⟩, h4⟩
  rcases h5 with h5 | ⟨g, cap, cur, e, hbg, hgg, r⟩
  · exact .inl h5
  · exact .inr ⟨g, cap, cur, e, hbg, (Blk.far (p := p) (Blk.mk hgg) (by omega) u).eq, r⟩
/-- An element's block, within a round. -/
structure Ebk (wo : World) (st fx : Bool) (p : UInt8 → Bool) (W : World) : Prop where
  row : Blk W wo.heap.size 150 (eltOf st fx p)
  ext : Ext wo W
section
variable {wo W W' : World} {st fx : Bool} {p : UInt8 → Bool}
theorem Ebk.into (h : Ebk wo st fx p W) (hx : Ext W W') : Ebk wo st fx p W' := ⟨Blk.ext hx h.row, h.ext.trans hx⟩
theorem Ebk.put (h : Ebk wo st fx p W) (c : UInt8) (b : Bool) : Ebk wo st fx (fun x => if x = c then b else p x) (W.setCell ⟨wo.heap.size, 2 + c.toNat, none⟩ (.bool b)) :=
  ⟨Blk.convG (h.row.set_ _ _) (eltOf_put st fx p c b), Ext.setCell (p := ⟨wo.heap.size, 2 + c.toNat, none⟩) h.ext (Nat.le_refl _) _⟩
theorem Ebk.star (h : Ebk wo st fx p W) (b : Bool) : Ebk wo b fx p (W.setCell ⟨wo.heap.size, 0, none⟩ (.bool b)) :=
  ⟨Blk.convG (h.row.set_ _ _) (eltOf_star st fx b p), Ext.setCell (p := ⟨wo.heap.size, 0, none⟩) h.ext (Nat.le_refl _) _⟩
theorem Ebk.fixed (h : Ebk wo st fx p W) (b : Bool) : Ebk wo st b p (W.setCell ⟨wo.heap.size, 1, none⟩ (.bool b)) :=
  ⟨Blk.convG (h.row.set_ _ _) (eltOf_fixed st fx b p), Ext.setCell (p := ⟨wo.heap.size, 1, none⟩) h.ext (Nat.le_refl _) _⟩
theorem Ebk.whole (h : Ebk wo st fx p W) (st' fx' : Bool) (q : UInt8 → Bool) : Ebk wo st' fx' q (W.setCells wo.heap.size 0 (eltOf st' fx' q).toList) :=
  ⟨Blk.whole h.row (by rw [eltOf_size, eltOf_size]), Ext.setAll (Nat.le_refl _) _ _ _ h.ext⟩
theorem Ebk.all (h : Ebk wo st fx p W) : ∃ Y : Array Value, Y = eltOf st fx p ∧ W.rangeAt wo.heap.size 0 Y.toList ∧ (Tryz.prog.info? 150).map (·.size) = some Y.toList.length ∧ Y.size = 258 :=
  ⟨_, rfl, h.row.range 0 _ (fun j _ => by rw [Nat.zero_add, Array.getElem?_toList]), by rw [Array.length_toList, eltOf_size]; exact elt_info, eltOf_size _ _ _⟩
end
namespace Gl
/-- Elements read so far. -/
structure Els (l : List UInt8) (j n : Nat) (els : List El) : Prop where
  eq : elems l.length l = (elems n (l.drop j)).map (els ++ ·)
  fuel : (l.drop j).length ≤ n
theorem Els.start (l : List UInt8) : Els l 0 l.length [] := ⟨by simp, Nat.le_refl _⟩
theorem Els.step {l : List UInt8} {j n k : Nat} {els : List El} {e : El} (h : Els l j n els) (hj : j < l.length) (ho : one (l.drop j) = some (e, l.drop (j + k))) : ∃ m, Els l (j + k) m (els ++ [e]) := by
  cases hd : l.drop j with
  | nil => rw [hd] at ho; cases ho
  | cons c r =>
    have hf := h.fuel
    have hl := one_lt ho
    rw [hd] at ho hf hl
    cases n with
    | zero => simp at hf
    | succ m =>
      refine ⟨m, ?_, by simp only [List.length_cons] at hf hl; omega⟩
      rw [h.eq, hd]
      show ((match one (c :: r) with | none => none | some (e, r) => (elems m r).map (e :: ·)) : Option (List El)).map _ = _
      rw [ho]
      show ((elems m (l.drop (j + k))).map (e :: ·)).map _ = _
      rw [Option.map_map]
      congr 1
      funext x
      simp
theorem Els.bad {l : List UInt8} {j n : Nat} {els : List El} (h : Els l j n els) (hj : j < l.length) (ho : one (l.drop j) = none) : elems l.length l = none := by
  rw [h.eq]
  cases hd : l.drop j with
  | nil => rw [hd] at ho; have := congrArg List.length hd; rw [List.length_drop] at this; simp at this; omega
  | cons c r =>
    have hf := h.fuel
    rw [hd] at ho hf
    cases n with
    | zero => simp at hf
    | succ m =>
      show ((match one (c :: r) with | none => none | some (e, r) => (elems m r).map (e :: ·)) : Option (List El)).map _ = _
      rw [ho]
      rfl
theorem Els.end {l : List UInt8} {n : Nat} {els : List El} (h : Els l l.length n els) : elems l.length l = some els := by
  rw [h.eq, List.drop_length]
  cases n <;> simp [elems]
end Gl
end Go.Proofs.YtnjcifppkijanaaGreatDoor
namespace Go.Proofs.YtnjcifppkijanaaGreatDoor
open Go Go.RowKit Go.Shelf
/-- What parse hands back. -/
def CompF (l : List UInt8) (w : World) (e : Ending) (w' : World) : Prop := ∃ A n m deep ok, e = .returned (.tuple #[.agg #[.bool deep, .slice A n m], .bool ok]) ∧ Ext w w' ∧ match Gl.comp l with
  | none => ok = false
  | some cp => ok = true ∧ RCpt w' (fun b => w.heap.size ≤ b) [.bool deep, .slice A n m] cp
theorem CompF.bad {l : List UInt8} {w w' : World} {A : Option Addr} {n m : Nat} {deep : Bool} (h : Gl.comp l = none) (hx : Ext w w') : CompF l w (.returned (.tuple #[.agg #[.bool deep, .slice A n m], .bool false])) w' := ⟨A, n, m, deep, false, rfl, hx, by rw [h]⟩
theorem comp_bad {l : List UInt8} (h2 : l ≠ [42, 42]) (h : Gl.elems l.length l = none) : Gl.comp l = none := by
  unfold Gl.comp
  by_cases h0 : l = []
  · rw [if_pos h0]
  · rw [if_neg h0, if_neg h2, h]
    rfl
theorem one_lit_ron {c : UInt8} {l : List UInt8} (h1 : c ≠ 42) (h2 : c ≠ 63) (h3 : c ≠ 91) (hl : l.head? = some c) : Gl.one l = if (Gl.ron l).2 = 0 then none else some (some (fun x => x == (Gl.ron l).1), l.drop (Gl.ron l).2) := by
  cases l with
  | nil => cases hl
  | cons x t =>
    obtain rfl : x = c := by simpa using hl
    rw [Gl.one_lit t h1 h2 h3, Gl.plain_ron]
    split <;> rfl
def anyTo (b : Nat) : UInt8 → Bool := fun x => decide (x.toNat < b) && x != 47
theorem anyTo_zero : anyTo 0 = fun _ => false := by funext x; simp [anyTo]
theorem anyTo_end : anyTo 256 = fun b => b != 47 := by
  funext x
  have : x.toNat < 256 := UInt8.toNat_lt x
  simp [anyTo, this]
theorem anyTo_step {b : Nat} (h : b < 256) : (fun x => if x = UInt8.ofNat b then (UInt8.ofNat b != 47) else anyTo b x) = anyTo (b + 1) := by
  funext x
  have e3 : (UInt8.ofNat b).toNat = b := UInt8.toNat_ofNat_of_lt' h
  unfold anyTo
  by_cases e : x = UInt8.ofNat b
  · rw [if_pos e, e, e3]; simp
  · have h3 : x.toNat ≠ b := fun k => e (UInt8.toNat_inj.1 (by rw [e3, k]))
    rw [if_neg e]
    congr 1
    exact decide_eq_decide.2 (by omega)
set_option maxHeartbeats 16000000 in
set_option maxRecDepth 100000 in
theorem rparse32_any (s : ByteArray) (w : World) (hs : s.size ≤ 1000000) : Calls Tryz.prog 94 #[.string s] w (CompF (Ig.L s) w) := by
  have hlen : (Ig.L s).length = s.size := rfl
  by_cases hss : Ig.L s = [42, 42]
  · have hq : (s.toList == ([42, 42] : List UInt8)) = true := by rw [ByteArray.toList_eq]; simpa using hss
    have hcp : Gl.comp (Ig.L s) = some none := by rw [hss]; rfl
    have hx := Ext.refl w
    clear hss hlen
    go_enter Tryz.func94, Tryz.ntmps94
    go_wp2_with fail
    refine bodyPost_ret (v := .tuple #[.agg #[.bool true, .slice none 0 0], .bool true]) ?_ rfl ?_
    focus
      simp only [results, Tryz.results94]
      go_simp
      done
    refine ⟨none, 0, 0, true, true, rfl, by repeat (first | exact hx | refine Ext.alloc ?_ _), ?_⟩
    rw [hcp]
    exact ⟨rfl, none, 0, 0, rfl, rfl, Nat.le_refl _, Sls.nil _ _ _ _⟩
  · have hq : (s.toList == ([42, 42] : List UInt8)) = false := by rw [ByteArray.toList_eq]; simpa using hss
    have HNS := Lib.hid hss
    have HP0 : Hid (Pst w [] (.slice none 0 0) ((w.alloc (.cells #[.bool false, .slice none 0 0] 122)).alloc (.cells #[.bool false, .slice none 0 0] 122))) := Lib.hid
      ⟨Blk.alloc (Blk.new' rfl) _, Blk.new' (by simp), OwnW.nil _ _ _ _ _ _ _, ((Ext.refl w).alloc _).alloc _⟩
    clear hss
    go_enter Tryz.func94, Tryz.ntmps94
    go_wp2_with fail
    go_loopw [5, 6, 7, 8, 9, 10] (fun u5 _ _ _ _ _ wr => ∃ (j : Nat) (els : List Gl.El) (v : Value), u5 = .int .i64 j ∧ j ≤ s.size ∧ els.length ≤ j ∧ Hid (Pst w els v wr) ∧ Hid (∃ n, Gl.Els (Ig.L s) j n els)) (fun u _ _ _ _ _ _ => s.size - (intOf u).toNat)
    case atStart => exact ⟨0, [], _, rfl, Nat.zero_le _, Nat.le_refl _, HP0, Lib.hid ⟨_, Gl.Els.start _⟩⟩
    case round =>
      clear HP0 hq
      rename World => wo
      obtain ⟨j, els, v, rfl, hjs, hej, HP, HEN⟩ := hrel
      by_cases hlt : j < s.size
      · have hat := byteAt s hlt
        obtain ⟨c, hc⟩ : ∃ c, s[j] = c := ⟨_, rfl⟩
        rw [hc] at hat
        have HDR := Lib.hid (drop_at hat)
        obtain ⟨Z, hZ⟩ : ∃ Z, Z = eltOf false false fun _ => false := ⟨_, rfl⟩
        obtain ⟨W1, hW1⟩ : ∃ W1, W1 = (wo.alloc (.cells Z 150)).setCells wo.heap.size 0 Z.toList := ⟨_, rfl⟩
        have HW1 := Lib.hid hW1
        have HE1 : Hid (Ebk wo false false (fun _ => false) W1) := Lib.hid (by
          rw [hW1, hZ]
          exact ⟨Blk.whole (Blk.new' rfl) rfl, Ext.setAll (Nat.le_refl _) _ _ _ ((Ext.refl wo).alloc _)⟩)
        have HTH : Hid ((wo.alloc (.cells Z 150)).there wo.heap.size 0 Z.size) := Lib.hid (Blk.there (Blk.new' (t := 150) rfl))
        have HZ : Hid ((∀ w, (zeroValue 150).run Tryz.prog w = .ok (.agg Z) w) ∧ (∀ f : Nat × Operand → Nat × Value, Tryz.prog.built 150 (#[].map f).toList = some Z) ∧ (Tryz.prog.info? 150).map (·.size) = some Z.size ∧ Z.all (·.oneCell') = true) := Lib.hid (by
          rw [hZ]
          exact ⟨elt_zeroV, elt_built, Est.size _, eltOf_one _ _ _⟩)
        have hfr : ∀ i, W1.frozen? ⟨wo.heap.size, i, none⟩ = false := HE1.out.row.frozen
        clear hZ hW1 hat hlen
        by_cases h42 : c = 42
        · subst h42
          have hc0 : W1.cell? ⟨wo.heap.size, 0, none⟩ = some (.bool false) := by rw [HE1.out.row.cell]; rfl
          have HE2 : Hid (Ebk wo true false (fun _ => false) (W1.setCell ⟨wo.heap.size, 0, none⟩ (.bool true))) := Lib.hid (HE1.out.star true)
          have HON : Hid (Gl.one ((Ig.L s).drop j) = some (none, (Ig.L s).drop (j + 1))) := Lib.hid (by rw [HDR.out]; rfl)
          obtain ⟨Y, hY, hYs⟩ := (HE2.out).all
          have HYE := Lib.hid hY
          have HY := Lib.hid hYs
          have HPT : Hid (Pst w els v (W1.setCell ⟨wo.heap.size, 0, none⟩ (.bool true))) := Lib.hid (HP.out.into (HE2.out).ext)
          have hcv : (W1.setCell ⟨wo.heap.size, 0, none⟩ (.bool true)).cell? ⟨w.heap.size + 1, 1, none⟩ = some v := HPT.out.c.cell 1
          obtain ⟨ie, iz, hie, hiz, his, hib, hik⟩ := eltInfo
          have HIE := Lib.hid (⟨hie, hiz, his, hib, hik⟩ : _ ∧ _ ∧ _ ∧ _ ∧ _)
          have HRE : Hid (RElt w All Y.toList (none)) := Lib.hid (by rw [HYE.out]; exact relt_star false)
          have HBD : Hid (els.length + 1 ≤ maxLen ∧ (els.length + 1) * 258 ≤ 140737488355328 ∧ w.heap.size + 2 ≤ ((W1.setCell ⟨wo.heap.size, 0, none⟩ (.bool true)).alloc (.cells Y 150)).heap.size ∧ ((W1.setCell ⟨wo.heap.size, 0, none⟩ (.bool true)).alloc (.cells Y 150)).rangeAt (W1.setCell ⟨wo.heap.size, 0, none⟩ (.bool true)).heap.size 0 Y.toList) := Lib.hid ⟨by unfold maxLen; omega, by omega, by have h9 := HPT.out.c.lt; (try simp at h9); simp; omega, (Blk.new' (w := W1.setCell ⟨wo.heap.size, 0, none⟩ (.bool true)) (g := (W1.setCell ⟨wo.heap.size, 0, none⟩ (.bool true)).heap.size) (cs := Y) (t := 150) rfl).range 0 _ (fun j _ => by rw [Nat.zero_add, Array.getElem?_toList])⟩
          clear hY hYs hie hiz his hib hik
          go_wp2_with (first
            | (refine wpList_buildZ rfl 150 rfl Z HZ.out.2.1 ?_; try simp only [Act.put, sA, s0, sS])
            | (refine wpList_allocTo rfl 150 rfl Z HZ.out.1 wo.heap.size rfl ?_; try simp only [Act.put, sA, s0, sS])
            | (refine wpList_store_mid rfl 150 (.tmp 6) (.tmp 20) rfl wo.heap.size 0 Z rfl rfl HTH.out HZ.out.2.2.1 HZ.out.2.2.2 ?_; rw [← HW1.out]; try simp only [Act.put])
            | (refine wpList_load_arr rfl 150 (.tmp 6) rfl wo.heap.size 0 rfl Y _ HY.out.1 Tryz.underlying150 rfl HY.out.2.1 ?_; try simp only [Act.put, sA, s0, sS])
            | (refine wpList_buildOne rfl 120 150 (.tmp 64) rfl Y rfl 258 HY.out.2.2 Tryz.underlying120 ⟨_, _, HIE.out.1, HIE.out.2.1, HIE.out.2.2.1, HIE.out.2.2.2.2⟩ (by decide) (by decide) (W1.setCell ⟨wo.heap.size, 0, none⟩ (.bool true)).heap.size rfl ?_; try simp only [Act.put, sA, s0, sS])
            | (at_builtin; refine wpList_append_w (k := 258) (R := RElt) RElt.one w _ rfl (.tmp 63) (.tmp 65) 120 150 ie iz rfl Tryz.underlying120 HIE.out.1 HIE.out.2.1 HIE.out.2.2.1 HIE.out.2.2.2.1 HIE.out.2.2.2.2 (by decide) (w.heap.size + 2) (F := All) v els rfl (HPT.out.own.ext ((Ext.refl _).alloc _)) (W1.setCell ⟨wo.heap.size, 0, none⟩ (.bool true)).heap.size 1 Y.toList (none) rfl HBD.out.2.2.2 (by rw [Array.length_toList]; exact HY.out.2.2) HRE.out HBD.out.1 HBD.out.2.1 HBD.out.2.2.1 ?_))
          intro g2 cap w5 how5 hgrow
          have HP4 : Hid (Pst w els v ((W1.setCell ⟨wo.heap.size, 0, none⟩ (.bool true)).alloc (.cells Y 150))) := Lib.hid (HPT.out.into ((Ext.refl _).alloc _))
          have HP5 := Lib.hid (HP4.out.app hgrow how5)
          obtain ⟨hc5, hf5, hl5⟩ := ((hgrow.block (w.heap.size + 1) HP4.out.c.lt (fun e => by have := (HP4.out.own.block e.symm).1; omega)).trans HP4.out.c |> Blk.mk).all
          have HEL : Hid (∃ m, Gl.Els (Ig.L s) (j + 1) m (els ++ [none])) := Lib.hid (by obtain ⟨m, hm⟩ := HEN.out; exact hm.step hlt HON.out)
          have hle := hlt
          clear how5 hgrow HP4 HPT hcv
          go_wp2_with fail
          go_roundw
          case rel => exact ⟨j + 1, els ++ [none], _, by first | rfl | (congr 1; push_cast; omega), by omega, by rw [List.length_append, List.length_singleton]; omega, HP5, HEL⟩
          case measure => simp [intOf]; omega
        · by_cases h63 : c = 63
          · subst h63
            have HON : Hid (Gl.one ((Ig.L s).drop j) = some (some fun b => b != 47, (Ig.L s).drop (j + 1))) := Lib.hid (by rw [HDR.out]; rfl)
            go_wp2_with (first
              | (refine wpList_buildZ rfl 150 rfl Z HZ.out.2.1 ?_; try simp only [Act.put, sA, s0, sS])
              | (refine wpList_allocTo rfl 150 rfl Z HZ.out.1 wo.heap.size rfl ?_; try simp only [Act.put, sA, s0, sS])
              | (refine wpList_store_mid rfl 150 (.tmp 6) (.tmp 20) rfl wo.heap.size 0 Z rfl rfl HTH.out HZ.out.2.2.1 HZ.out.2.2.2 ?_; rw [← HW1.out]; try simp only [Act.put]))
            go_loopw [8] (fun u8 wr => ∃ b : Nat, u8 = .int .i64 b ∧ b ≤ 256 ∧ Hid (Ebk wo false false (anyTo b) wr)) (fun u _ => 256 - (intOf u).toNat)
            case atStart => exact ⟨0, rfl, Nat.zero_le _, Lib.hid (by rw [anyTo_zero]; exact HE1.out)⟩
            case round =>
              clear HE1 hfr HTH HZ HW1
              rename World => wf
              obtain ⟨b, rfl, hb256, HF⟩ := hrel
              by_cases hbl : b < 256
              · have hbl2 : (b : Int) < 256 := by omega
                have e3 : (UInt8.ofNat b).toNat = b := UInt8.toNat_ofNat_of_lt' hbl
                have hcell : wf.cell? ⟨wo.heap.size, 2 + b, none⟩ = some (.bool (anyTo b (UInt8.ofNat b))) := by
                  rw [HF.out.row.cell]
                  have := eltOf_get false false (anyTo b) (UInt8.ofNat b)
                  rwa [e3] at this
                have hfz : wf.frozen? ⟨wo.heap.size, 2 + b, none⟩ = false := HF.out.row.frozen _
                have h47 : (UInt8.ofNat b != 47) = ((b : Int) != 47) := by
                  have := byte_beq (UInt8.ofNat b) 47 (by omega)
                  rw [e3] at this
                  exact congrArg not this.symm
                have HF2 : Hid (∀ v, v = ((b : Int) != 47) → Ebk wo false false (anyTo (b + 1)) (wf.setCell ⟨wo.heap.size, 2 + b, none⟩ (.bool v))) := Lib.hid (fun v hv => by
                  have := HF.out.put (UInt8.ofNat b) v
                  rw [hv, ← h47, e3, anyTo_step hbl] at this
                  rw [hv, ← h47]
                  exact this)
                clear HF e3 h47
                cases h7 : ((b : Int) != 47)
                all_goals
                  have HF3 := Lib.hid (HF2.out _ h7.symm)
                  go_wp2_with fail
                  go_roundw
                  case rel => exact ⟨b + 1, rfl, by omega, HF3⟩
                  case measure => simp [intOf]; omega
              · obtain rfl : b = 256 := by omega
                have HF3 : Hid (Ebk wo false false (fun b => b != 47) wf) := Lib.hid (by have := HF.out; rwa [anyTo_end] at this)
                clear HF
                obtain ⟨Y, hY, hYs⟩ := (HF3.out).all
                have HYE := Lib.hid hY
                have HY := Lib.hid hYs
                have HPT : Hid (Pst w els v (wf)) := Lib.hid (HP.out.into (HF3.out).ext)
                have hcv : (wf).cell? ⟨w.heap.size + 1, 1, none⟩ = some v := HPT.out.c.cell 1
                obtain ⟨ie, iz, hie, hiz, his, hib, hik⟩ := eltInfo
                have HIE := Lib.hid (⟨hie, hiz, his, hib, hik⟩ : _ ∧ _ ∧ _ ∧ _ ∧ _)
                have HRE : Hid (RElt w All Y.toList (some fun b => b != 47)) := Lib.hid (by rw [HYE.out]; exact relt_of false _)
                have HBD : Hid (els.length + 1 ≤ maxLen ∧ (els.length + 1) * 258 ≤ 140737488355328 ∧ w.heap.size + 2 ≤ ((wf).alloc (.cells Y 150)).heap.size ∧ ((wf).alloc (.cells Y 150)).rangeAt (wf).heap.size 0 Y.toList) := Lib.hid ⟨by unfold maxLen; omega, by omega, by have h9 := HPT.out.c.lt; (try simp at h9); simp; omega, (Blk.new' (w := wf) (g := (wf).heap.size) (cs := Y) (t := 150) rfl).range 0 _ (fun j _ => by rw [Nat.zero_add, Array.getElem?_toList])⟩
                clear hY hYs hie hiz his hib hik
                go_wp2_with (first
                  | (refine wpList_load_arr rfl 150 (.tmp 6) rfl wo.heap.size 0 rfl Y _ HY.out.1 Tryz.underlying150 rfl HY.out.2.1 ?_; try simp only [Act.put, sA, s0, sS])
                  | (refine wpList_buildOne rfl 120 150 (.tmp 64) rfl Y rfl 258 HY.out.2.2 Tryz.underlying120 ⟨_, _, HIE.out.1, HIE.out.2.1, HIE.out.2.2.1, HIE.out.2.2.2.2⟩ (by decide) (by decide) (wf).heap.size rfl ?_; try simp only [Act.put, sA, s0, sS])
                  | (at_builtin; refine wpList_append_w (k := 258) (R := RElt) RElt.one w _ rfl (.tmp 63) (.tmp 65) 120 150 ie iz rfl Tryz.underlying120 HIE.out.1 HIE.out.2.1 HIE.out.2.2.1 HIE.out.2.2.2.1 HIE.out.2.2.2.2 (by decide) (w.heap.size + 2) (F := All) v els rfl (HPT.out.own.ext ((Ext.refl _).alloc _)) (wf).heap.size 1 Y.toList (some fun b => b != 47) rfl HBD.out.2.2.2 (by rw [Array.length_toList]; exact HY.out.2.2) HRE.out HBD.out.1 HBD.out.2.1 HBD.out.2.2.1 ?_))
                intro g2 cap w5 how5 hgrow
                have HP4 : Hid (Pst w els v ((wf).alloc (.cells Y 150))) := Lib.hid (HPT.out.into ((Ext.refl _).alloc _))
                have HP5 := Lib.hid (HP4.out.app hgrow how5)
                obtain ⟨hc5, hf5, hl5⟩ := ((hgrow.block (w.heap.size + 1) HP4.out.c.lt (fun e => by have := (HP4.out.own.block e.symm).1; omega)).trans HP4.out.c |> Blk.mk).all
                have HEL : Hid (∃ m, Gl.Els (Ig.L s) (j + 1) m (els ++ [some fun b => b != 47])) := Lib.hid (by obtain ⟨m, hm⟩ := HEN.out; exact hm.step hlt HON.out)
                have hle := hlt
                clear how5 hgrow HP4 HPT hcv
                go_wp2_with fail
                go_roundw
                case rel => exact ⟨j + 1, els ++ [some fun b => b != 47], _, by first | rfl | (congr 1; push_cast; omega), by omega, by rw [List.length_append, List.length_singleton]; omega, HP5, HEL⟩
                case measure => simp [intOf]; omega
          · have hex : Ig.L (s.extract j s.size) = (Ig.L s).drop j := L_from s j
            have hexs : (s.extract j s.size).size = s.size - j := by simp [ByteArray.size_extract]
            have hdl : ((Ig.L s).drop j).length = s.size - j := by rw [List.length_drop]; rfl
            by_cases h91 : c = 91
            · subst h91
              have HCC := Lib.hid (rclass_any (s.extract j s.size) W1 (by omega) (by omega))
              rw [hex] at HCC
              go_wp2_with (first
                | (refine wpList_buildZ rfl 150 rfl Z HZ.out.2.1 ?_; try simp only [Act.put, sA, s0, sS])
                | (refine wpList_allocTo rfl 150 rfl Z HZ.out.1 wo.heap.size rfl ?_; try simp only [Act.put, sA, s0, sS])
                | (refine wpList_store_mid rfl 150 (.tmp 6) (.tmp 20) rfl wo.heap.size 0 Z rfl rfl HTH.out HZ.out.2.2.1 HZ.out.2.2.2 ?_; rw [← HW1.out]; try simp only [Act.put]))
              refine HCC.out.mono ?_
              rintro e w2 ⟨p, n, rfl, hnl, hcls, hx2⟩
              rw [List.drop_drop, List.drop_drop] at hcls
              rw [hdl] at hnl
              have HCL := Lib.hid hcls
              have HX2 := Lib.hid hx2
              have HEA : Hid (Ebk wo false false (fun _ => false) w2) := Lib.hid (HE1.out.into hx2)
              obtain ⟨Yc, hYc⟩ : ∃ Yc, Yc = eltOf false false p := ⟨_, rfl⟩
              obtain ⟨W2, hW2⟩ : ∃ W2, W2 = w2.setCells wo.heap.size 0 Yc.toList := ⟨_, rfl⟩
              have HW2 := Lib.hid hW2
              have HE2 : Hid (Ebk wo false false p W2) := Lib.hid (by rw [hW2, hYc]; exact HEA.out.whole false false p)
              have HTC : Hid (w2.there wo.heap.size 0 Yc.size ∧ (Tryz.prog.info? 150).map (·.size) = some Yc.size ∧ Yc.all (·.oneCell') = true) := Lib.hid (by
                rw [hYc]
                exact ⟨by rw [eltOf_size, ← eltOf_size false false fun _ => false]; exact HEA.out.row.there, Est.size _, eltOf_one _ _ _⟩)
              rw [← hYc]
              clear hYc hW2 hcls hx2 HCC HE1 HTH HZ HW1 hfr hex hexs
              rcases Nat.eq_zero_or_pos n with hn0 | hn0
              · subst hn0
                have HBAD : Hid (Gl.comp (Ig.L s) = none) := Lib.hid (comp_bad HNS.out (by
                  obtain ⟨m, hm⟩ := HEN.out
                  exact hm.bad hlt (by rw [HDR.out, Gl.one_cls, HCL.out]; rfl)))
                obtain ⟨A9, c9, rfl, hc9, -⟩ := HP.out.own.slice
                have HPR : Hid (Pst w els (.slice A9 els.length c9) (W2)) := Lib.hid (HP.out.into (HE2.out.ext))
                obtain ⟨hr0, hf0, hl0⟩ := HPR.out.res.all
                obtain ⟨hr1, hf1, hl1⟩ := HPR.out.c.all
                go_wp2_with (first | (refine wpList_store_mid rfl 150 (.tmp 6) (.tmp 57) rfl wo.heap.size 0 Yc rfl rfl HTC.out.1 HTC.out.2.1 HTC.out.2.2 ?_; rw [← HW2.out]; try simp only [Act.put]))
                refine bodyPost_ret (v := .tuple #[.agg #[.bool false, .slice A9 els.length c9], .bool false]) ?_ rfl ?_
                focus
                  simp only [results, Tryz.results94]
                  go_simp
                  done
                exact CompF.bad HBAD.out (Ext.setCell (p := ⟨w.heap.size, 1, none⟩) (Ext.setCell (p := ⟨w.heap.size, 0, none⟩) HPR.out.ext (Nat.le_refl _) _) (Nat.le_refl _) _)
              · have hnb : ((n : Int) == 0) = false := beq_eq_false_iff_ne.2 (by omega)
                have HON : Hid (Gl.one ((Ig.L s).drop j) = some (some p, (Ig.L s).drop (j + n))) := Lib.hid (by rw [HDR.out, Gl.one_cls, HCL.out, if_neg (by omega)])
                clear HCL
                obtain ⟨Y, hY, hYs⟩ := (HE2.out).all
                have HYE := Lib.hid hY
                have HY := Lib.hid hYs
                have HPT : Hid (Pst w els v (W2)) := Lib.hid (HP.out.into (HE2.out).ext)
                have hcv : (W2).cell? ⟨w.heap.size + 1, 1, none⟩ = some v := HPT.out.c.cell 1
                obtain ⟨ie, iz, hie, hiz, his, hib, hik⟩ := eltInfo
                have HIE := Lib.hid (⟨hie, hiz, his, hib, hik⟩ : _ ∧ _ ∧ _ ∧ _ ∧ _)
                have HRE : Hid (RElt w All Y.toList (some p)) := Lib.hid (by rw [HYE.out]; exact relt_of false _)
                have HBD : Hid (els.length + 1 ≤ maxLen ∧ (els.length + 1) * 258 ≤ 140737488355328 ∧ w.heap.size + 2 ≤ ((W2).alloc (.cells Y 150)).heap.size ∧ ((W2).alloc (.cells Y 150)).rangeAt (W2).heap.size 0 Y.toList) := Lib.hid ⟨by unfold maxLen; omega, by omega, by have h9 := HPT.out.c.lt; (try simp at h9); simp; omega, (Blk.new' (w := W2) (g := (W2).heap.size) (cs := Y) (t := 150) rfl).range 0 _ (fun j _ => by rw [Nat.zero_add, Array.getElem?_toList])⟩
                clear hY hYs hie hiz his hib hik
                go_wp2_with (first
                | (refine wpList_store_mid rfl 150 (.tmp 6) (.tmp 57) rfl wo.heap.size 0 Yc rfl rfl HTC.out.1 HTC.out.2.1 HTC.out.2.2 ?_; rw [← HW2.out]; try simp only [Act.put])
                  | (refine wpList_load_arr rfl 150 (.tmp 6) rfl wo.heap.size 0 rfl Y _ HY.out.1 Tryz.underlying150 rfl HY.out.2.1 ?_; try simp only [Act.put, sA, s0, sS])
                  | (refine wpList_buildOne rfl 120 150 (.tmp 64) rfl Y rfl 258 HY.out.2.2 Tryz.underlying120 ⟨_, _, HIE.out.1, HIE.out.2.1, HIE.out.2.2.1, HIE.out.2.2.2.2⟩ (by decide) (by decide) (W2).heap.size rfl ?_; try simp only [Act.put, sA, s0, sS])
                  | (at_builtin; refine wpList_append_w (k := 258) (R := RElt) RElt.one w _ rfl (.tmp 63) (.tmp 65) 120 150 ie iz rfl Tryz.underlying120 HIE.out.1 HIE.out.2.1 HIE.out.2.2.1 HIE.out.2.2.2.1 HIE.out.2.2.2.2 (by decide) (w.heap.size + 2) (F := All) v els rfl (HPT.out.own.ext ((Ext.refl _).alloc _)) (W2).heap.size 1 Y.toList (some p) rfl HBD.out.2.2.2 (by rw [Array.length_toList]; exact HY.out.2.2) HRE.out HBD.out.1 HBD.out.2.1 HBD.out.2.2.1 ?_))
                intro g2 cap w5 how5 hgrow
                have HP4 : Hid (Pst w els v ((W2).alloc (.cells Y 150))) := Lib.hid (HPT.out.into ((Ext.refl _).alloc _))
                have HP5 := Lib.hid (HP4.out.app hgrow how5)
                obtain ⟨hc5, hf5, hl5⟩ := ((hgrow.block (w.heap.size + 1) HP4.out.c.lt (fun e => by have := (HP4.out.own.block e.symm).1; omega)).trans HP4.out.c |> Blk.mk).all
                have HEL : Hid (∃ m, Gl.Els (Ig.L s) (j + n) m (els ++ [some p])) := Lib.hid (by obtain ⟨m, hm⟩ := HEN.out; exact hm.step hlt HON.out)
                have hle := hnl
                clear how5 hgrow HP4 HPT hcv
                go_wp2_with fail
                go_roundw
                case rel => exact ⟨j + n, els ++ [some p], _, by first | rfl | (congr 1; push_cast; omega), by omega, by rw [List.length_append, List.length_singleton]; omega, HP5, HEL⟩
                case measure => simp [intOf]; omega
            · have e42 : ((c.toNat : Int) == 42) = false := byte_ne (n := 42) (by omega) h42
              have e63 : ((c.toNat : Int) == 63) = false := byte_ne (n := 63) (by omega) h63
              have e91 : ((c.toNat : Int) == 91) = false := byte_ne (n := 91) (by omega) h91
              have HR1 : Hid (∀ W, Calls Tryz.prog 121 #[.string (s.extract j s.size)] W (Same (.tuple #[.int .u8 (Gl.ron ((Ig.L s).drop j)).1.toNat, .int .i64 (Gl.ron ((Ig.L s).drop j)).2]) W)) := Lib.hid fun W => by
                rw [← hex]
                exact rone_same _ W
              have HLT := Lib.hid (one_lit_ron h42 h63 h91 (l := (Ig.L s).drop j) (by rw [HDR.out]; rfl))
              have hrl := (Gl.ron_le ((Ig.L s).drop j)).1
              rw [hdl] at hrl
              obtain ⟨b, n, hr⟩ : ∃ b n, Gl.ron ((Ig.L s).drop j) = (b, n) := ⟨_, _, rfl⟩
              rw [hr] at HR1 HLT hrl
              dsimp only at HR1 HLT hrl
              have hc1 : W1.cell? ⟨wo.heap.size, 1, none⟩ = some (.bool false) := by rw [HE1.out.row.cell]; rfl
              have HEA : Hid (Ebk wo false true (fun _ => false) (W1.setCell ⟨wo.heap.size, 1, none⟩ (.bool true))) := Lib.hid (HE1.out.fixed true)
              have hc2 : (W1.setCell ⟨wo.heap.size, 1, none⟩ (.bool true)).cell? ⟨wo.heap.size, 2 + b.toNat, none⟩ = some (.bool false) := by rw [HEA.out.row.cell]; exact eltOf_get _ _ _ b
              have hfr2 : ∀ i, (W1.setCell ⟨wo.heap.size, 1, none⟩ (.bool true)).frozen? ⟨wo.heap.size, i, none⟩ = false := HEA.out.row.frozen
              have hb256 : (b.toNat : Int) < 256 := by have : b.toNat < 256 := UInt8.toNat_lt b; omega
              have HE2 : Hid (Ebk wo false true (fun x => x == b) ((W1.setCell ⟨wo.heap.size, 1, none⟩ (.bool true)).setCell ⟨wo.heap.size, 2 + b.toNat, none⟩ (.bool true))) := Lib.hid (by
                have := HEA.out.put b true
                have e : (fun x => if x = b then true else false) = fun x => x == b := by funext x; by_cases h : x = b <;> simp [h]
                rwa [e] at this)
              clear hr hex hexs HE1 HEA
              rcases Nat.eq_zero_or_pos n with hn0 | hn0
              · subst hn0
                have HBAD : Hid (Gl.comp (Ig.L s) = none) := Lib.hid (comp_bad HNS.out (by
                  obtain ⟨m, hm⟩ := HEN.out
                  exact hm.bad hlt (by rw [HLT.out]; rfl)))
                go_wp2_with (first
                  | (refine wpList_buildZ rfl 150 rfl Z HZ.out.2.1 ?_; try simp only [Act.put, sA, s0, sS])
                  | (refine wpList_allocTo rfl 150 rfl Z HZ.out.1 wo.heap.size rfl ?_; try simp only [Act.put, sA, s0, sS])
                  | (refine wpList_store_mid rfl 150 (.tmp 6) (.tmp 20) rfl wo.heap.size 0 Z rfl rfl HTH.out HZ.out.2.2.1 HZ.out.2.2.2 ?_; rw [← HW1.out]; try simp only [Act.put]))
                refine (HR1.out _).mono ?_
                rintro e w2 ⟨rfl, hww⟩
                obtain rfl := hww.symm
                clear HZ HTH HW1
                obtain ⟨A9, c9, rfl, hc9, -⟩ := HP.out.own.slice
                have HPR : Hid (Pst w els (.slice A9 els.length c9) ((W1.setCell ⟨wo.heap.size, 1, none⟩ (.bool true)).setCell ⟨wo.heap.size, 2 + b.toNat, none⟩ (.bool true))) := Lib.hid (HP.out.into (HE2.out.ext))
                obtain ⟨hr0, hf0, hl0⟩ := HPR.out.res.all
                obtain ⟨hr1, hf1, hl1⟩ := HPR.out.c.all
                go_wp2_with (fail)
                refine bodyPost_ret (v := .tuple #[.agg #[.bool false, .slice A9 els.length c9], .bool false]) ?_ rfl ?_
                focus
                  simp only [results, Tryz.results94]
                  go_simp
                  done
                exact CompF.bad HBAD.out (Ext.setCell (p := ⟨w.heap.size, 1, none⟩) (Ext.setCell (p := ⟨w.heap.size, 0, none⟩) HPR.out.ext (Nat.le_refl _) _) (Nat.le_refl _) _)
              · have hnb : ((n : Int) == 0) = false := beq_eq_false_iff_ne.2 (by omega)
                have HON : Hid (Gl.one ((Ig.L s).drop j) = some (some fun x => x == b, (Ig.L s).drop (j + n))) := Lib.hid (by rw [HLT.out, if_neg (by omega), List.drop_drop])
                clear HLT
                go_wp2_with (first
                  | (refine wpList_buildZ rfl 150 rfl Z HZ.out.2.1 ?_; try simp only [Act.put, sA, s0, sS])
                  | (refine wpList_allocTo rfl 150 rfl Z HZ.out.1 wo.heap.size rfl ?_; try simp only [Act.put, sA, s0, sS])
                  | (refine wpList_store_mid rfl 150 (.tmp 6) (.tmp 20) rfl wo.heap.size 0 Z rfl rfl HTH.out HZ.out.2.2.1 HZ.out.2.2.2 ?_; rw [← HW1.out]; try simp only [Act.put]))
                refine (HR1.out _).mono ?_
                rintro e w2 ⟨rfl, hww⟩
                obtain rfl := hww.symm
                clear HZ HTH HW1
                obtain ⟨Y, hY, hYs⟩ := (HE2.out).all
                have HYE := Lib.hid hY
                have HY := Lib.hid hYs
                have HPT : Hid (Pst w els v ((W1.setCell ⟨wo.heap.size, 1, none⟩ (.bool true)).setCell ⟨wo.heap.size, 2 + b.toNat, none⟩ (.bool true))) := Lib.hid (HP.out.into (HE2.out).ext)
                have hcv : ((W1.setCell ⟨wo.heap.size, 1, none⟩ (.bool true)).setCell ⟨wo.heap.size, 2 + b.toNat, none⟩ (.bool true)).cell? ⟨w.heap.size + 1, 1, none⟩ = some v := HPT.out.c.cell 1
                obtain ⟨ie, iz, hie, hiz, his, hib, hik⟩ := eltInfo
                have HIE := Lib.hid (⟨hie, hiz, his, hib, hik⟩ : _ ∧ _ ∧ _ ∧ _ ∧ _)
                have HRE : Hid (RElt w All Y.toList (some fun x => x == b)) := Lib.hid (by rw [HYE.out]; exact relt_of true _)
                have HBD : Hid (els.length + 1 ≤ maxLen ∧ (els.length + 1) * 258 ≤ 140737488355328 ∧ w.heap.size + 2 ≤ (((W1.setCell ⟨wo.heap.size, 1, none⟩ (.bool true)).setCell ⟨wo.heap.size, 2 + b.toNat, none⟩ (.bool true)).alloc (.cells Y 150)).heap.size ∧ (((W1.setCell ⟨wo.heap.size, 1, none⟩ (.bool true)).setCell ⟨wo.heap.size, 2 + b.toNat, none⟩ (.bool true)).alloc (.cells Y 150)).rangeAt ((W1.setCell ⟨wo.heap.size, 1, none⟩ (.bool true)).setCell ⟨wo.heap.size, 2 + b.toNat, none⟩ (.bool true)).heap.size 0 Y.toList) := Lib.hid ⟨by unfold maxLen; omega, by omega, by have h9 := HPT.out.c.lt; (try simp at h9); simp; omega, (Blk.new' (w := (W1.setCell ⟨wo.heap.size, 1, none⟩ (.bool true)).setCell ⟨wo.heap.size, 2 + b.toNat, none⟩ (.bool true)) (g := ((W1.setCell ⟨wo.heap.size, 1, none⟩ (.bool true)).setCell ⟨wo.heap.size, 2 + b.toNat, none⟩ (.bool true)).heap.size) (cs := Y) (t := 150) rfl).range 0 _ (fun j _ => by rw [Nat.zero_add, Array.getElem?_toList])⟩
                clear hY hYs hie hiz his hib hik
                go_wp2_with (first
                  | (refine wpList_load_arr rfl 150 (.tmp 6) rfl wo.heap.size 0 rfl Y _ HY.out.1 Tryz.underlying150 rfl HY.out.2.1 ?_; try simp only [Act.put, sA, s0, sS])
                  | (refine wpList_buildOne rfl 120 150 (.tmp 64) rfl Y rfl 258 HY.out.2.2 Tryz.underlying120 ⟨_, _, HIE.out.1, HIE.out.2.1, HIE.out.2.2.1, HIE.out.2.2.2.2⟩ (by decide) (by decide) ((W1.setCell ⟨wo.heap.size, 1, none⟩ (.bool true)).setCell ⟨wo.heap.size, 2 + b.toNat, none⟩ (.bool true)).heap.size rfl ?_; try simp only [Act.put, sA, s0, sS])
                  | (at_builtin; refine wpList_append_w (k := 258) (R := RElt) RElt.one w _ rfl (.tmp 63) (.tmp 65) 120 150 ie iz rfl Tryz.underlying120 HIE.out.1 HIE.out.2.1 HIE.out.2.2.1 HIE.out.2.2.2.1 HIE.out.2.2.2.2 (by decide) (w.heap.size + 2) (F := All) v els rfl (HPT.out.own.ext ((Ext.refl _).alloc _)) ((W1.setCell ⟨wo.heap.size, 1, none⟩ (.bool true)).setCell ⟨wo.heap.size, 2 + b.toNat, none⟩ (.bool true)).heap.size 1 Y.toList (some fun x => x == b) rfl HBD.out.2.2.2 (by rw [Array.length_toList]; exact HY.out.2.2) HRE.out HBD.out.1 HBD.out.2.1 HBD.out.2.2.1 ?_))
                intro g2 cap w5 how5 hgrow
                have HP4 : Hid (Pst w els v (((W1.setCell ⟨wo.heap.size, 1, none⟩ (.bool true)).setCell ⟨wo.heap.size, 2 + b.toNat, none⟩ (.bool true)).alloc (.cells Y 150))) := Lib.hid (HPT.out.into ((Ext.refl _).alloc _))
                have HP5 := Lib.hid (HP4.out.app hgrow how5)
                obtain ⟨hc5, hf5, hl5⟩ := ((hgrow.block (w.heap.size + 1) HP4.out.c.lt (fun e => by have := (HP4.out.own.block e.symm).1; omega)).trans HP4.out.c |> Blk.mk).all
                have HEL : Hid (∃ m, Gl.Els (Ig.L s) (j + n) m (els ++ [some fun x => x == b])) := Lib.hid (by obtain ⟨m, hm⟩ := HEN.out; exact hm.step hlt HON.out)
                have hle := hrl
                clear how5 hgrow HP4 HPT hcv
                go_wp2_with fail
                go_roundw
                case rel => exact ⟨j + n, els ++ [some fun x => x == b], _, by first | rfl | (congr 1; push_cast; omega), by omega, by rw [List.length_append, List.length_singleton]; omega, HP5, HEL⟩
                case measure => simp [intOf]; omega
      · obtain rfl : j = s.size := by omega
        have HEE : Hid (Gl.elems (Ig.L s).length (Ig.L s) = some els) := Lib.hid (by obtain ⟨n, hn⟩ := HEN.out; exact hn.end)
        obtain ⟨A9, c9, rfl, hc9, -⟩ := HP.out.own.slice
        obtain ⟨hr0, hf0, hl0⟩ := HP.out.res.all
        obtain ⟨hr1, hf1, hl1⟩ := HP.out.c.all
        have HXE : Hid (Ext w ((wo.setCell ⟨w.heap.size, 0, none⟩ (.bool false)).setCell ⟨w.heap.size, 1, none⟩ (.slice A9 els.length c9))) := Lib.hid (Ext.setCell (p := ⟨w.heap.size, 1, none⟩) (Ext.setCell (p := ⟨w.heap.size, 0, none⟩) HP.out.ext (Nat.le_refl _) _) (Nat.le_refl _) _)
        have HOE := Lib.hid ((HP.out.own.under (p := ⟨w.heap.size, 0, none⟩) (by show w.heap.size < _; omega) (.bool false)).under (p := ⟨w.heap.size, 1, none⟩) (by show w.heap.size < _; omega) (.slice A9 els.length c9))
        rcases Nat.eq_zero_or_pos s.size with hz0 | hz0
        · have hd0 : ¬ ((0 : Int) < (s.size : Int)) := by omega
          have HBAD : Hid (Gl.comp (Ig.L s) = none) := Lib.hid (by unfold Gl.comp; rw [if_pos (List.length_eq_zero_iff.1 hz0)])
          go_wp2_with fail
          refine bodyPost_ret (v := .tuple #[.agg #[.bool false, .slice A9 els.length c9], .bool false]) ?_ rfl ?_
          focus
            simp only [results, Tryz.results94]
            go_simp
            done
          exact CompF.bad HBAD.out HXE.out
        · have hd0 : (0 : Int) < (s.size : Int) := by omega
          have HGOOD : Hid (Gl.comp (Ig.L s) = some (some els)) := Lib.hid (by
            have hne : ¬ Ig.L s = [] := fun h => absurd (show s.size = 0 from congrArg List.length h) (by omega)
            unfold Gl.comp
            rw [if_neg hne, if_neg HNS.out, HEE.out]
            rfl)
          go_wp2_with fail
          refine bodyPost_ret (v := .tuple #[.agg #[.bool false, .slice A9 els.length c9], .bool true]) ?_ rfl ?_
          focus
            simp only [results, Tryz.results94]
            go_simp
            done
          obtain ⟨A8, c8, e8, hc8, hs8⟩ := HOE.out.read (G := fun b => w.heap.size ≤ b) (fun c x h => h) (fun b e => by have := (HOE.out.block e).1; omega)
          obtain ⟨rfl, rfl⟩ : A9 = A8 ∧ c9 = c8 := by simpa using e8
          refine ⟨A9, els.length, c9, false, true, rfl, HXE.out, ?_⟩
          rw [HGOOD.out]
          exact ⟨rfl, A9, els.length, c9, rfl, rfl, hc9, hs8⟩
end Go.Proofs.YtnjcifppkijanaaGreatDoor
