/- Walks: the parser of globs: a class. Walks: the parser of globs: an element. -/
import Derived.Test.YtnjcifppkijanaaGreatDoorPB
import Derived.Laws.EntriesVeiled
set_option linter.unusedSimpArgs false
set_option linter.unusedVariables false
namespace Go.Proofs.YtnjcifppkijanaaGreatDoor
open Go Go.RowKit

theorem Save.new {g : Nat} {w w' : World} (h : Save g w w') {b : Nat} (hb : w.heap.size ≤ b) (i : Nat) (v : Value) : Save g w (w'.setCell ⟨b, i, none⟩ v) :=
  ⟨fun w0 h0 hg => Ext.setCell (p := ⟨b, i, none⟩) (h.ext w0 h0 hg) (Nat.le_trans h0.size_le hb) v, fun g' t cs k hn => Blk.far (p := ⟨b, i, none⟩) (h.blk g' t cs k hn) (by have := k.lt; show g' ≠ b; omega) v, by simpa using h.size⟩
/-- An element's four cells. -/
def FourC (cs : List Value) : Prop := ∃ (x y : Bool) (b : UInt8) (m : Value), cs = [.bool x, .bool y, .int .u8 b.toNat, m] ∧ (m = .nilFunc ∨ ∃ fn f c, m = .func fn f c)
/-- What one and class hand back. -/
def OneR (f : List UInt8 → Option (Gl.El × List UInt8)) (g : Nat) (s : ByteArray) (i : Nat) (w : World) (e : Ending) (w' : World) : Prop :=
  ∃ (cs : List Value) (ok : Bool) (j : Nat), e = .returned (.tuple #[.agg cs.toArray, .bool ok]) ∧ FourC cs ∧ i ≤ j ∧ j ≤ s.size ∧ Save g w w' ∧ Prs w' g s j ∧
    if ok = true then ∃ el, f (s.data.toList.drop i) = some (el, s.data.toList.drop j) ∧ Elt w' All cs el else f (s.data.toList.drop i) = none
theorem peek0_any (g : Nat) (s : ByteArray) (i : Nat) (w : World) (hb : Prs w g s i) (hi : i ≤ s.size) (hs : s.size ≤ 1000000) (l : List UInt8) (hl : s.data.toList.drop i = l) :
    Calls Tryz.prog 139 #[.pointer (some ⟨g, 0, none⟩), .int .i64 0] w (Ret (.tuple #[.int .u8 (pk l).1.toNat, .bool (pk l).2]) w) := by
  have h := peek_any g s i 0 w hb hi hs (by omega)
  rw [Nat.add_zero, hl] at h
  exact h
theorem peek1_any (g : Nat) (s : ByteArray) (i : Nat) (w : World) (hb : Prs w g s i) (hi : i ≤ s.size) (hs : s.size ≤ 1000000) (l : List UInt8) (hl : s.data.toList.drop i = l) :
    Calls Tryz.prog 139 #[.pointer (some ⟨g, 0, none⟩), .int .i64 1] w (Ret (.tuple #[.int .u8 (pk l.tail).1.toNat, .bool (pk l.tail).2]) w) := by
  have h := peek_any g s i 1 w hb hi hs (by omega)
  rw [← List.drop_drop, hl, List.drop_one] at h
  exact h
theorem peek0_nil (g : Nat) (s : ByteArray) (i : Nat) (w : World) (hb : Prs w g s i) (hi : i ≤ s.size) (hs : s.size ≤ 1000000) (hl : s.data.toList.drop i = []) :
    Calls Tryz.prog 139 #[.pointer (some ⟨g, 0, none⟩), .int .i64 0] w (Ret (.tuple #[.int .u8 0, .bool false]) w) := peek0_any g s i w hb hi hs [] hl
theorem peek0_cons (g : Nat) (s : ByteArray) (i : Nat) (w : World) (hb : Prs w g s i) (hi : i ≤ s.size) (hs : s.size ≤ 1000000) (c : UInt8) (l : List UInt8) (hl : s.data.toList.drop i = c :: l) :
    Calls Tryz.prog 139 #[.pointer (some ⟨g, 0, none⟩), .int .i64 0] w (Ret (.tuple #[.int .u8 c.toNat, .bool true]) w) := peek0_any g s i w hb hi hs (c :: l) hl
theorem item_eq {l t : List UInt8} {lo : UInt8} (h : Gl.plain l = some (lo, t)) : Gl.item l = if ((pk t).1 == 45 && ((pk t.tail).2 && (pk t.tail).1 != 93)) = true then
    (match Gl.plain t.tail with | none => none | some (hi, v) => if lo ≤ hi then some (lo, hi, v) else none) else some (lo, lo, t) := by
  unfold Gl.item
  rw [h]
  dsimp only
  split
  · rename_i d u
    by_cases e : d = 93
    · subst e
      simp [pk]
    · simp [pk, e]
      rfl
  · rename_i hno
    rw [if_neg]
    intro hc
    simp only [Bool.and_eq_true] at hc
    obtain ⟨h1, h2, _⟩ := hc
    cases t with
    | nil => simp [pk] at h1
    | cons x t =>
      cases t with
      | nil => simp [pk] at h2
      | cons y t =>
        obtain rfl : x = 45 := by simpa [pk] using h1
        exact hno y t rfl
/-- A class being read: what lies in memory. -/
structure Cst (g : Nat) (s : ByteArray) (r0 bN : Nat) (neg : Bool) (w : World) (i : Nat) (p : UInt8 → Bool) (W : World) : Prop where
  prs : Prs W g s i
  res : Blk W r0 116 #[.bool false, .bool false, .int .u8 0, .nilFunc]
  row : Blk W (r0 + 1) 148 (rowOf p)
  ng : Blk W bN 4 #[.bool neg]
  sv : Save g w W
section
variable {g : Nat} {s : ByteArray} {r0 bN : Nat} {neg : Bool} {w : World} {i : Nat} {p : UInt8 → Bool} {W W' : World}
theorem Cst.ext (h : Cst g s r0 bN neg w i p W) (hx : Ext W W') : Cst g s r0 bN neg w i p W' := ⟨Blk.ext hx h.prs, Blk.ext hx h.res, Blk.ext hx h.row, Blk.ext hx h.ng, h.sv.ext' hx⟩
theorem Cst.drewN (h : Cst g s r0 bN neg w i p W) (n : Nat) : Cst g s r0 bN neg w i p (W.drewN n) := h.ext ((Ext.refl W).drewN n)
theorem Cst.save (h : Cst g s r0 bN neg w i p W) (h1 : g < r0) (h2 : r0 + 1 < bN) (hs : Save g W W') {j : Nat} (hp : Prs W' g s j) : Cst g s r0 bN neg w j p W' :=
  ⟨hp, hs.blk _ _ _ h.res (by omega), hs.blk _ _ _ h.row (by omega), hs.blk _ _ _ h.ng (by omega), h.sv.trans hs⟩
theorem Cst.at_ (h : Cst g s r0 bN neg w i p W) (h1 : g < r0) (h2 : r0 + 1 < bN) {j : Nat} {z : Int} (hz : z = j) : Cst g s r0 bN neg w j p (W.setCell ⟨g, 1, none⟩ (.int .i64 z)) :=
  h.save h1 h2 (Save.cell g W 1 _) (h.prs.e.end hz)
theorem Cst.put (h : Cst g s r0 bN neg w i p W) (h1 : g < r0) (h2 : r0 + 1 < bN) (h3 : w.heap.size ≤ r0) (c : UInt8) : Cst g s r0 bN neg w i (fun x => p x || x == c) (W.setCell ⟨r0 + 1, c.toNat, none⟩ (.bool true)) :=
  ⟨Blk.far (p := ⟨r0 + 1, c.toNat, none⟩) h.prs (by show g ≠ r0 + 1; omega) _, Blk.far (p := ⟨r0 + 1, c.toNat, none⟩) h.res (by show r0 ≠ r0 + 1; omega) _, Blk.convG (h.row.set_ c.toNat (.bool true)) (rowOf_set p c),
   Blk.far (p := ⟨r0 + 1, c.toNat, none⟩) h.ng (by show bN ≠ r0 + 1; omega) _, h.sv.new (by omega) _ _⟩
end
def prsAt (g : Nat) (w : World) : Nat := match w.cell? ⟨g, 1, none⟩ with | some (.int _ z) => z.toNat | _ => 0
theorem prsAt_eq {w : World} {g : Nat} {s : ByteArray} {i : Nat} (h : Prs w g s i) : prsAt g w = i := by
  unfold prsAt
  rw [h.cell]
  simp
theorem pk33 (l : List UInt8) : (((pk l).1.toNat : Int) == 33) = (l.head? == some 33) := by
  cases l with
  | nil => rfl
  | cons c l =>
    show ((c.toNat : Int) == 33) = (some c == some 33)
    by_cases e : c = 33
    · rw [e]; rfl
    · have h1 : ((c.toNat : Int) == 33) = false := byte_ne (n := 33) (by omega) e
      rw [h1]
      simp [e]
theorem cls_pos {l : List UInt8} (h : (l.head? == some 33) = false) : Gl.cls l = match Gl.items (l.length + 1) l (fun _ => false) 0 with
      | none => none
      | some (p, k, r) => if k ≠ 0 ∧ Gl.some256 (Gl.clsSet false p) = true then some (some (Gl.clsSet false p), r) else none := by
  unfold Gl.cls
  rw [h]
  rfl
theorem cls_neg {l : List UInt8} (h : (l.head? == some 33) = true) : Gl.cls l = match Gl.items (l.tail.length + 1) l.tail (fun _ => false) 0 with
      | none => none
      | some (p, k, r) => if k ≠ 0 ∧ Gl.some256 (Gl.clsSet true p) = true then some (some (Gl.clsSet true p), r) else none := by
  unfold Gl.cls
  rw [h]
  rfl
theorem cls_funP {W : World} {b1 b2 : Nat} {p : UInt8 → Bool} {neg : Bool} (h1 : Blk W b1 148 (rowOf p)) (h2 : Blk W b2 4 #[.bool neg]) :
    FunP W (.func (.func 140) #[] #[.pointer (some ⟨b1, 0, none⟩), .pointer (some ⟨b2, 0, none⟩)]) (Gl.clsSet neg p) :=
  ⟨_, _, rfl, enters_of Tryz.func140 (by kernel_rfl) rfl, fun W' c hW => class1_any b1 b2 p neg c W' (hW _ _ _ (.inr (.inr rfl)) h1) (hW _ _ _ (.inr (.inl rfl)) h2)⟩
theorem items_cons {n : Nat} {c : UInt8} {l : List UInt8} {p : UInt8 → Bool} {k : Nat} (h : c ≠ 93) : Gl.items (n + 1) (c :: l) p k = match Gl.item (c :: l) with
    | none => none
    | some (lo, hi, t) => Gl.items n t (fun b => p b || (decide (lo ≤ b) && decide (b ≤ hi))) (k + 1) := by
  show (if c = 93 then _ else _) = _
  rw [if_neg h]
  cases Gl.item (c :: l) <;> rfl
theorem items_end {n : Nat} {l : List UInt8} {p : UInt8 → Bool} {k : Nat} : Gl.items (n + 1) (93 :: l) p k = some (p, k, l) := rfl
theorem item_none {l : List UInt8} (h : Gl.plain l = none) : Gl.item l = none := by
  unfold Gl.item
  rw [h]
theorem wrap_byte (c : UInt8) : wrap64 (c.toNat : Int) = (c.toNat : Int) := by
  have h := UInt8.toNat_lt c
  rw [← IntWalk.i64_left]
  exact IntWalk.i64_in _ (by omega)
theorem byte_beq (c : UInt8) (n : Nat) (hn : n < 256) : ((c.toNat : Int) == (n : Int)) = (c == UInt8.ofNat n) := by
  by_cases e : c = UInt8.ofNat n
  · rw [e]
    simp [UInt8.toNat_ofNat_of_lt' hn]
  · rw [byte_ne hn e, beq_eq_false_iff_ne.2 e]
/-- A row being filled. -/
def fillTo (p : UInt8 → Bool) (lo : UInt8) (b : Nat) : UInt8 → Bool := fun x => p x || (decide (lo ≤ x) && decide (x.toNat < b))
theorem fillTo_start (p : UInt8 → Bool) (lo : UInt8) : fillTo p lo lo.toNat = p := by
  funext x
  unfold fillTo
  by_cases h : lo ≤ x
  · have h1 : ¬ x.toNat < lo.toNat := Nat.not_lt.2 (UInt8.le_iff_toNat_le.1 h)
    simp [h1]
  · simp [h]
theorem fillTo_step (p : UInt8 → Bool) (lo : UInt8) {b : Nat} (h1 : lo.toNat ≤ b) (h2 : b < 256) : (fun x => fillTo p lo b x || x == UInt8.ofNat b) = fillTo p lo (b + 1) := by
  funext x
  unfold fillTo
  have e3 : (UInt8.ofNat b).toNat = b := UInt8.toNat_ofNat_of_lt' h2
  by_cases e : x = UInt8.ofNat b
  · subst e
    have h3 : lo ≤ UInt8.ofNat b := UInt8.le_iff_toNat_le.2 (by rw [e3]; exact h1)
    simp [h3, e3]
  · have h3 : x.toNat ≠ b := fun k => e (UInt8.toNat_inj.1 (by rw [e3, k]))
    have h4 : decide (x.toNat < b + 1) = decide (x.toNat < b) := decide_eq_decide.2 (by omega)
    rw [beq_eq_false_iff_ne.2 e, Bool.or_false, h4]
theorem fillTo_end (p : UInt8 → Bool) (lo hi : UInt8) : fillTo p lo (hi.toNat + 1) = fun b => p b || (decide (lo ≤ b) && decide (b ≤ hi)) := by
  funext x
  unfold fillTo
  have h4 : decide (x.toNat < hi.toNat + 1) = decide (x ≤ hi) := decide_eq_decide.2 (by rw [UInt8.le_iff_toNat_le]; omega)
  rw [h4]
set_option maxHeartbeats 4000000 in
set_option maxRecDepth 100000 in
theorem class_any (g : Nat) (s : ByteArray) (i : Nat) (w : World) (hb : Prs w g s i) (hi : i ≤ s.size) (hs : s.size ≤ 1000000) :
    Calls Tryz.prog 117 #[.pointer (some ⟨g, 0, none⟩)] w (OneR Gl.cls g s i w) := by
  have hz : Tryz.zeroCells148 = rowOf fun _ => false := by kernel_rfl
  have HB := Lib.hid hb
  have hg := hb.lt
  clear hb
  obtain ⟨l0, hl0⟩ : ∃ l, l = s.data.toList.drop i := ⟨_, rfl⟩
  have HL0 := Lib.hid hl0
  clear hl0
  have hwi : IntKind.i64.wrap ((i : Int) + 1) = (i : Int) + 1 := IntWalk.i64_in _ (by omega)
  go_enter Tryz.func117, Tryz.ntmps117
  go_wp2_with fail
  clear hz
  have hp0 := Blk.alloc (Blk.alloc HB.out (.cells #[.bool false, .bool false, .int .u8 0, .nilFunc] 116)) (.cells (rowOf fun _ => false) 148)
  refine (peek0_any g s i _ hp0 hi hs l0 HL0.out.symm).mono ?_
  rintro e w1 ⟨rfl, hx1⟩
  have hr1 := Lib.hid (Blk.ext hx1 (Blk.alloc (Blk.new' (w := w) (g := w.heap.size) (cs := #[.bool false, .bool false, .int .u8 0, .nilFunc]) (t := 116) rfl) (.cells (rowOf fun _ => false) 148)))
  have hr2 := Lib.hid (Blk.ext hx1 (Blk.new' (w := w.alloc (.cells #[.bool false, .bool false, .int .u8 0, .nilFunc] 116)) (g := w.heap.size + 1) (cs := rowOf fun _ => false) (t := 148) (by simp)))
  have hs1 := Lib.hid (Save.of_ext (g := g) (((Ext.refl w).alloc (.cells #[.bool false, .bool false, .int .u8 0, .nilFunc] 116)).alloc (.cells (rowOf fun _ => false) 148) |>.trans hx1))
  have hp1 := Blk.ext hx1 hp0
  have HP1 := Lib.hid hp1
  obtain ⟨hcg, hfg, hlg⟩ := hp1.all
  have hn1 : w.heap.size + 1 < w1.heap.size := hr2.out.lt
  clear hp0 hx1 hp1
  cases hneg : (((pk l0).1.toNat : Int) == 33)
  · have HC0 : Hid (Cst g s w.heap.size w1.heap.size false w i (fun _ => false) (w1.alloc (.cells #[.bool false] 4))) := Lib.hid
      ⟨Blk.alloc HP1.out _, Blk.alloc hr1.out _, Blk.alloc hr2.out _, Blk.new' rfl, hs1.out.alloc _⟩
    have HLN : Hid (Gl.cls l0 = match Gl.items (l0.length + 1) l0 (fun _ => false) 0 with
      | none => none
      | some (p, k, r) => if k ≠ 0 ∧ Gl.some256 (Gl.clsSet false p) = true then some (some (Gl.clsSet false p), r) else none) := Lib.hid (cls_pos (by rw [← pk33]; exact hneg))
    have HII : Hid (i ≤ i) := Lib.hid (Nat.le_refl _)
    have hi1 := hi
    have HL1 := Lib.hid HL0.out.symm
    go_wp2_with fail
    clear hr1 hr2 hs1 HP1 HB hcg hfg hlg hneg hwi
    go_loopw [8] (fun u wr => ∃ (k j : Nat) (p : UInt8 → Bool) (n : Nat), u = .int .i64 k ∧ k ≤ j ∧ Hid (Cst g s w.heap.size w1.heap.size false w j p wr) ∧ j ≤ s.size ∧ Hid (i ≤ j) ∧ Hid (Gl.items (l0.length + 1) l0 (fun _ => false) 0 = Gl.items n (s.data.toList.drop j) p k ∧ (s.data.toList.drop j).length < n)) (fun u wr => s.size - prsAt g wr)
    case atStart => exact ⟨0, i, _, _, rfl, Nat.zero_le _, HC0, hi1, HII, Lib.hid ⟨by rw [HL1.out], by rw [HL1.out]; exact Nat.lt_succ_self _⟩⟩
    case round =>
      clear HC0 HL1
      obtain ⟨k, j, p, n, rfl, hkj, HC, hjs, HIJ, HI⟩ := hrel
      obtain ⟨l, hl⟩ : ∃ l, l = s.data.toList.drop j := ⟨_, rfl⟩
      have HL := Lib.hid hl
      have hll : j + l.length = s.size := by rw [hl, List.length_drop]; show j + (s.size - j) = s.size; omega
      have HMS := Lib.hid (prsAt_eq HC.out.prs)
      clear hl
      have hwj : IntKind.i64.wrap ((j : Int) + 1) = (j : Int) + 1 := IntWalk.i64_in _ (by omega)
      go_wp2_with fail
      cases l with
      | nil =>
        refine (peek0_nil g s j wr HC.out.prs hjs hs HL.out.symm).mono ?_
        rintro e w2 ⟨rfl, hx2⟩
        have HC2 := Lib.hid (HC.out.ext hx2)
        clear hx2 HC
        obtain ⟨hcr, hfr, hlr⟩ := HC2.out.res.all
        have HNN : Hid (Gl.cls l0 = none) := Lib.hid (by rw [HLN.out, HI.out.1, ← HL.out]; cases n <;> rfl)
        clear HLN HI
        go_wp2_with fail
        refine bodyPost_ret (v := .tuple #[.agg #[.bool false, .bool false, .int .u8 0, .nilFunc], .bool false]) ?_ rfl ?_
        focus
          simp only [results, Tryz.results117]
          go_simp
          done
        exact ⟨[.bool false, .bool false, .int .u8 0, .nilFunc], false, j, rfl, ⟨_, _, 0, _, rfl, .inl rfl⟩, HIJ.out, hjs, (by repeat (first | with_reducible exact HC2.out.sv | refine Save.new ?_ (by omega) _ _)), (by repeat (first | with_reducible exact HC2.out.prs | refine Blk.far ?_ (by show g ≠ w.heap.size; omega) _)), HL0.out ▸ HNN.out⟩
      | cons c l =>
        refine (peek0_cons g s j wr HC.out.prs hjs hs c l HL.out.symm).mono ?_
        rintro e w2 ⟨rfl, hx2⟩
        have HC2 := Lib.hid (HC.out.ext hx2)
        clear hx2 HC
        have hjl : j + 1 ≤ s.size := by simp at hll; omega
        obtain ⟨m, rfl⟩ : ∃ m, n = m + 1 := ⟨n - 1, by have := HI.out.2; omega⟩
        by_cases h93 : c = 93
        · have hcc : ((c.toNat : Int) == 93) = true := by rw [h93]; rfl
          have HN : Hid (Gl.items (l0.length + 1) l0 (fun _ => false) 0 = some (p, k, s.data.toList.drop (j + 1))) := Lib.hid (by rw [HI.out.1, ← HL.out, h93, items_end, ← List.drop_drop, ← HL.out]; rfl)
          obtain ⟨hcg, hfg, hlg⟩ := HC2.out.prs.all
          have HC3 : Hid (Cst g s w.heap.size w1.heap.size false w (j + 1) p (w2.setCell ⟨g, 1, none⟩ (.int .i64 ((j : Int) + 1)))) := Lib.hid (HC2.out.at_ hg hn1 (by omega))
          obtain ⟨hcr, hfr, hlr⟩ := HC3.out.res.all
          have hIJ : i ≤ j + 1 := by have := HIJ.out; omega
          clear HI HC2 h93
          rcases Nat.eq_zero_or_pos k with hk0 | hk0
          · subst hk0
            have HNN : Hid (Gl.cls l0 = none) := Lib.hid (by rw [HLN.out, HN.out]; simp)
            clear HLN HN
            go_wp2_with fail
            refine bodyPost_ret (v := .tuple #[.agg #[.bool false, .bool false, .int .u8 0, .func (.func 140) #[] #[.pointer (some ⟨w.heap.size + 1, 0, none⟩), .pointer (some ⟨w1.heap.size, 0, none⟩)]], .bool false]) ?_ rfl ?_
            focus
              simp only [results, Tryz.results117]
              go_simp
              done
            exact ⟨[.bool false, .bool false, .int .u8 0, .func (.func 140) #[] #[.pointer (some ⟨w.heap.size + 1, 0, none⟩), .pointer (some ⟨w1.heap.size, 0, none⟩)]], false, j + 1, rfl, ⟨_, _, 0, _, rfl, .inr ⟨_, _, _, rfl⟩⟩, hIJ, hjl, (by repeat (first | with_reducible exact HC3.out.sv | refine Save.new ?_ (by omega) _ _)), (by repeat (first | with_reducible exact HC3.out.prs | refine Blk.far ?_ (by show g ≠ w.heap.size; omega) _)), HL0.out ▸ HNN.out⟩
          · have hkb : decide ((0 : Int) < (k : Int)) = true := decide_eq_true (by omega)
            have HK : Hid (k ≠ 0) := Lib.hid (by omega)
            go_wp2_with fail
            refine (some_any _ _ _ (cls_funP HC3.out.row HC3.out.ng)).mono ?_
            rintro e w3 ⟨rfl, hx3⟩
            have HC4 := Lib.hid (HC3.out.ext hx3)
            clear HC3 hx3 hcr hfr hlr hcg hfg hlg
            obtain ⟨hcr, hfr, hlr⟩ := HC4.out.res.all
            cases hsm : Gl.some256 (Gl.clsSet false p)
            · have HNN : Hid (Gl.cls l0 = none) := Lib.hid (by rw [HLN.out, HN.out]; simp [hsm])
              clear HLN HN hsm
              go_wp2_with fail
              refine bodyPost_ret (v := .tuple #[.agg #[.bool false, .bool false, .int .u8 0, .func (.func 140) #[] #[.pointer (some ⟨w.heap.size + 1, 0, none⟩), .pointer (some ⟨w1.heap.size, 0, none⟩)]], .bool false]) ?_ rfl ?_
              focus
                simp only [results, Tryz.results117]
                go_simp
                done
              exact ⟨[.bool false, .bool false, .int .u8 0, .func (.func 140) #[] #[.pointer (some ⟨w.heap.size + 1, 0, none⟩), .pointer (some ⟨w1.heap.size, 0, none⟩)]], false, j + 1, rfl, ⟨_, _, 0, _, rfl, .inr ⟨_, _, _, rfl⟩⟩, hIJ, hjl, (by repeat (first | with_reducible exact HC4.out.sv | refine Save.new ?_ (by omega) _ _)), (by repeat (first | with_reducible exact HC4.out.prs | refine Blk.far ?_ (by show g ≠ w.heap.size; omega) _)), HL0.out ▸ HNN.out⟩
            · have HNN : Hid (Gl.cls l0 = some (some (Gl.clsSet false p), s.data.toList.drop (j + 1))) := Lib.hid (by rw [HLN.out, HN.out]; exact if_pos ⟨HK.out, hsm⟩)
              clear HLN HN hsm
              go_wp2_with fail
              refine bodyPost_ret (v := .tuple #[.agg #[.bool false, .bool false, .int .u8 0, .func (.func 140) #[] #[.pointer (some ⟨w.heap.size + 1, 0, none⟩), .pointer (some ⟨w1.heap.size, 0, none⟩)]], .bool true]) ?_ rfl ?_
              focus
                simp only [results, Tryz.results117]
                go_simp
                done
              exact ⟨[.bool false, .bool false, .int .u8 0, .func (.func 140) #[] #[.pointer (some ⟨w.heap.size + 1, 0, none⟩), .pointer (some ⟨w1.heap.size, 0, none⟩)]], true, j + 1, rfl, ⟨_, _, 0, _, rfl, .inr ⟨_, _, _, rfl⟩⟩, hIJ, hjl, (by repeat (first | with_reducible exact HC4.out.sv | refine Save.new ?_ (by omega) _ _)), (by repeat (first | with_reducible exact HC4.out.prs | refine Blk.far ?_ (by show g ≠ w.heap.size; omega) _)), ⟨some (Gl.clsSet false p), HL0.out ▸ HNN.out, false, 0, _, rfl, rfl, fun q e => by cases e; exact cls_funP (by repeat (first | with_reducible exact HC4.out.row | refine Blk.far ?_ (by first | (show w.heap.size + 1 ≠ w.heap.size; omega) | (show w1.heap.size ≠ w.heap.size; omega)) _)) (by repeat (first | with_reducible exact HC4.out.ng | refine Blk.far ?_ (by first | (show w.heap.size + 1 ≠ w.heap.size; omega) | (show w1.heap.size ≠ w.heap.size; omega)) _))⟩⟩
        · have hcc : ((c.toNat : Int) == 93) = false := byte_ne (n := 93) (by omega) h93
          have HN : Hid (Gl.items (l0.length + 1) l0 (fun _ => false) 0 = match Gl.item (c :: l) with
            | none => none
            | some (lo, hi, t) => Gl.items m t (fun b => p b || (decide (lo ≤ b) && decide (b ≤ hi))) (k + 1)) := Lib.hid (by rw [HI.out.1, ← HL.out, items_cons h93])
          have HFU : Hid (s.size - j < m + 1) := Lib.hid (by have := HI.out.2; rw [← HL.out] at this; omega)
          clear HI
          go_wp2_with fail
          refine (plain_any g s j w2 HC2.out.prs hjs hs).mono ?_
          rintro e w3 ⟨lo, ok, j1, rfl, hj1, hj1s, hsv, hp3, hpl⟩
          rw [← HL.out] at hpl
          have HC3 := Lib.hid (HC2.out.save hg hn1 hsv hp3)
          have HPL := Lib.hid hpl
          have hIJ1 : i ≤ j1 := by have := HIJ.out; omega
          clear hsv hp3 hpl HC2
          obtain ⟨l1, hl1⟩ : ∃ l, l = s.data.toList.drop j1 := ⟨_, rfl⟩
          have HL1 := Lib.hid hl1
          clear hl1
          go_wp2_with fail
          refine (peek0_any g s j1 w3 HC3.out.prs hj1s hs l1 HL1.out.symm).mono ?_
          rintro e w4 ⟨rfl, hx4⟩
          have HC4 := Lib.hid (HC3.out.ext hx4)
          clear HC3 hx4
          go_wp2_with fail
          refine (peek1_any g s j1 w4 HC4.out.prs hj1s hs l1 HL1.out.symm).mono ?_
          rintro e w5 ⟨rfl, hx5⟩
          have HC5 := Lib.hid (HC4.out.ext hx5)
          clear HC4 hx5
          cases ok
          · have HNN : Hid (Gl.cls l0 = none) := Lib.hid (by rw [HLN.out, HN.out, item_none (by rw [HPL.out]; rfl)])
            clear HLN HN HPL
            obtain ⟨hcr, hfr, hlr⟩ := HC5.out.res.all
            go_wp2_with fail
            refine bodyPost_ret (v := .tuple #[.agg #[.bool false, .bool false, .int .u8 0, .nilFunc], .bool false]) ?_ rfl ?_
            focus
              simp only [results, Tryz.results117]
              go_simp
              done
            exact ⟨[.bool false, .bool false, .int .u8 0, .nilFunc], false, j1, rfl, ⟨_, _, 0, _, rfl, .inl rfl⟩, hIJ1, hj1s, (by repeat (first | with_reducible exact HC5.out.sv | refine Save.new ?_ (by omega) _ _)), (by repeat (first | with_reducible exact HC5.out.prs | refine Blk.far ?_ (by show g ≠ w.heap.size; omega) _)), HL0.out ▸ HNN.out⟩
          · have hpl := item_eq HPL.out
            have hjj : j < j1 := by have h1 := Gl.plain_lt HPL.out; rw [List.length_drop] at h1; have h2 : s.data.toList.length = s.size := rfl; omega
            rw [← HL1.out] at hpl
            have HL2 : Hid ((pk l1.tail).2 = true → j1 + 1 ≤ s.size) := Lib.hid fun h => by
              have h2 : l1.length = s.size - j1 := by rw [HL1.out, List.length_drop]; rfl
              cases l1 with
              | nil => cases h
              | cons x l1 =>
                simp only [List.length_cons] at h2
                omega
            have hwlo := wrap_byte lo
            have HTL : Hid (l1.tail = s.data.toList.drop (j1 + 1)) := Lib.hid (by rw [HL1.out, List.tail_drop])
            have hc1 : (((pk l1).1.toNat : Int) == 45) = ((pk l1).1 == 45) := byte_beq _ 45 (by omega)
            have hc2 : (((pk l1.tail).1.toNat : Int) != 93) = ((pk l1.tail).1 != 93) := by have := byte_beq (pk l1.tail).1 93 (by omega); simp only [bne]; exact congrArg not this
            rw [← hc1, ← hc2] at hpl
            have HIT := Lib.hid hpl
            clear hpl hc1 hc2 HPL
            generalize (pk l1).1 = hy at HIT ⊢
            generalize (pk l1.tail).2 = mo at HIT HL2 ⊢
            generalize (pk l1.tail).1 = nx at HIT ⊢
            cases ha : ((hy.toNat : Int) == 45)
            · have HI1 : Hid (Gl.item (c :: l) = some (lo, lo, s.data.toList.drop j1)) := Lib.hid (by rw [HIT.out, ha, HL1.out]; rfl)
              clear HIT HL2
              go_wp2_with fail
              have HNX : Hid (Gl.items (l0.length + 1) l0 (fun _ => false) 0 = Gl.items m (s.data.toList.drop j1) (fillTo p lo (lo.toNat + 1)) (k + 1)) := Lib.hid (by rw [HN.out, HI1.out, fillTo_end])
              have HC9 : Hid (Cst g s w.heap.size w1.heap.size false w j1 (fillTo p lo lo.toNat) _) := Lib.hid (by rw [fillTo_start]; exact HC5.out)
              have hfl : lo.toNat ≤ lo.toNat := Nat.le_refl _
              have hpg := hjj
              have hps := hj1s
              have hpi := hIJ1
              clear HN HI1 HL1
              go_loopw [18] (fun u wr => ∃ b : Nat, u = .int .i64 b ∧ lo.toNat ≤ b ∧ b ≤ lo.toNat + 1 ∧ Hid (Cst g s w.heap.size w1.heap.size false w j1 (fillTo p lo b) wr)) (fun u _ => lo.toNat + 1 - (intOf u).toNat)
              case atStart => exact ⟨lo.toNat, by rw [hwlo], Nat.le_refl _, by omega, HC9⟩
              case round =>
                clear HC9 HC5
                obtain ⟨b, rfl, hb1, hb2, HB⟩ := hrel
                have hh : lo.toNat < 256 := UInt8.toNat_lt _
                by_cases hb3 : b ≤ lo.toNat
                · have hb4 : (b : Int) < 256 := by omega
                  have hb5 : (b : Int) ≤ (lo.toNat : Int) := by omega
                  obtain ⟨hcr, hfr, hlr⟩ := HB.out.row.all
                  have hcb := (hcr (UInt8.ofNat b).toNat).trans (rowOf_get _ _)
                  rw [UInt8.toNat_ofNat_of_lt' (show b < 256 by omega)] at hcb
                  have HB2 := Lib.hid (HB.out.put hg hn1 (Nat.le_refl _) (UInt8.ofNat b))
                  rw [UInt8.toNat_ofNat_of_lt' (show b < 256 by omega), fillTo_step p lo hb1 (by omega)] at HB2
                  clear hcr HB
                  go_wp2_with fail
                  go_roundw
                  case rel => exact ⟨b + 1, rfl, by omega, by omega, HB2⟩
                  case measure => simp [intOf]; omega
                · obtain rfl : b = lo.toNat + 1 := by omega
                  have hb5 : ¬ (((lo.toNat + 1 : Nat) : Int) ≤ (lo.toNat : Int)) := by omega
                  have hms := HMS.out
                  have hms2 := prsAt_eq HB.out.prs
                  go_wp2_with fail
                  go_roundw
                  case rel => exact ⟨k + 1, j1, _, m, rfl, by omega, HB, hps, Lib.hid hpi, HNX.out, by rw [List.length_drop]; show s.size - j1 < m; have := HFU.out; omega⟩
                  case measure => rw [hms, hms2]; omega
            · cases mo
              · have HI1 : Hid (Gl.item (c :: l) = some (lo, lo, s.data.toList.drop j1)) := Lib.hid (by rw [HIT.out, ha, HL1.out]; rfl)
                clear HIT HL2
                go_wp2_with fail
                have HNX : Hid (Gl.items (l0.length + 1) l0 (fun _ => false) 0 = Gl.items m (s.data.toList.drop j1) (fillTo p lo (lo.toNat + 1)) (k + 1)) := Lib.hid (by rw [HN.out, HI1.out, fillTo_end])
                have HC9 : Hid (Cst g s w.heap.size w1.heap.size false w j1 (fillTo p lo lo.toNat) _) := Lib.hid (by rw [fillTo_start]; exact HC5.out)
                have hfl : lo.toNat ≤ lo.toNat := Nat.le_refl _
                have hpg := hjj
                have hps := hj1s
                have hpi := hIJ1
                clear HN HI1 HL1
                go_loopw [18] (fun u wr => ∃ b : Nat, u = .int .i64 b ∧ lo.toNat ≤ b ∧ b ≤ lo.toNat + 1 ∧ Hid (Cst g s w.heap.size w1.heap.size false w j1 (fillTo p lo b) wr)) (fun u _ => lo.toNat + 1 - (intOf u).toNat)
                case atStart => exact ⟨lo.toNat, by rw [hwlo], Nat.le_refl _, by omega, HC9⟩
                case round =>
                  clear HC9 HC5
                  obtain ⟨b, rfl, hb1, hb2, HB⟩ := hrel
                  have hh : lo.toNat < 256 := UInt8.toNat_lt _
                  by_cases hb3 : b ≤ lo.toNat
                  · have hb4 : (b : Int) < 256 := by omega
                    have hb5 : (b : Int) ≤ (lo.toNat : Int) := by omega
                    obtain ⟨hcr, hfr, hlr⟩ := HB.out.row.all
                    have hcb := (hcr (UInt8.ofNat b).toNat).trans (rowOf_get _ _)
                    rw [UInt8.toNat_ofNat_of_lt' (show b < 256 by omega)] at hcb
                    have HB2 := Lib.hid (HB.out.put hg hn1 (Nat.le_refl _) (UInt8.ofNat b))
                    rw [UInt8.toNat_ofNat_of_lt' (show b < 256 by omega), fillTo_step p lo hb1 (by omega)] at HB2
                    clear hcr HB
                    go_wp2_with fail
                    go_roundw
                    case rel => exact ⟨b + 1, rfl, by omega, by omega, HB2⟩
                    case measure => simp [intOf]; omega
                  · obtain rfl : b = lo.toNat + 1 := by omega
                    have hb5 : ¬ (((lo.toNat + 1 : Nat) : Int) ≤ (lo.toNat : Int)) := by omega
                    have hms := HMS.out
                    have hms2 := prsAt_eq HB.out.prs
                    go_wp2_with fail
                    go_roundw
                    case rel => exact ⟨k + 1, j1, _, m, rfl, by omega, HB, hps, Lib.hid hpi, HNX.out, by rw [List.length_drop]; show s.size - j1 < m; have := HFU.out; omega⟩
                    case measure => rw [hms, hms2]; omega
              · cases hb : ((nx.toNat : Int) != 93)
                · have HI1 : Hid (Gl.item (c :: l) = some (lo, lo, s.data.toList.drop j1)) := Lib.hid (by rw [HIT.out, ha, hb, HL1.out]; rfl)
                  clear HIT HL2
                  go_wp2_with fail
                  have HNX : Hid (Gl.items (l0.length + 1) l0 (fun _ => false) 0 = Gl.items m (s.data.toList.drop j1) (fillTo p lo (lo.toNat + 1)) (k + 1)) := Lib.hid (by rw [HN.out, HI1.out, fillTo_end])
                  have HC9 : Hid (Cst g s w.heap.size w1.heap.size false w j1 (fillTo p lo lo.toNat) _) := Lib.hid (by rw [fillTo_start]; exact HC5.out)
                  have hfl : lo.toNat ≤ lo.toNat := Nat.le_refl _
                  have hpg := hjj
                  have hps := hj1s
                  have hpi := hIJ1
                  clear HN HI1 HL1
                  go_loopw [18] (fun u wr => ∃ b : Nat, u = .int .i64 b ∧ lo.toNat ≤ b ∧ b ≤ lo.toNat + 1 ∧ Hid (Cst g s w.heap.size w1.heap.size false w j1 (fillTo p lo b) wr)) (fun u _ => lo.toNat + 1 - (intOf u).toNat)
                  case atStart => exact ⟨lo.toNat, by rw [hwlo], Nat.le_refl _, by omega, HC9⟩
                  case round =>
                    clear HC9 HC5
                    obtain ⟨b, rfl, hb1, hb2, HB⟩ := hrel
                    have hh : lo.toNat < 256 := UInt8.toNat_lt _
                    by_cases hb3 : b ≤ lo.toNat
                    · have hb4 : (b : Int) < 256 := by omega
                      have hb5 : (b : Int) ≤ (lo.toNat : Int) := by omega
                      obtain ⟨hcr, hfr, hlr⟩ := HB.out.row.all
                      have hcb := (hcr (UInt8.ofNat b).toNat).trans (rowOf_get _ _)
                      rw [UInt8.toNat_ofNat_of_lt' (show b < 256 by omega)] at hcb
                      have HB2 := Lib.hid (HB.out.put hg hn1 (Nat.le_refl _) (UInt8.ofNat b))
                      rw [UInt8.toNat_ofNat_of_lt' (show b < 256 by omega), fillTo_step p lo hb1 (by omega)] at HB2
                      clear hcr HB
                      go_wp2_with fail
                      go_roundw
                      case rel => exact ⟨b + 1, rfl, by omega, by omega, HB2⟩
                      case measure => simp [intOf]; omega
                    · obtain rfl : b = lo.toNat + 1 := by omega
                      have hb5 : ¬ (((lo.toNat + 1 : Nat) : Int) ≤ (lo.toNat : Int)) := by omega
                      have hms := HMS.out
                      have hms2 := prsAt_eq HB.out.prs
                      go_wp2_with fail
                      go_roundw
                      case rel => exact ⟨k + 1, j1, _, m, rfl, by omega, HB, hps, Lib.hid hpi, HNX.out, by rw [List.length_drop]; show s.size - j1 < m; have := HFU.out; omega⟩
                      case measure => rw [hms, hms2]; omega
                · have hj2 : j1 + 1 ≤ s.size := HL2.out rfl
                  have HI1 : Hid (Gl.item (c :: l) = match Gl.plain (s.data.toList.drop (j1 + 1)) with | none => none | some (hi, v) => if lo ≤ hi then some (lo, hi, v) else none) := Lib.hid (by rw [HIT.out, ha, hb, HTL.out]; rfl)
                  obtain ⟨hcg, hfg, hlg⟩ := HC5.out.prs.all
                  have hw1 : IntKind.i64.wrap ((j1 : Int) + 1) = (j1 : Int) + 1 := IntWalk.i64_in _ (by omega)
                  have HC6 : Hid (Cst g s w.heap.size w1.heap.size false w (j1 + 1) p (w5.setCell ⟨g, 1, none⟩ (.int .i64 ((j1 : Int) + 1)))) := Lib.hid (HC5.out.at_ hg hn1 (by omega))
                  clear HIT HL2
                  go_wp2_with fail
                  refine (plain_any g s (j1 + 1) _ HC6.out.prs hj2 hs).mono ?_
                  rintro e w6 ⟨hi2, ok2, j3, rfl, hj3, hj3s, hsv, hp3, hpl⟩
                  have hwhi := wrap_byte hi2
                  have HC7 := Lib.hid (HC6.out.save hg hn1 hsv hp3)
                  have HPL := Lib.hid hpl
                  have hIJ3 : i ≤ j3 := by omega
                  have hjj3 : j < j3 := by omega
                  clear hsv hp3 hpl HC6 HC5 hcg hfg hlg hw1
                  cases ok2
                  · have HNN : Hid (Gl.cls l0 = none) := Lib.hid (by rw [HLN.out, HN.out, HI1.out, HPL.out]; rfl)
                    clear HLN HN HPL HI1
                    obtain ⟨hcr, hfr, hlr⟩ := HC7.out.res.all
                    go_wp2_with fail
                    refine bodyPost_ret (v := .tuple #[.agg #[.bool false, .bool false, .int .u8 0, .nilFunc], .bool false]) ?_ rfl ?_
                    focus
                      simp only [results, Tryz.results117]
                      go_simp
                      done
                    exact ⟨[.bool false, .bool false, .int .u8 0, .nilFunc], false, j3, rfl, ⟨_, _, 0, _, rfl, .inl rfl⟩, hIJ3, hj3s, (by repeat (first | with_reducible exact HC7.out.sv | refine Save.new ?_ (by omega) _ _)), (by repeat (first | with_reducible exact HC7.out.prs | refine Blk.far ?_ (by show g ≠ w.heap.size; omega) _)), HL0.out ▸ HNN.out⟩
                  · by_cases hle : lo ≤ hi2
                    · have hlh : lo.toNat ≤ hi2.toNat := UInt8.le_iff_toNat_le.1 hle
                      have hgt : decide ((hi2.toNat : Int) < (lo.toNat : Int)) = false := decide_eq_false (by omega)
                      have HI2 : Hid (Gl.item (c :: l) = some (lo, hi2, s.data.toList.drop j3)) := Lib.hid (by rw [HI1.out, HPL.out]; exact if_pos hle)
                      clear HI1 HPL hle
                      have HI1 := HI2
                      clear HI2
                      go_wp2_with fail
                      have HNX : Hid (Gl.items (l0.length + 1) l0 (fun _ => false) 0 = Gl.items m (s.data.toList.drop j3) (fillTo p lo (hi2.toNat + 1)) (k + 1)) := Lib.hid (by rw [HN.out, HI1.out, fillTo_end])
                      have HC9 : Hid (Cst g s w.heap.size w1.heap.size false w j3 (fillTo p lo lo.toNat) _) := Lib.hid (by rw [fillTo_start]; exact HC7.out)
                      have hfl : lo.toNat ≤ hi2.toNat := hlh
                      have hpg := hjj3
                      have hps := hj3s
                      have hpi := hIJ3
                      clear HN HI1 HL1
                      go_loopw [18] (fun u wr => ∃ b : Nat, u = .int .i64 b ∧ lo.toNat ≤ b ∧ b ≤ hi2.toNat + 1 ∧ Hid (Cst g s w.heap.size w1.heap.size false w j3 (fillTo p lo b) wr)) (fun u _ => hi2.toNat + 1 - (intOf u).toNat)
                      case atStart => exact ⟨lo.toNat, by rw [hwlo], Nat.le_refl _, by omega, HC9⟩
                      case round =>
                        clear HC9 HC7
                        obtain ⟨b, rfl, hb1, hb2, HB⟩ := hrel
                        have hh : hi2.toNat < 256 := UInt8.toNat_lt _
                        by_cases hb3 : b ≤ hi2.toNat
                        · have hb4 : (b : Int) < 256 := by omega
                          have hb5 : (b : Int) ≤ (hi2.toNat : Int) := by omega
                          obtain ⟨hcr, hfr, hlr⟩ := HB.out.row.all
                          have hcb := (hcr (UInt8.ofNat b).toNat).trans (rowOf_get _ _)
                          rw [UInt8.toNat_ofNat_of_lt' (show b < 256 by omega)] at hcb
                          have HB2 := Lib.hid (HB.out.put hg hn1 (Nat.le_refl _) (UInt8.ofNat b))
                          rw [UInt8.toNat_ofNat_of_lt' (show b < 256 by omega), fillTo_step p lo hb1 (by omega)] at HB2
                          clear hcr HB
                          go_wp2_with fail
                          go_roundw
                          case rel => exact ⟨b + 1, rfl, by omega, by omega, HB2⟩
                          case measure => simp [intOf]; omega
                        · obtain rfl : b = hi2.toNat + 1 := by omega
                          have hb5 : ¬ (((hi2.toNat + 1 : Nat) : Int) ≤ (hi2.toNat : Int)) := by omega
                          have hms := HMS.out
                          have hms2 := prsAt_eq HB.out.prs
                          go_wp2_with fail
                          go_roundw
                          case rel => exact ⟨k + 1, j3, _, m, rfl, by omega, HB, hps, Lib.hid hpi, HNX.out, by rw [List.length_drop]; show s.size - j3 < m; have := HFU.out; omega⟩
                          case measure => rw [hms, hms2]; omega
                    · have hlh : hi2.toNat < lo.toNat := Nat.not_le.1 fun h => hle (UInt8.le_iff_toNat_le.2 h)
                      have hgt : decide ((hi2.toNat : Int) < (lo.toNat : Int)) = true := decide_eq_true (by omega)
                      have HNN : Hid (Gl.cls l0 = none) := Lib.hid (by rw [HLN.out, HN.out, HI1.out, HPL.out]; simp [hle])
                      clear HLN HN HPL HI1
                      obtain ⟨hcr, hfr, hlr⟩ := HC7.out.res.all
                      go_wp2_with fail
                      refine bodyPost_ret (v := .tuple #[.agg #[.bool false, .bool false, .int .u8 0, .nilFunc], .bool false]) ?_ rfl ?_
                      focus
                        simp only [results, Tryz.results117]
                        go_simp
                        done
                      exact ⟨[.bool false, .bool false, .int .u8 0, .nilFunc], false, j3, rfl, ⟨_, _, 0, _, rfl, .inl rfl⟩, hIJ3, hj3s, (by repeat (first | with_reducible exact HC7.out.sv | refine Save.new ?_ (by omega) _ _)), (by repeat (first | with_reducible exact HC7.out.prs | refine Blk.far ?_ (by show g ≠ w.heap.size; omega) _)), HL0.out ▸ HNN.out⟩
  · have hne : i < s.size := by
      rcases Nat.lt_or_ge i s.size with h | h
      · exact h
      · have h1 := HL0.out
        rw [drop_end h] at h1
        rw [h1] at hneg
        cases hneg
    have HC0 : Hid (Cst g s w.heap.size w1.heap.size true w (i + 1) (fun _ => false) ((w1.setCell ⟨g, 1, none⟩ (.int .i64 ((i : Int) + 1))).alloc (.cells #[.bool true] 4))) := Lib.hid
      ⟨Blk.alloc (PrsE.end ⟨_, HP1.out⟩ (by omega)) _, Blk.alloc (Blk.far (p := ⟨g, 1, none⟩) hr1.out (by show w.heap.size ≠ g; omega) _) _, Blk.alloc (Blk.far (p := ⟨g, 1, none⟩) hr2.out (by show w.heap.size + 1 ≠ g; omega) _) _, Blk.new' (by simp), (hs1.out.set 1 _).alloc _⟩
    have HLN : Hid (Gl.cls l0 = match Gl.items (l0.tail.length + 1) l0.tail (fun _ => false) 0 with
      | none => none
      | some (p, k, r) => if k ≠ 0 ∧ Gl.some256 (Gl.clsSet true p) = true then some (some (Gl.clsSet true p), r) else none) := Lib.hid (cls_neg (by rw [← pk33]; exact hneg))
    have HII : Hid (i ≤ i + 1) := Lib.hid (Nat.le_succ _)
    have hi1 : i + 1 ≤ s.size := hne
    have HL1 : Hid (s.data.toList.drop (i + 1) = l0.tail) := Lib.hid (by rw [HL0.out, List.tail_drop])
    go_wp2_with fail
    clear hr1 hr2 hs1 HP1 HB hcg hfg hlg hneg hwi hne
    go_loopw [8] (fun u wr => ∃ (k j : Nat) (p : UInt8 → Bool) (n : Nat), u = .int .i64 k ∧ k ≤ j ∧ Hid (Cst g s w.heap.size w1.heap.size true w j p wr) ∧ j ≤ s.size ∧ Hid (i ≤ j) ∧ Hid (Gl.items (l0.tail.length + 1) l0.tail (fun _ => false) 0 = Gl.items n (s.data.toList.drop j) p k ∧ (s.data.toList.drop j).length < n)) (fun u wr => s.size - prsAt g wr)
    case atStart => exact ⟨0, i + 1, _, _, rfl, Nat.zero_le _, HC0, hi1, HII, Lib.hid ⟨by rw [HL1.out], by rw [HL1.out]; exact Nat.lt_succ_self _⟩⟩
    case round =>
      clear HC0 HL1
      obtain ⟨k, j, p, n, rfl, hkj, HC, hjs, HIJ, HI⟩ := hrel
      obtain ⟨l, hl⟩ : ∃ l, l = s.data.toList.drop j := ⟨_, rfl⟩
      have HL := Lib.hid hl
      have hll : j + l.length = s.size := by rw [hl, List.length_drop]; show j + (s.size - j) = s.size; omega
      have HMS := Lib.hid (prsAt_eq HC.out.prs)
      clear hl
      have hwj : IntKind.i64.wrap ((j : Int) + 1) = (j : Int) + 1 := IntWalk.i64_in _ (by omega)
      go_wp2_with fail
      cases l with
      | nil =>
        refine (peek0_nil g s j wr HC.out.prs hjs hs HL.out.symm).mono ?_
        rintro e w2 ⟨rfl, hx2⟩
        have HC2 := Lib.hid (HC.out.ext hx2)
        clear hx2 HC
        obtain ⟨hcr, hfr, hlr⟩ := HC2.out.res.all
        have HNN : Hid (Gl.cls l0 = none) := Lib.hid (by rw [HLN.out, HI.out.1, ← HL.out]; cases n <;> rfl)
        clear HLN HI
        go_wp2_with fail
        refine bodyPost_ret (v := .tuple #[.agg #[.bool false, .bool false, .int .u8 0, .nilFunc], .bool false]) ?_ rfl ?_
        focus
          simp only [results, Tryz.results117]
          go_simp
          done
        exact ⟨[.bool false, .bool false, .int .u8 0, .nilFunc], false, j, rfl, ⟨_, _, 0, _, rfl, .inl rfl⟩, HIJ.out, hjs, (by repeat (first | with_reducible exact HC2.out.sv | refine Save.new ?_ (by omega) _ _)), (by repeat (first | with_reducible exact HC2.out.prs | refine Blk.far ?_ (by show g ≠ w.heap.size; omega) _)), HL0.out ▸ HNN.out⟩
      | cons c l =>
        refine (peek0_cons g s j wr HC.out.prs hjs hs c l HL.out.symm).mono ?_
        rintro e w2 ⟨rfl, hx2⟩
        have HC2 := Lib.hid (HC.out.ext hx2)
        clear hx2 HC
        have hjl : j + 1 ≤ s.size := by simp at hll; omega
        obtain ⟨m, rfl⟩ : ∃ m, n = m + 1 := ⟨n - 1, by have := HI.out.2; omega⟩
        by_cases h93 : c = 93
        · have hcc : ((c.toNat : Int) == 93) = true := by rw [h93]; rfl
          have HN : Hid (Gl.items (l0.tail.length + 1) l0.tail (fun _ => false) 0 = some (p, k, s.data.toList.drop (j + 1))) := Lib.hid (by rw [HI.out.1, ← HL.out, h93, items_end, ← List.drop_drop, ← HL.out]; rfl)
          obtain ⟨hcg, hfg, hlg⟩ := HC2.out.prs.all
          have HC3 : Hid (Cst g s w.heap.size w1.heap.size true w (j + 1) p (w2.setCell ⟨g, 1, none⟩ (.int .i64 ((j : Int) + 1)))) := Lib.hid (HC2.out.at_ hg hn1 (by omega))
          obtain ⟨hcr, hfr, hlr⟩ := HC3.out.res.all
          have hIJ : i ≤ j + 1 := by have := HIJ.out; omega
          clear HI HC2 h93
          rcases Nat.eq_zero_or_pos k with hk0 | hk0
          · subst hk0
            have HNN : Hid (Gl.cls l0 = none) := Lib.hid (by rw [HLN.out, HN.out]; simp)
            clear HLN HN
            go_wp2_with fail
            refine bodyPost_ret (v := .tuple #[.agg #[.bool false, .bool false, .int .u8 0, .func (.func 140) #[] #[.pointer (some ⟨w.heap.size + 1, 0, none⟩), .pointer (some ⟨w1.heap.size, 0, none⟩)]], .bool false]) ?_ rfl ?_
            focus
              simp only [results, Tryz.results117]
              go_simp
              done
            exact ⟨[.bool false, .bool false, .int .u8 0, .func (.func 140) #[] #[.pointer (some ⟨w.heap.size + 1, 0, none⟩), .pointer (some ⟨w1.heap.size, 0, none⟩)]], false, j + 1, rfl, ⟨_, _, 0, _, rfl, .inr ⟨_, _, _, rfl⟩⟩, hIJ, hjl, (by repeat (first | with_reducible exact HC3.out.sv | refine Save.new ?_ (by omega) _ _)), (by repeat (first | with_reducible exact HC3.out.prs | refine Blk.far ?_ (by show g ≠ w.heap.size; omega) _)), HL0.out ▸ HNN.out⟩
          · have hkb : decide ((0 : Int) < (k : Int)) = true := decide_eq_true (by omega)
            have HK : Hid (k ≠ 0) := Lib.hid (by omega)
            go_wp2_with fail
            refine (some_any _ _ _ (cls_funP HC3.out.row HC3.out.ng)).mono ?_
            rintro e w3 ⟨rfl, hx3⟩
            have HC4 := Lib.hid (HC3.out.ext hx3)
            clear HC3 hx3 hcr hfr hlr hcg hfg hlg
            obtain ⟨hcr, hfr, hlr⟩ := HC4.out.res.all
            cases hsm : Gl.some256 (Gl.clsSet true p)
            · have HNN : Hid (Gl.cls l0 = none) := Lib.hid (by rw [HLN.out, HN.out]; simp [hsm])
              clear HLN HN hsm
              go_wp2_with fail
              refine bodyPost_ret (v := .tuple #[.agg #[.bool false, .bool false, .int .u8 0, .func (.func 140) #[] #[.pointer (some ⟨w.heap.size + 1, 0, none⟩), .pointer (some ⟨w1.heap.size, 0, none⟩)]], .bool false]) ?_ rfl ?_
              focus
                simp only [results, Tryz.results117]
                go_simp
                done
              exact ⟨[.bool false, .bool false, .int .u8 0, .func (.func 140) #[] #[.pointer (some ⟨w.heap.size + 1, 0, none⟩), .pointer (some ⟨w1.heap.size, 0, none⟩)]], false, j + 1, rfl, ⟨_, _, 0, _, rfl, .inr ⟨_, _, _, rfl⟩⟩, hIJ, hjl, (by repeat (first | with_reducible exact HC4.out.sv | refine Save.new ?_ (by omega) _ _)), (by repeat (first | with_reducible exact HC4.out.prs | refine Blk.far ?_ (by show g ≠ w.heap.size; omega) _)), HL0.out ▸ HNN.out⟩
            · have HNN : Hid (Gl.cls l0 = some (some (Gl.clsSet true p), s.data.toList.drop (j + 1))) := Lib.hid (by rw [HLN.out, HN.out]; exact if_pos ⟨HK.out, hsm⟩)
              clear HLN HN hsm
              go_wp2_with fail
              refine bodyPost_ret (v := .tuple #[.agg #[.bool false, .bool false, .int .u8 0, .func (.func 140) #[] #[.pointer (some ⟨w.heap.size + 1, 0, none⟩), .pointer (some ⟨w1.heap.size, 0, none⟩)]], .bool true]) ?_ rfl ?_
              focus
                simp only [results, Tryz.results117]
                go_simp
                done
              exact ⟨[.bool false, .bool false, .int .u8 0, .func (.func 140) #[] #[.pointer (some ⟨w.heap.size + 1, 0, none⟩), .pointer (some ⟨w1.heap.size, 0, none⟩)]], true, j + 1, rfl, ⟨_, _, 0, _, rfl, .inr ⟨_, _, _, rfl⟩⟩, hIJ, hjl, (by repeat (first | with_reducible exact HC4.out.sv | refine Save.new ?_ (by omega) _ _)), (by repeat (first | with_reducible exact HC4.out.prs | refine Blk.far ?_ (by show g ≠ w.heap.size; omega) _)), ⟨some (Gl.clsSet true p), HL0.out ▸ HNN.out, false, 0, _, rfl, rfl, fun q e => by cases e; exact cls_funP (by repeat (first | with_reducible exact HC4.out.row | refine Blk.far ?_ (by first | (show w.heap.size + 1 ≠ w.heap.size; omega) | (show w1.heap.size ≠ w.heap.size; omega)) _)) (by repeat (first | with_reducible exact HC4.out.ng | refine Blk.far ?_ (by first | (show w.heap.size + 1 ≠ w.heap.size; omega) | (show w1.heap.size ≠ w.heap.size; omega)) _))⟩⟩
        · have hcc : ((c.toNat : Int) == 93) = false := byte_ne (n := 93) (by omega) h93
          have HN : Hid (Gl.items (l0.tail.length + 1) l0.tail (fun _ => false) 0 = match Gl.item (c :: l) with
            | none => none
            | some (lo, hi, t) => Gl.items m t (fun b => p b || (decide (lo ≤ b) && decide (b ≤ hi))) (k + 1)) := Lib.hid (by rw [HI.out.1, ← HL.out, items_cons h93])
          have HFU : Hid (s.size - j < m + 1) := Lib.hid (by have := HI.out.2; rw [← HL.out] at this; omega)
          clear HI
          go_wp2_with fail
          refine (plain_any g s j w2 HC2.out.prs hjs hs).mono ?_
          rintro e w3 ⟨lo, ok, j1, rfl, hj1, hj1s, hsv, hp3, hpl⟩
          rw [← HL.out] at hpl
          have HC3 := Lib.hid (HC2.out.save hg hn1 hsv hp3)
          have HPL := Lib.hid hpl
          have hIJ1 : i ≤ j1 := by have := HIJ.out; omega
          clear hsv hp3 hpl HC2
          obtain ⟨l1, hl1⟩ : ∃ l, l = s.data.toList.drop j1 := ⟨_, rfl⟩
          have HL1 := Lib.hid hl1
          clear hl1
          go_wp2_with fail
          refine (peek0_any g s j1 w3 HC3.out.prs hj1s hs l1 HL1.out.symm).mono ?_
          rintro e w4 ⟨rfl, hx4⟩
          have HC4 := Lib.hid (HC3.out.ext hx4)
          clear HC3 hx4
          go_wp2_with fail
          refine (peek1_any g s j1 w4 HC4.out.prs hj1s hs l1 HL1.out.symm).mono ?_
          rintro e w5 ⟨rfl, hx5⟩
          have HC5 := Lib.hid (HC4.out.ext hx5)
          clear HC4 hx5
          cases ok
          · have HNN : Hid (Gl.cls l0 = none) := Lib.hid (by rw [HLN.out, HN.out, item_none (by rw [HPL.out]; rfl)])
            clear HLN HN HPL
            obtain ⟨hcr, hfr, hlr⟩ := HC5.out.res.all
            go_wp2_with fail
            refine bodyPost_ret (v := .tuple #[.agg #[.bool false, .bool false, .int .u8 0, .nilFunc], .bool false]) ?_ rfl ?_
            focus
              simp only [results, Tryz.results117]
              go_simp
              done
            exact ⟨[.bool false, .bool false, .int .u8 0, .nilFunc], false, j1, rfl, ⟨_, _, 0, _, rfl, .inl rfl⟩, hIJ1, hj1s, (by repeat (first | with_reducible exact HC5.out.sv | refine Save.new ?_ (by omega) _ _)), (by repeat (first | with_reducible exact HC5.out.prs | refine Blk.far ?_ (by show g ≠ w.heap.size; omega) _)), HL0.out ▸ HNN.out⟩
          · have hpl := item_eq HPL.out
            have hjj : j < j1 := by have h1 := Gl.plain_lt HPL.out; rw [List.length_drop] at h1; have h2 : s.data.toList.length = s.size := rfl; omega
            rw [← HL1.out] at hpl
            have HL2 : Hid ((pk l1.tail).2 = true → j1 + 1 ≤ s.size) := Lib.hid fun h => by
              have h2 : l1.length = s.size - j1 := by rw [HL1.out, List.length_drop]; rfl
              cases l1 with
              | nil => cases h
              | cons x l1 =>
                simp only [List.length_cons] at h2
                omega
            have hwlo := wrap_byte lo
            have HTL : Hid (l1.tail = s.data.toList.drop (j1 + 1)) := Lib.hid (by rw [HL1.out, List.tail_drop])
            have hc1 : (((pk l1).1.toNat : Int) == 45) = ((pk l1).1 == 45) := byte_beq _ 45 (by omega)
            have hc2 : (((pk l1.tail).1.toNat : Int) != 93) = ((pk l1.tail).1 != 93) := by have := byte_beq (pk l1.tail).1 93 (by omega); simp only [bne]; exact congrArg not this
            rw [← hc1, ← hc2] at hpl
            have HIT := Lib.hid hpl
            clear hpl hc1 hc2 HPL
            generalize (pk l1).1 = hy at HIT ⊢
            generalize (pk l1.tail).2 = mo at HIT HL2 ⊢
            generalize (pk l1.tail).1 = nx at HIT ⊢
            cases ha : ((hy.toNat : Int) == 45)
            · have HI1 : Hid (Gl.item (c :: l) = some (lo, lo, s.data.toList.drop j1)) := Lib.hid (by rw [HIT.out, ha, HL1.out]; rfl)
              clear HIT HL2
              go_wp2_with fail
              have HNX : Hid (Gl.items (l0.tail.length + 1) l0.tail (fun _ => false) 0 = Gl.items m (s.data.toList.drop j1) (fillTo p lo (lo.toNat + 1)) (k + 1)) := Lib.hid (by rw [HN.out, HI1.out, fillTo_end])
              have HC9 : Hid (Cst g s w.heap.size w1.heap.size true w j1 (fillTo p lo lo.toNat) _) := Lib.hid (by rw [fillTo_start]; exact HC5.out)
              have hfl : lo.toNat ≤ lo.toNat := Nat.le_refl _
              have hpg := hjj
              have hps := hj1s
              have hpi := hIJ1
              clear HN HI1 HL1
              go_loopw [18] (fun u wr => ∃ b : Nat, u = .int .i64 b ∧ lo.toNat ≤ b ∧ b ≤ lo.toNat + 1 ∧ Hid (Cst g s w.heap.size w1.heap.size true w j1 (fillTo p lo b) wr)) (fun u _ => lo.toNat + 1 - (intOf u).toNat)
              case atStart => exact ⟨lo.toNat, by rw [hwlo], Nat.le_refl _, by omega, HC9⟩
              case round =>
                clear HC9 HC5
                obtain ⟨b, rfl, hb1, hb2, HB⟩ := hrel
                have hh : lo.toNat < 256 := UInt8.toNat_lt _
                by_cases hb3 : b ≤ lo.toNat
                · have hb4 : (b : Int) < 256 := by omega
                  have hb5 : (b : Int) ≤ (lo.toNat : Int) := by omega
                  obtain ⟨hcr, hfr, hlr⟩ := HB.out.row.all
                  have hcb := (hcr (UInt8.ofNat b).toNat).trans (rowOf_get _ _)
                  rw [UInt8.toNat_ofNat_of_lt' (show b < 256 by omega)] at hcb
                  have HB2 := Lib.hid (HB.out.put hg hn1 (Nat.le_refl _) (UInt8.ofNat b))
                  rw [UInt8.toNat_ofNat_of_lt' (show b < 256 by omega), fillTo_step p lo hb1 (by omega)] at HB2
                  clear hcr HB
                  go_wp2_with fail
                  go_roundw
                  case rel => exact ⟨b + 1, rfl, by omega, by omega, HB2⟩
                  case measure => simp [intOf]; omega
                · obtain rfl : b = lo.toNat + 1 := by omega
                  have hb5 : ¬ (((lo.toNat + 1 : Nat) : Int) ≤ (lo.toNat : Int)) := by omega
                  have hms := HMS.out
                  have hms2 := prsAt_eq HB.out.prs
                  go_wp2_with fail
                  go_roundw
                  case rel => exact ⟨k + 1, j1, _, m, rfl, by omega, HB, hps, Lib.hid hpi, HNX.out, by rw [List.length_drop]; show s.size - j1 < m; have := HFU.out; omega⟩
                  case measure => rw [hms, hms2]; omega
            · cases mo
              · have HI1 : Hid (Gl.item (c :: l) = some (lo, lo, s.data.toList.drop j1)) := Lib.hid (by rw [HIT.out, ha, HL1.out]; rfl)
                clear HIT HL2
                go_wp2_with fail
                have HNX : Hid (Gl.items (l0.tail.length + 1) l0.tail (fun _ => false) 0 = Gl.items m (s.data.toList.drop j1) (fillTo p lo (lo.toNat + 1)) (k + 1)) := Lib.hid (by rw [HN.out, HI1.out, fillTo_end])
                have HC9 : Hid (Cst g s w.heap.size w1.heap.size true w j1 (fillTo p lo lo.toNat) _) := Lib.hid (by rw [fillTo_start]; exact HC5.out)
                have hfl : lo.toNat ≤ lo.toNat := Nat.le_refl _
                have hpg := hjj
                have hps := hj1s
                have hpi := hIJ1
                clear HN HI1 HL1
                go_loopw [18] (fun u wr => ∃ b : Nat, u = .int .i64 b ∧ lo.toNat ≤ b ∧ b ≤ lo.toNat + 1 ∧ Hid (Cst g s w.heap.size w1.heap.size true w j1 (fillTo p lo b) wr)) (fun u _ => lo.toNat + 1 - (intOf u).toNat)
                case atStart => exact ⟨lo.toNat, by rw [hwlo], Nat.le_refl _, by omega, HC9⟩
                case round =>
                  clear HC9 HC5
                  obtain ⟨b, rfl, hb1, hb2, HB⟩ := hrel
                  have hh : lo.toNat < 256 := UInt8.toNat_lt _
                  by_cases hb3 : b ≤ lo.toNat
                  · have hb4 : (b : Int) < 256 := by omega
                    have hb5 : (b : Int) ≤ (lo.toNat : Int) := by omega
                    obtain ⟨hcr, hfr, hlr⟩ := HB.out.row.all
                    have hcb := (hcr (UInt8.ofNat b).toNat).trans (rowOf_get _ _)
                    rw [UInt8.toNat_ofNat_of_lt' (show b < 256 by omega)] at hcb
                    have HB2 := Lib.hid (HB.out.put hg hn1 (Nat.le_refl _) (UInt8.ofNat b))
                    rw [UInt8.toNat_ofNat_of_lt' (show b < 256 by omega), fillTo_step p lo hb1 (by omega)] at HB2
                    clear hcr HB
                    go_wp2_with fail
                    go_roundw
                    case rel => exact ⟨b + 1, rfl, by omega, by omega, HB2⟩
                    case measure => simp [intOf]; omega
                  · obtain rfl : b = lo.toNat + 1 := by omega
                    have hb5 : ¬ (((lo.toNat + 1 : Nat) : Int) ≤ (lo.toNat : Int)) := by omega
                    have hms := HMS.out
                    have hms2 := prsAt_eq HB.out.prs
                    go_wp2_with fail
                    go_roundw
                    case rel => exact ⟨k + 1, j1, _, m, rfl, by omega, HB, hps, Lib.hid hpi, HNX.out, by rw [List.length_drop]; show s.size - j1 < m; have := HFU.out; omega⟩
                    case measure => rw [hms, hms2]; omega
              · cases hb : ((nx.toNat : Int) != 93)
                · have HI1 : Hid (Gl.item (c :: l) = some (lo, lo, s.data.toList.drop j1)) := Lib.hid (by rw [HIT.out, ha, hb, HL1.out]; rfl)
                  clear HIT HL2
                  go_wp2_with fail
                  have HNX : Hid (Gl.items (l0.tail.length + 1) l0.tail (fun _ => false) 0 = Gl.items m (s.data.toList.drop j1) (fillTo p lo (lo.toNat + 1)) (k + 1)) := Lib.hid (by rw [HN.out, HI1.out, fillTo_end])
                  have HC9 : Hid (Cst g s w.heap.size w1.heap.size true w j1 (fillTo p lo lo.toNat) _) := Lib.hid (by rw [fillTo_start]; exact HC5.out)
                  have hfl : lo.toNat ≤ lo.toNat := Nat.le_refl _
                  have hpg := hjj
                  have hps := hj1s
                  have hpi := hIJ1
                  clear HN HI1 HL1
                  go_loopw [18] (fun u wr => ∃ b : Nat, u = .int .i64 b ∧ lo.toNat ≤ b ∧ b ≤ lo.toNat + 1 ∧ Hid (Cst g s w.heap.size w1.heap.size true w j1 (fillTo p lo b) wr)) (fun u _ => lo.toNat + 1 - (intOf u).toNat)
                  case atStart => exact ⟨lo.toNat, by rw [hwlo], Nat.le_refl _, by omega, HC9⟩
                  case round =>
                    clear HC9 HC5
                    obtain ⟨b, rfl, hb1, hb2, HB⟩ := hrel
                    have hh : lo.toNat < 256 := UInt8.toNat_lt _
                    by_cases hb3 : b ≤ lo.toNat
                    · have hb4 : (b : Int) < 256 := by omega
                      have hb5 : (b : Int) ≤ (lo.toNat : Int) := by omega
                      obtain ⟨hcr, hfr, hlr⟩ := HB.out.row.all
                      have hcb := (hcr (UInt8.ofNat b).toNat).trans (rowOf_get _ _)
                      rw [UInt8.toNat_ofNat_of_lt' (show b < 256 by omega)] at hcb
                      have HB2 := Lib.hid (HB.out.put hg hn1 (Nat.le_refl _) (UInt8.ofNat b))
                      rw [UInt8.toNat_ofNat_of_lt' (show b < 256 by omega), fillTo_step p lo hb1 (by omega)] at HB2
                      clear hcr HB
                      go_wp2_with fail
                      go_roundw
                      case rel => exact ⟨b + 1, rfl, by omega, by omega, HB2⟩
                      case measure => simp [intOf]; omega
                    · obtain rfl : b = lo.toNat + 1 := by omega
                      have hb5 : ¬ (((lo.toNat + 1 : Nat) : Int) ≤ (lo.toNat : Int)) := by omega
                      have hms := HMS.out
                      have hms2 := prsAt_eq HB.out.prs
                      go_wp2_with fail
                      go_roundw
                      case rel => exact ⟨k + 1, j1, _, m, rfl, by omega, HB, hps, Lib.hid hpi, HNX.out, by rw [List.length_drop]; show s.size - j1 < m; have := HFU.out; omega⟩
                      case measure => rw [hms, hms2]; omega
                · have hj2 : j1 + 1 ≤ s.size := HL2.out rfl
                  have HI1 : Hid (Gl.item (c :: l) = match Gl.plain (s.data.toList.drop (j1 + 1)) with | none => none | some (hi, v) => if lo ≤ hi then some (lo, hi, v) else none) := Lib.hid (by rw [HIT.out, ha, hb, HTL.out]; rfl)
                  obtain ⟨hcg, hfg, hlg⟩ := HC5.out.prs.all
                  have hw1 : IntKind.i64.wrap ((j1 : Int) + 1) = (j1 : Int) + 1 := IntWalk.i64_in _ (by omega)
                  have HC6 : Hid (Cst g s w.heap.size w1.heap.size true w (j1 + 1) p (w5.setCell ⟨g, 1, none⟩ (.int .i64 ((j1 : Int) + 1)))) := Lib.hid (HC5.out.at_ hg hn1 (by omega))
                  clear HIT HL2
                  go_wp2_with fail
                  refine (plain_any g s (j1 + 1) _ HC6.out.prs hj2 hs).mono ?_
                  rintro e w6 ⟨hi2, ok2, j3, rfl, hj3, hj3s, hsv, hp3, hpl⟩
                  have hwhi := wrap_byte hi2
                  have HC7 := Lib.hid (HC6.out.save hg hn1 hsv hp3)
                  have HPL := Lib.hid hpl
                  have hIJ3 : i ≤ j3 := by omega
                  have hjj3 : j < j3 := by omega
                  clear hsv hp3 hpl HC6 HC5 hcg hfg hlg hw1
                  cases ok2
                  · have HNN : Hid (Gl.cls l0 = none) := Lib.hid (by rw [HLN.out, HN.out, HI1.out, HPL.out]; rfl)
                    clear HLN HN HPL HI1
                    obtain ⟨hcr, hfr, hlr⟩ := HC7.out.res.all
                    go_wp2_with fail
                    refine bodyPost_ret (v := .tuple #[.agg #[.bool false, .bool false, .int .u8 0, .nilFunc], .bool false]) ?_ rfl ?_
                    focus
                      simp only [results, Tryz.results117]
                      go_simp
                      done
                    exact ⟨[.bool false, .bool false, .int .u8 0, .nilFunc], false, j3, rfl, ⟨_, _, 0, _, rfl, .inl rfl⟩, hIJ3, hj3s, (by repeat (first | with_reducible exact HC7.out.sv | refine Save.new ?_ (by omega) _ _)), (by repeat (first | with_reducible exact HC7.out.prs | refine Blk.far ?_ (by show g ≠ w.heap.size; omega) _)), HL0.out ▸ HNN.out⟩
                  · by_cases hle : lo ≤ hi2
                    · have hlh : lo.toNat ≤ hi2.toNat := UInt8.le_iff_toNat_le.1 hle
                      have hgt : decide ((hi2.toNat : Int) < (lo.toNat : Int)) = false := decide_eq_false (by omega)
                      have HI2 : Hid (Gl.item (c :: l) = some (lo, hi2, s.data.toList.drop j3)) := Lib.hid (by rw [HI1.out, HPL.out]; exact if_pos hle)
                      clear HI1 HPL hle
                      have HI1 := HI2
                      clear HI2
                      go_wp2_with fail
                      have HNX : Hid (Gl.items (l0.tail.length + 1) l0.tail (fun _ => false) 0 = Gl.items m (s.data.toList.drop j3) (fillTo p lo (hi2.toNat + 1)) (k + 1)) := Lib.hid (by rw [HN.out, HI1.out, fillTo_end])
                      have HC9 : Hid (Cst g s w.heap.size w1.heap.size true w j3 (fillTo p lo lo.toNat) _) := Lib.hid (by rw [fillTo_start]; exact HC7.out)
                      have hfl : lo.toNat ≤ hi2.toNat := hlh
                      have hpg := hjj3
                      have hps := hj3s
                      have hpi := hIJ3
                      clear HN HI1 HL1
                      go_loopw [18] (fun u wr => ∃ b : Nat, u = .int .i64 b ∧ lo.toNat ≤ b ∧ b ≤ hi2.toNat + 1 ∧ Hid (Cst g s w.heap.size w1.heap.size true w j3 (fillTo p lo b) wr)) (fun u _ => hi2.toNat + 1 - (intOf u).toNat)
                      case atStart => exact ⟨lo.toNat, by rw [hwlo], Nat.le_refl _, by omega, HC9⟩
                      case round =>
                        clear HC9 HC7
                        obtain ⟨b, rfl, hb1, hb2, HB⟩ := hrel
                        have hh : hi2.toNat < 256 := UInt8.toNat_lt _
                        by_cases hb3 : b ≤ hi2.toNat
                        · have hb4 : (b : Int) < 256 := by omega
                          have hb5 : (b : Int) ≤ (hi2.toNat : Int) := by omega
                          obtain ⟨hcr, hfr, hlr⟩ := HB.out.row.all
                          have hcb := (hcr (UInt8.ofNat b).toNat).trans (rowOf_get _ _)
                          rw [UInt8.toNat_ofNat_of_lt' (show b < 256 by omega)] at hcb
                          have HB2 := Lib.hid (HB.out.put hg hn1 (Nat.le_refl _) (UInt8.ofNat b))
                          rw [UInt8.toNat_ofNat_of_lt' (show b < 256 by omega), fillTo_step p lo hb1 (by omega)] at HB2
                          clear hcr HB
                          go_wp2_with fail
                          go_roundw
                          case rel => exact ⟨b + 1, rfl, by omega, by omega, HB2⟩
                          case measure => simp [intOf]; omega
                        · obtain rfl : b = hi2.toNat + 1 := by omega
                          have hb5 : ¬ (((hi2.toNat + 1 : Nat) : Int) ≤ (hi2.toNat : Int)) := by omega
                          have hms := HMS.out
                          have hms2 := prsAt_eq HB.out.prs
                          go_wp2_with fail
                          go_roundw
                          case rel => exact ⟨k + 1, j3, _, m, rfl, by omega, HB, hps, Lib.hid hpi, HNX.out, by rw [List.length_drop]; show s.size - j3 < m; have := HFU.out; omega⟩
                          case measure => rw [hms, hms2]; omega
                    · have hlh : hi2.toNat < lo.toNat := Nat.not_le.1 fun h => hle (UInt8.le_iff_toNat_le.2 h)
                      have hgt : decide ((hi2.toNat : Int) < (lo.toNat : Int)) = true := decide_eq_true (by omega)
                      have HNN : Hid (Gl.cls l0 = none) := Lib.hid (by rw [HLN.out, HN.out, HI1.out, HPL.out]; simp [hle])
                      clear HLN HN HPL HI1
                      obtain ⟨hcr, hfr, hlr⟩ := HC7.out.res.all
                      go_wp2_with fail
                      refine bodyPost_ret (v := .tuple #[.agg #[.bool false, .bool false, .int .u8 0, .nilFunc], .bool false]) ?_ rfl ?_
                      focus
                        simp only [results, Tryz.results117]
                        go_simp
                        done
                      exact ⟨[.bool false, .bool false, .int .u8 0, .nilFunc], false, j3, rfl, ⟨_, _, 0, _, rfl, .inl rfl⟩, hIJ3, hj3s, (by repeat (first | with_reducible exact HC7.out.sv | refine Save.new ?_ (by omega) _ _)), (by repeat (first | with_reducible exact HC7.out.prs | refine Blk.far ?_ (by show g ≠ w.heap.size; omega) _)), HL0.out ▸ HNN.out⟩
end Go.Proofs.YtnjcifppkijanaaGreatDoor
namespace Go.Proofs.YtnjcifppkijanaaGreatDoor
open Go Go.RowKit

theorem any_funP (W : World) : FunP W (.func (.func 116) #[] #[]) (fun b => b != 47) :=
  ⟨_, _, rfl, enters_of Tryz.func116 (by kernel_rfl) rfl, fun W' c hW => one1_any c W'⟩
theorem lit_funP {W : World} {b : Nat} {c : UInt8} (h : Blk W b 5 #[.int .u8 c.toNat]) : FunP W (.func (.func 119) #[] #[.pointer (some ⟨b, 0, none⟩)]) (fun x => x == c) :=
  ⟨_, _, rfl, enters_of Tryz.func119 (by kernel_rfl) rfl, fun W' d hW => one2_any b d c W' (hW _ _ _ (.inl rfl) h)⟩
theorem Keep3.four {w : World} {g : Nat} {cs : Array Value} (h : Blk w g 116 cs) (a b c d : Value) : Keep3 w ((((w.setCell ⟨g, 0, none⟩ a).setCell ⟨g, 1, none⟩ b).setCell ⟨g, 2, none⟩ c).setCell ⟨g, 3, none⟩ d) :=
  ((((Keep3.set h (by decide) 0 a).trans (Keep3.set (h.set_ 0 a) (by decide) 1 b)).trans (Keep3.set ((h.set_ 0 a).set_ 1 b) (by decide) 2 c))).trans (Keep3.set (((h.set_ 0 a).set_ 1 b).set_ 2 c) (by decide) 3 d)
set_option maxHeartbeats 4000000 in
set_option maxRecDepth 100000 in
theorem one_any (g : Nat) (s : ByteArray) (i : Nat) (w : World) (hb : Prs w g s i) (hi : i < s.size) (hs : s.size ≤ 1000000) :
    Calls Tryz.prog 92 #[.pointer (some ⟨g, 0, none⟩)] w (OneR Gl.one g s i w) := by
  have hg := hb.lt
  have hb1 := Blk.alloc hb (.cells #[.bool false, .bool false, .int .u8 0, .nilFunc] 116)
  have HB := Lib.hid hb1
  have HE : Hid (PrsE (w.alloc (.cells #[.bool false, .bool false, .int .u8 0, .nilFunc] 116)) g s) := Lib.hid ⟨_, hb1⟩
  have HS : Hid (Save g w (w.alloc (.cells #[.bool false, .bool false, .int .u8 0, .nilFunc] 116))) := Lib.hid ((Save.refl g w).alloc _)
  obtain ⟨hcg, hfg, hlg⟩ := hb1.all
  obtain ⟨hcr, hfr, hlr⟩ := (Blk.new' (w := w) (g := w.heap.size) (cs := #[.bool false, .bool false, .int .u8 0, .nilFunc]) (t := 116) rfl).all
  have HD := Lib.hid (drop_get hi)
  clear hb hb1
  have hwi : IntKind.i64.wrap ((i : Int) + 1) = (i : Int) + 1 := IntWalk.i64_in _ (by omega)
  have hib : (i : Int) < (s.size : Int) := by omega
  go_enter Tryz.func92, Tryz.ntmps92
  by_cases h1 : s[i] = 42
  · have e1 : ((s[i].toNat : Int) == 42) = true := by rw [h1]; rfl
    rw [h1] at HD
    go_wp2_with (go_quiet (fail))
    refine bodyPost_ret (v := .tuple #[.agg #[.bool true, .bool false, .int .u8 0, .nilFunc], .bool true]) ?_ rfl ?_
    focus
      simp only [results, Tryz.results92]
      go_simp
      done
    exact ⟨[.bool true, .bool false, .int .u8 0, .nilFunc], true, i + 1, rfl, ⟨_, _, 0, _, rfl, .inl rfl⟩, by omega, hi, (by repeat (first | with_reducible exact HS.out | with_reducible refine Save.new ?_ (Nat.le_refl _) _ _ | with_reducible refine Save.set ?_ _ _ | with_reducible refine Save.drewN ?_ _ | with_reducible refine Save.alloc ?_ _)), (by repeat (first | with_reducible exact HE.out | with_reducible refine PrsE.end ?_ (by omega) | with_reducible refine Blk.far ?_ (by show g ≠ w.heap.size; omega) _ | with_reducible refine PrsE.drewN ?_ _ | with_reducible refine Blk.drewN ?_ _ | with_reducible refine Blk.alloc ?_ _)), ⟨none, by rw [HD.out]; rfl, false, 0, _, rfl, rfl, fun p e => by cases e⟩⟩
  have e1 : ((s[i].toNat : Int) == 42) = false := byte_ne (n := 42) (by omega) h1
  by_cases h2 : s[i] = 63
  · have e2 : ((s[i].toNat : Int) == 63) = true := by rw [h2]; rfl
    rw [h2] at HD
    go_wp2_with (go_quiet (fail))
    refine bodyPost_ret (v := .tuple #[.agg #[.bool false, .bool false, .int .u8 0, .func (.func 116) #[] #[]], .bool true]) ?_ rfl ?_
    focus
      simp only [results, Tryz.results92]
      go_simp
      done
    exact ⟨[.bool false, .bool false, .int .u8 0, .func (.func 116) #[] #[]], true, i + 1, rfl, ⟨_, _, 0, _, rfl, .inr ⟨_, _, _, rfl⟩⟩, by omega, hi, (by repeat (first | with_reducible exact HS.out | with_reducible refine Save.new ?_ (Nat.le_refl _) _ _ | with_reducible refine Save.set ?_ _ _ | with_reducible refine Save.drewN ?_ _ | with_reducible refine Save.alloc ?_ _)), (by repeat (first | with_reducible exact HE.out | with_reducible refine PrsE.end ?_ (by omega) | with_reducible refine Blk.far ?_ (by show g ≠ w.heap.size; omega) _ | with_reducible refine PrsE.drewN ?_ _ | with_reducible refine Blk.drewN ?_ _ | with_reducible refine Blk.alloc ?_ _)), ⟨some (fun b => b != 47), by rw [HD.out]; rfl, false, 0, _, rfl, rfl, fun p e => by cases e; exact any_funP _⟩⟩
  have e2 : ((s[i].toNat : Int) == 63) = false := byte_ne (n := 63) (by omega) h2
  by_cases h3 : s[i] = 91
  · have e3 : ((s[i].toNat : Int) == 91) = true := by rw [h3]; rfl
    rw [h3] at HD
    go_wp2_with (go_quiet (fail))
    refine (class_any g s (i + 1) _ (by repeat (first | with_reducible exact HE.out | with_reducible refine PrsE.end ?_ (by omega) | with_reducible refine Blk.far ?_ (by show g ≠ w.heap.size; omega) _ | with_reducible refine PrsE.drewN ?_ _ | with_reducible refine Blk.drewN ?_ _ | with_reducible refine Blk.alloc ?_ _)) hi hs).mono ?_
    rintro e w3 ⟨cs, ok, j, rfl, ⟨x, y, b, m, rfl, hm⟩, hij, hjs, hsv, hp3, hv⟩
    have HV : Hid (if ok = true then ∃ el, Gl.one (s.data.toList.drop i) = some (el, s.data.toList.drop j) ∧ Elt w3 All [.bool x, .bool y, .int .u8 b.toNat, m] el else Gl.one (s.data.toList.drop i) = none) := Lib.hid (by rw [HD.out]; exact hv)
    have HR3 := Lib.hid (hsv.blk w.heap.size 116 #[.bool false, .bool false, .int .u8 0, .nilFunc] (by repeat (first | with_reducible exact Blk.new' rfl | with_reducible refine Blk.far ?_ (by show w.heap.size ≠ g; omega) _ | with_reducible refine Blk.drewN ?_ _)) (by omega))
    have HS3 : Hid (Save g w w3) := Lib.hid (Save.trans (by repeat (first | with_reducible exact HS.out | with_reducible refine Save.new ?_ (Nat.le_refl _) _ _ | with_reducible refine Save.set ?_ _ _ | with_reducible refine Save.drewN ?_ _ | with_reducible refine Save.alloc ?_ _)) hsv)
    have HP3 := Lib.hid hp3
    clear hsv hp3 hv hcg hfg hlg hcr hfr hlr HD HS HE HB
    obtain ⟨hcr, hfr, hlr⟩ := HR3.out.all
    have hij2 : i ≤ j := by omega
    rcases hm with rfl | ⟨fn, f, cp, rfl⟩
    · go_wp2_with fail
      refine bodyPost_ret (v := .tuple #[.agg #[.bool x, .bool y, .int .u8 b.toNat, .nilFunc], .bool ok]) ?_ rfl ?_
      focus
        simp only [results, Tryz.results92]
        go_simp
        done
      refine ⟨[.bool x, .bool y, .int .u8 b.toNat, .nilFunc], ok, j, rfl, ⟨_, _, _, _, rfl, .inl rfl⟩, hij2, hjs, (by repeat (first | with_reducible exact HS3.out | with_reducible refine Save.new ?_ (Nat.le_refl _) _ _ | with_reducible refine Save.set ?_ _ _ | with_reducible refine Save.drewN ?_ _ | with_reducible refine Save.alloc ?_ _)), (by repeat (first | with_reducible exact HP3.out | with_reducible refine PrsE.end ?_ (by omega) | with_reducible refine Blk.far ?_ (by show g ≠ w.heap.size; omega) _ | with_reducible refine PrsE.drewN ?_ _ | with_reducible refine Blk.drewN ?_ _ | with_reducible refine Blk.alloc ?_ _)), ?_⟩
      cases ok
      · exact HV.out
      · obtain ⟨el, h1, h2⟩ := HV.out
        exact ⟨el, h1, h2.keep (Keep3.four HR3.out _ _ _ _)⟩
    · go_wp2_with fail
      refine bodyPost_ret (v := .tuple #[.agg #[.bool x, .bool y, .int .u8 b.toNat, .func fn f cp], .bool ok]) ?_ rfl ?_
      focus
        simp only [results, Tryz.results92]
        go_simp
        done
      refine ⟨[.bool x, .bool y, .int .u8 b.toNat, .func fn f cp], ok, j, rfl, ⟨_, _, _, _, rfl, .inr ⟨_, _, _, rfl⟩⟩, hij2, hjs, (by repeat (first | with_reducible exact HS3.out | with_reducible refine Save.new ?_ (Nat.le_refl _) _ _ | with_reducible refine Save.set ?_ _ _ | with_reducible refine Save.drewN ?_ _ | with_reducible refine Save.alloc ?_ _)), (by repeat (first | with_reducible exact HP3.out | with_reducible refine PrsE.end ?_ (by omega) | with_reducible refine Blk.far ?_ (by show g ≠ w.heap.size; omega) _ | with_reducible refine PrsE.drewN ?_ _ | with_reducible refine Blk.drewN ?_ _ | with_reducible refine Blk.alloc ?_ _)), ?_⟩
      cases ok
      · exact HV.out
      · obtain ⟨el, h1, h2⟩ := HV.out
        exact ⟨el, h1, h2.keep (Keep3.four HR3.out _ _ _ _)⟩
  have e3 : ((s[i].toNat : Int) == 91) = false := byte_ne (n := 91) (by omega) h3
  go_wp2_with (go_quiet (fail))
  refine (plain_any g s i _ (by repeat (first | with_reducible exact HB.out | with_reducible refine PrsE.end ?_ (by omega) | with_reducible refine Blk.far ?_ (by show g ≠ w.heap.size; omega) _ | with_reducible refine PrsE.drewN ?_ _ | with_reducible refine Blk.drewN ?_ _ | with_reducible refine Blk.alloc ?_ _)) (Nat.le_of_lt hi) hs).mono ?_
  rintro e w3 ⟨c, ok, j, rfl, hij, hjs, hsv, hp3, hpl⟩
  have HPL := Lib.hid hpl
  have HR3 := Lib.hid (hsv.blk w.heap.size 116 #[.bool false, .bool false, .int .u8 0, .nilFunc] (by repeat (first | with_reducible exact Blk.new' rfl | with_reducible refine Blk.far ?_ (by show w.heap.size ≠ g; omega) _ | with_reducible refine Blk.drewN ?_ _)) (by omega))
  have HS3 : Hid (Save g w w3) := Lib.hid (Save.trans (by repeat (first | with_reducible exact HS.out | with_reducible refine Save.new ?_ (Nat.le_refl _) _ _ | with_reducible refine Save.set ?_ _ _ | with_reducible refine Save.drewN ?_ _ | with_reducible refine Save.alloc ?_ _)) hsv)
  have HP3 := Lib.hid hp3
  clear hsv hp3 hpl hcg hfg hlg hcr hfr hlr HS HE HB
  obtain ⟨hcr, hfr, hlr⟩ := HR3.out.all
  go_wp2_with fail
  refine bodyPost_ret (v := .tuple #[.agg #[.bool false, .bool true, .int .u8 c.toNat, .func (.func 119) #[] #[.pointer (some ⟨w3.heap.size, 0, none⟩)]], .bool ok]) ?_ rfl ?_
  focus
    simp only [results, Tryz.results92]
    go_simp
    done
  refine ⟨[.bool false, .bool true, .int .u8 c.toNat, .func (.func 119) #[] #[.pointer (some ⟨w3.heap.size, 0, none⟩)]], ok, j, rfl, ⟨_, _, _, _, rfl, .inr ⟨_, _, _, rfl⟩⟩, hij, hjs, (by repeat (first | with_reducible exact HS3.out | with_reducible refine Save.new ?_ (Nat.le_refl _) _ _ | with_reducible refine Save.set ?_ _ _ | with_reducible refine Save.drewN ?_ _ | with_reducible refine Save.alloc ?_ _)), (by repeat (first | with_reducible exact HP3.out | with_reducible refine PrsE.end ?_ (by omega) | with_reducible refine Blk.far ?_ (by show g ≠ w.heap.size; omega) _ | with_reducible refine PrsE.drewN ?_ _ | with_reducible refine Blk.drewN ?_ _ | with_reducible refine Blk.alloc ?_ _)), ?_⟩
  have HO := Gl.one_lit (s.data.toList.drop (i + 1)) h1 h2 h3
  rw [← HD.out, HPL.out] at HO
  cases ok
  · exact HO
  · exact ⟨some (fun x => x == c), HO, true, c, _, rfl, rfl, fun p e => by cases e; exact lit_funP (Blk.new' (by simp))⟩
end Go.Proofs.YtnjcifppkijanaaGreatDoor
