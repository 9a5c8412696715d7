/- Walks: slices.DeleteFunc of files; files copied. -/
import Derived.Test.YtnjcifppkijanaaGreatDoorFu
set_option linter.unusedSimpArgs false
set_option linter.unusedVariables false
namespace Go.Proofs.YtnjcifppkijanaaGreatDoor
open Go Go.RowKit Go.Shelf
/-- Between two rounds of DeleteFunc: the first i of the row are what is kept of the first j. -/
structure CutAt {α : Type} (p : α → Bool) (l : List α) (i j : Nat) (r : List α) : Prop where
  len : r.length = l.length
  lt : i < j
  le : j ≤ l.length
  front : r.take i = (l.take j).filter fun x => !p x
  back : r.drop j = l.drop j
section
variable {α : Type} {p : α → Bool} {l r : List α} {i j k : Nat} {x : α}
theorem CutAt.start (hk : k < l.length) (hx : l[k]? = some x) (hp : p x = true) (ha : ∀ y ∈ l.take k, p y = false) : CutAt p l k (k + 1) l := by
  refine ⟨rfl, Nat.lt_succ_self k, hk, ?_, rfl⟩
  rw [take_snoc hx, List.filter_append, List.filter_eq_self.2 (fun y hy => by rw [ha y hy]; rfl)]
  simp [hp]
theorem CutAt.at (h : CutAt p l i j r) (hx : l[j]? = some x) : r[j]? = some x := by
  have := congrArg (fun z : List α => z[0]?) h.back
  simpa [List.getElem?_drop, hx] using this
theorem CutAt.keep (h : CutAt p l i j r) (hx : l[j]? = some x) (hp : p x = false) : CutAt p l (i + 1) (j + 1) (r.set i x) := by
  have hj : j < l.length := (List.getElem?_eq_some_iff.1 hx).1
  have hi : i < r.length := by have := h.len; have := h.lt; omega
  refine ⟨by rw [List.length_set]; exact h.len, Nat.succ_lt_succ h.lt, hj, ?_, ?_⟩
  · have e1 : (r.set i x)[i]? = some x := by rw [List.getElem?_set_self hi]
    rw [take_snoc e1, take_snoc hx, List.filter_append, ← h.front, List.take_set_of_le (Nat.le_refl i)]
    simp [hp]
  · rw [List.drop_set_of_lt (by have := h.lt; omega), ← List.drop_drop, h.back, List.drop_drop]
theorem CutAt.skip (h : CutAt p l i j r) (hx : l[j]? = some x) (hp : p x = true) : CutAt p l i (j + 1) r := by
  have hj : j < l.length := (List.getElem?_eq_some_iff.1 hx).1
  refine ⟨h.len, Nat.lt_succ_of_lt h.lt, hj, ?_, ?_⟩
  · rw [take_snoc hx, List.filter_append, ← h.front]
    simp [hp]
  · rw [← List.drop_drop, h.back, List.drop_drop]
end
/-- One struct of an owned row. -/
theorem OwnW.get {α : Type} {k : Nat} {R : Reads α} {t : TypeId} {w0 w : World} {base g n cap : Nat} {F : Nat → Prop} {l : List α} (h : OwnW k R t w0 w base F (.slice (some ⟨g, 0, none⟩) n cap) l) {i : Nat} {x : α} (hi : l[i]? = some x) :
    ∃ c : List Value, R w0 F c x ∧ c.length = k ∧ w.rangeAt g (i * k) c := by
  obtain ⟨cs, h1, h2, ⟨h3, ⟨e, _⟩ | ⟨g', cap', cur, e, hbg, hg, hn, hcm, hs, ht⟩⟩, h4⟩ := h
  · cases e
  · simp only [Value.slice.injEq, Option.some.injEq, Addr.mk.injEq, and_true, true_and] at e
    obtain ⟨rfl, rfl, rfl⟩ := e
    have hil := (List.getElem?_eq_some_iff.1 hi).1
    have hc : cs[i]? = some (cs[i]'(by omega)) := List.getElem?_eq_getElem _
    refine ⟨_, h4 i _ x hc hi, h2 _ (List.mem_of_getElem? hc), fun j v hv => ?_⟩
    have hj : j < k := by rw [← h2 _ (List.mem_of_getElem? hc)]; exact (List.getElem?_eq_some_iff.1 hv).1
    have hB : Blk w g t cur := Blk.mk hg
    have e1 : cs.flatten[i * k + j]? = some v := by rw [flatten_at h2 hc hj]; exact hv
    have hlt : i * k + j < l.length * k := by
      rw [← h3]
      exact (List.getElem?_eq_some_iff.1 e1).1
    rw [hB.cell, ← e1, ← ht, List.getElem?_take_of_lt hlt, Array.getElem?_toList]
theorem fiZero (w : World) : ∃ z : Value, (∀ w, (zeroValue 32).run Tryz.prog w = .ok z w) ∧ z.cells.size = 2 ∧ ∀ u ∈ z.cells.toList, u.oneCell' = true :=
  ⟨.agg #[.string ⟨#[]⟩, .slice none 0 0], fun w => by kernel_rfl, rfl, fun u hu => by
    have : u ∈ [Value.string ⟨#[]⟩, .slice none 0 0] := hu
    simp at this
    rcases this with rfl | rfl <;> rfl⟩
set_option maxHeartbeats 8000000 in
set_option maxRecDepth 100000 in
theorem deleteF_any (p : Ig.Fi → Bool) (g : Nat) (lb : Array Value) (eg : ∀ args w, (callFunc g args).run Tryz.prog w = .ok (.enter g args) w) (A : Option Addr) (n c : Nat) (l : List Ig.Fi) (w0 w : World) (h : OwnW 2 FiR 32 w0 w w0.heap.size All (.slice A n c) l) (hn : l.length = n) (hb : n ≤ 1000000000) (hw : Ext w0 w)
    (hp : ∀ (W : World) (c : List Value) (x : Ig.Fi), Ext w0 W → FiR W All c x → Calls Tryz.prog g (#[.agg c.toArray] ++ lb) W (Ret (.bool (p x)) W)) :
    Calls Tryz.prog 24 #[.slice A n c, .func (.func g) #[] lb] w fun e w' => ∃ A' n' c', e = .returned (.slice A' n' c') ∧ (l.filter fun x => !p x).length = n' ∧ n' ≤ c' ∧ Fis w' All A' (l.filter fun x => !p x) ∧ Ext w0 w' := by
  obtain ⟨A2, c2, e2, hc2, hsl⟩ := h.sls FiR.steadfast hw
  obtain ⟨rfl, -, rfl⟩ : A = A2 ∧ n = l.length ∧ c = c2 := by simpa using e2
  have HI := Lib.hid (firstF_any p g lb eg A n c l w0 w hsl hn hb hw hp)
  have HSL := Lib.hid hsl
  have HOW := Lib.hid h
  have HN := Lib.hid hn
  have HW := Lib.hid hw
  have HP := Lib.hid hp
  have hnc : n ≤ c := by omega
  clear hsl h hn e2 hc2 hw hp
  go_enter Tryz.func24, Tryz.ntmps24
  go_wp2_with fail
  refine HI.out.mono ?_
  rintro e w1 ⟨i0, rfl, hfa, hx1⟩
  have HX1 := Lib.hid hx1
  clear hx1 HI
  rcases hfa with ⟨rfl, hall⟩ | ⟨k, rfl, hk, ⟨x, hx, hpx⟩, hall⟩
  · have HFL : Hid ((l.filter fun x => !p x) = l) := Lib.hid (List.filter_eq_self.2 fun y hy => by rw [hall y hy]; rfl)
    clear hall
    go_wp2_with fail
    go_ret
    rw [HFL.out]
    exact ⟨A, n, c, rfl, HN.out, hnc, Sls.ext FiR.steadfast HSL.out HX1.out, HW.out.trans HX1.out⟩
  · have HC := Lib.hid (CutAt.start hk hx hpx hall)
    have hk0 : k < n := by rw [← HN.out]; exact hk
    have hne1 : ((k : Int) == -1) = false := beq_eq_false_iff_ne.2 (by omega)
    obtain ⟨gb, c3, cur, e3, hgb, -⟩ := HOW.out.has (by omega)
    obtain ⟨rfl, -, rfl⟩ : A = some ⟨gb, 0, none⟩ ∧ n = l.length ∧ c = c3 := by simpa using e3
    clear hall hx hpx hk e3 HSL
    have HOW1 := Lib.hid (HOW.out.ext HX1.out)
    have HX0 := Lib.hid (HW.out.trans HX1.out)
    clear HOW HX1
    go_wp2_with fail
    go_loopw [5, 6, 7] (fun s5 s6 _ wr => ∃ (i j : Nat) (r : List Ig.Fi), s5 = .int .i64 i ∧ s6 = .int .i64 j ∧ j ≤ n ∧ i < n ∧ i < j ∧ Hid (CutAt p l i j r) ∧ Hid (OwnW 2 FiR 32 w0 wr w0.heap.size All (.slice (some ⟨gb, 0, none⟩) n c) r) ∧ Hid (Ext w0 wr)) (fun _ u _ _ => n - (intOf u).toNat)
    case atStart => exact ⟨k, k + 1, l, rfl, rfl, hk0, hk0, Nat.lt_succ_self k, HC, HOW1, HX0⟩
    case round =>
      clear HC HOW1 HX0 hk0 hne1
      rename World => wo
      obtain ⟨i, j, r, rfl, rfl, hj, hin, hij, HC, HO, HX⟩ := hrel
      by_cases hlt : j < n
      · have hjl : j < l.length := by rw [HN.out]; exact hlt
        obtain ⟨x, hx⟩ : ∃ x, l[j]? = some x := ⟨_, List.getElem?_eq_getElem hjl⟩
        have hrx := HC.out.at hx
        obtain ⟨cs5, ⟨A', n', m', rfl, hrest⟩, -, hr⟩ := HO.out.get hrx
        have q0 : wo.cell? ⟨gb, j * 2, none⟩ = some (.string x.dir) := hr 0 _ rfl
        have q1 : wo.cell? ⟨gb, j * 2 + 1, none⟩ = some (.slice A' n' m') := hr 1 _ rfl
        have HFR : Hid (FiR w0 All [.string x.dir, .slice A' n' m'] x) := Lib.hid ⟨A', n', m', rfl, hrest⟩
        clear hr hrest hrx
        have HXJ := Lib.hid hx
        clear hx hjl
        obtain ⟨px, hpx⟩ : ∃ b, b = p x := ⟨_, rfl⟩
        have HPX := Lib.hid hpx.symm
        have HXA := Lib.hid (HX.out.alloc (.cells #[.string x.dir, .slice A' n' m'] 32))
        have HCA : Hid (Calls Tryz.prog g (#[.agg #[.string x.dir, .slice A' n' m']] ++ lb) (wo.alloc (.cells #[.string x.dir, .slice A' n' m'] 32)) (Ret (.bool px) (wo.alloc (.cells #[.string x.dir, .slice A' n' m'] 32)))) := Lib.hid (by
          rw [hpx]
          exact HP.out _ [.string x.dir, .slice A' n' m'] x HXA.out (FiR.steadfast.ext HFR.out HXA.out))
        clear hpx
        go_wp2_with fail
        refine HCA.out.mono ?_
        rintro e w2 ⟨rfl, hx2⟩
        have HX2 := Lib.hid (HXA.out.trans hx2)
        have HO2 := Lib.hid (HO.out.ext (((Ext.refl wo).alloc _).trans hx2))
        have HBX := Lib.hid (Blk.ext hx2 (Blk.new' (w := wo) (g := wo.heap.size) (cs := #[.string x.dir, .slice A' n' m']) (t := 32) rfl))
        clear hx2 HXA HCA q0 q1
        cases px with
        | true =>
          have HC2 := Lib.hid (HC.out.skip HXJ.out HPX.out)
          go_wp2_with fail
          go_roundw
          case rel => exact ⟨i, j + 1, r, rfl, rfl, hlt, hin, by omega, HC2, HO2, HX2⟩
          case measure => simp [intOf]; omega
        | false =>
          have HC2 := Lib.hid (HC.out.keep HXJ.out HPX.out)
          obtain ⟨hcx, hfx, hlx⟩ := HBX.out.all
          obtain ⟨g6, c6, cur6, e6, -, -, -, hB, hcs⟩ := HO2.out.has (by have := HC.out.len; have := HN.out; omega)
          obtain ⟨rfl, -, -⟩ : gb = g6 ∧ n = r.length ∧ c = c6 := by simpa using e6
          have hrl : r.length = n := by rw [HC.out.len, HN.out]
          rw [hrl] at hcs
          obtain ⟨v0, s0⟩ : ∃ v, w2.cell? ⟨gb, i * 2, none⟩ = some v := ⟨_, by rw [hB.cell]; exact Array.getElem?_eq_getElem (by omega)⟩
          have f0 : w2.frozen? ⟨gb, i * 2, none⟩ = false := hB.frozen _
          have hB2 := hB.set_ (i * 2) (.string x.dir)
          obtain ⟨v1, s1⟩ : ∃ v, (w2.setCell ⟨gb, i * 2, none⟩ (.string x.dir)).cell? ⟨gb, i * 2 + 1, none⟩ = some v := ⟨_, by rw [hB2.cell]; exact Array.getElem?_eq_getElem (by simp; omega)⟩
          have f1 : (w2.setCell ⟨gb, i * 2, none⟩ (.string x.dir)).frozen? ⟨gb, i * 2 + 1, none⟩ = false := hB2.frozen _
          have HOP : Hid (OwnW 2 FiR 32 w0 ((w2.setCell ⟨gb, i * 2, none⟩ (.string x.dir)).setCell ⟨gb, i * 2 + 1, none⟩ (.slice A' n' m')) w0.heap.size All (.slice (some ⟨gb, 0, none⟩) n c) (r.set i x)) := Lib.hid (by
            have hp := HO2.out.put (i := i) (by omega) (c := [.string x.dir, .slice A' n' m']) (x := x) rfl HFR.out
            exact hp)
          have HXP : Hid (Ext w0 ((w2.setCell ⟨gb, i * 2, none⟩ (.string x.dir)).setCell ⟨gb, i * 2 + 1, none⟩ (.slice A' n' m'))) := Lib.hid (Ext.setCell (p := ⟨gb, i * 2 + 1, none⟩) (Ext.setCell (p := ⟨gb, i * 2, none⟩) HX2.out hgb _) hgb _)
          clear e6 hB hcs hB2 HO2 HX2
          go_wp2_with fail
          go_roundw
          case rel => exact ⟨i + 1, j + 1, r.set i x, rfl, rfl, hlt, by omega, by omega, HC2, HOP, HXP⟩
          case measure => simp [intOf]; omega
      · obtain rfl : j = n := by omega
        have hnlt : ¬ ((j : Int) < (j : Int)) := by omega
        obtain ⟨z, hz1, hz2, hz3⟩ := fiZero w
        have hl : r.length = j := by rw [HC.out.len, HN.out]
        have hi : i ≤ r.length := by omega
        have HFR : Hid (r.take i = l.filter fun x => !p x) := Lib.hid (by have := HC.out.front; rwa [← HN.out, List.take_length] at this)
        obtain ⟨g6, c6, cur9, e6, -, -, -, hB, hcs⟩ := HO.out.has (by omega)
        rw [hl] at hcs
        obtain ⟨rfl, -, rfl⟩ : gb = g6 ∧ j = r.length ∧ c = c6 := by simpa using e6
        have hci : ¬ (c = i) := by omega
        have hci2 : ¬ (c - i = 0) := by omega
        obtain ⟨vs, hvs, hcl⟩ := run_clear_w 29 32 Tryz.underlying29 z hz1 2 hz2 (by decide) hz3 gb (i * 2) (j - i) (c - i) (by omega) hB (by omega)
        have HI := Lib.hid hi
        clear e6 hl hi hz1 hz2 hz3 hB hcs hvs
        obtain ⟨hxe, hse⟩ := HO.out.cut FiR.steadfast HX.out (Nat.le_refl _) HI.out vs
        have HXE := Lib.hid hxe
        have HSE := Lib.hid hse
        clear hxe hse
        generalize wo.setCells gb (i * 2) vs = we at HXE HSE hcl
        go_wp2_with fail
        go_ret
        rw [← HFR.out]
        exact ⟨_, i, c, rfl, by rw [List.length_take]; exact Nat.min_eq_left HI.out, by omega, HSE.out, HXE.out⟩
end Go.Proofs.YtnjcifppkijanaaGreatDoor
