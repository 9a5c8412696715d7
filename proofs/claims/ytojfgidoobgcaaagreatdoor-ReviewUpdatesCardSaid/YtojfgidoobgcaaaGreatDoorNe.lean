/- Walks: digests and lists of patches, the reference. -/
import Derived.Test.YtojfgidoobgcaaaGreatDoorNd
set_option linter.unusedSimpArgs false
set_option linter.unusedVariables false
namespace Go.Proofs.YtojfgidoobgcaaaGreatDoor
open Go Go.RowKit

theorem cmp_drop : ∀ (k : Nat) (a b : List UInt8), a.take k = b.take k → k ≤ a.length → k ≤ b.length → Lib.compareBytes a b = Lib.compareBytes (a.drop k) (b.drop k)
  | 0, a, b, _, _, _ => rfl
  | k + 1, [], b, _, h, _ => by simp at h
  | k + 1, _ :: _, [], _, _, h => by simp at h
  | k + 1, x :: a, y :: b, h, h1, h2 => by
    rw [List.take_succ_cons, List.take_succ_cons, List.cons.injEq] at h
    obtain ⟨rfl, h⟩ := h
    have h0 : ¬ x < x := UInt8.lt_irrefl x
    rw [List.drop_succ_cons, List.drop_succ_cons, ← cmp_drop k a b h (by simpa using h1) (by simpa using h2)]
    conv => lhs; unfold Lib.compareBytes
    simp [h0]
theorem cmp_at {a b : List UInt8} {k : Nat} {x y : UInt8} (h : a.take k = b.take k) (hx : a[k]? = some x) (hy : b[k]? = some y) :
    (x < y → Lib.compareBytes a b = -1) ∧ (y < x → Lib.compareBytes a b = 1) := by
  have h1 := (List.getElem?_eq_some_iff.1 hx)
  have h2 := (List.getElem?_eq_some_iff.1 hy)
  rw [cmp_drop k a b h (by have := h1.1; omega) (by have := h2.1; omega), List.drop_eq_getElem_cons h1.1, List.drop_eq_getElem_cons h2.1, h1.2, h2.2]
  constructor
  · intro hl
    unfold Lib.compareBytes
    rw [if_pos hl]
  · intro hl
    have : ¬ x < y := fun h => by
      have h3 := UInt8.lt_iff_toNat_lt.1 h
      have h4 := UInt8.lt_iff_toNat_lt.1 hl
      omega
    unfold Lib.compareBytes
    rw [if_neg this, if_pos hl]
theorem cmp_same (a : List UInt8) : Lib.compareBytes a a = 0 := by
  induction a with
  | nil => rfl
  | cons x a ih =>
    unfold Lib.compareBytes
    simp [UInt8.lt_irrefl x, ih]
set_option maxHeartbeats 4000000 in
set_option maxRecDepth 100000 in
/-- quiltref02.Compare. -/
theorem rcmp_any (x y : Dg) (w : World) :
    Calls Tryz.prog 99 #[.agg x.cells.toArray, .agg y.cells.toArray] w (Ret (.int .i64 (x.cmp y)) w) := by
  have s1 : x.cells.toArray.size = 32 := by simp [Dg.cells_length]
  have s2 : y.cells.toArray.size = 32 := by simp [Dg.cells_length]
  have HX : Hid (∀ (W : World) (g : Nat), Blk W g 69 x.cells.toArray → ∀ (j : Nat) (z : UInt8), x.b[j]? = some z → W.cell? ⟨g, j, none⟩ = some (.int .u8 z.toNat)) := Lib.hid fun W g hg j z hz => by rw [hg.cell]; exact Dg.cells_get hz
  have HY : Hid (∀ (W : World) (g : Nat), Blk W g 69 y.cells.toArray → ∀ (j : Nat) (z : UInt8), y.b[j]? = some z → W.cell? ⟨g, j, none⟩ = some (.int .u8 z.toNat)) := Lib.hid fun W g hg j z hz => by rw [hg.cell]; exact Dg.cells_get hz
  have HR : Hid (x.cmp y = Lib.compareBytes x.b y.b) := Lib.hid rfl
  have lx := x.len
  have ly := y.len
  generalize x.cells.toArray = X at s1 HX ⊢
  generalize y.cells.toArray = Y at s2 HY ⊢
  generalize x.cmp y = R at HR ⊢
  go_enter Tryz.func99, Tryz.ntmps99
  have hx := Ext.refl w
  go_wp2_with fail
  go_loopw [5] (fun i wr => ∃ k : Nat, k ≤ 32 ∧ i = .int .i64 k ∧ Ext w wr ∧ Blk wr w.heap.size 69 X ∧ Blk wr (w.heap.size + 1) 69 Y ∧ Hid (x.b.take k = y.b.take k)) (fun i wr => 32 - (intOf i).toNat)
  case atStart => exact ⟨0, Nat.zero_le _, rfl, (hx.alloc _).alloc _, (Blk.new' rfl).alloc _, Blk.new' (by simp), Lib.hid rfl⟩
  case round =>
    clear hx
    obtain ⟨k, hk, rfl, hx, hb0, hb1, HT⟩ := hrel
    by_cases hlt : k < 32
    · have e0 : x.b[k]? = some (x.b[k]'(by omega)) := List.getElem?_eq_getElem _
      have e1 : y.b[k]? = some (y.b[k]'(by omega)) := List.getElem?_eq_getElem _
      generalize x.b[k]'(by omega) = xk at e0
      generalize y.b[k]'(by omega) = yk at e1
      have HB0 := Lib.hid hb0
      have HB1 := Lib.hid hb1
      have C0 : Hid (∀ W, Ext wr W → W.cell? ⟨w.heap.size, k, none⟩ = some (.int .u8 xk.toNat)) := Lib.hid fun W hW => HX.out W _ (HB0.out.ext hW) k xk e0
      have C1 : Hid (∀ W, Ext wr W → W.cell? ⟨w.heap.size + 1, k, none⟩ = some (.int .u8 yk.toNat)) := Lib.hid fun W hW => HY.out W _ (HB1.out.ext hW) k yk e1
      clear hb0 hb1
      go_wp2_with fail
      refine wp_region_ext (by kernel_rfl) (by kernel_rfl) ?_
      iterate 1 (first | go_big_quiet_skip | (go_big_quiet_want; first | (go_big_quiet_op; go_big_quiet_on) | (apply quiet_at; intro W hW; have hxW := Ext.trans (a := w) EX hW; skip; go_simp; (first | exact rfl | (simp only [Oper.quietUpon, true_and]; first | exact rfl | (fail)) | (fail)); go_big_quiet_on; simp only [Act.put, sA, s0, sS])))
      go_big_quiet_want
      refine quiet_at (v := .pointer (some ⟨w.heap.size, k, none⟩)) (fun W hW => by go_simp) ?_
      go_big_quiet_on; simp only [Act.put, sA, s0, sS]
      go_big_quiet_want
      refine quiet_at (v := .int .u8 xk.toNat) (fun W hW => by have h := C0.out W hW; go_simp) ?_
      go_big_quiet_on; simp only [Act.put, sA, s0, sS]
      iterate 1 (first | go_big_quiet_skip | (go_big_quiet_want; first | (go_big_quiet_op; go_big_quiet_on) | (apply quiet_at; intro W hW; have hxW := Ext.trans (a := w) EX hW; skip; go_simp; (first | exact rfl | (simp only [Oper.quietUpon, true_and]; first | exact rfl | (fail)) | (fail)); go_big_quiet_on; simp only [Act.put, sA, s0, sS])))
      go_big_quiet_want
      refine quiet_at (v := .pointer (some ⟨w.heap.size + 1, k, none⟩)) (fun W hW => by go_simp) ?_
      go_big_quiet_on; simp only [Act.put, sA, s0, sS]
      go_big_quiet_want
      refine quiet_at (v := .int .u8 yk.toNat) (fun W hW => by have h := C1.out W hW; go_simp) ?_
      go_big_quiet_on; simp only [Act.put, sA, s0, sS]
      repeat (first | go_big_quiet_skip | (go_big_quiet_want; first | (go_big_quiet_op; go_big_quiet_on) | (apply quiet_at; intro W hW; have hxW := Ext.trans (a := w) EX hW; skip; go_simp; (first | exact rfl | (simp only [Oper.quietUpon, true_and]; first | exact rfl | (fail)) | (fail)); go_big_quiet_on; simp only [Act.put, sA, s0, sS])))
      refine wpQuiet_nil ?_
      intro w1 hx0
      have HX0 := Lib.hid hx0
      have hx1 := hx.trans hx0
      clear hx hx0
      have hx := hx1
      clear hx1
      by_cases hl : xk < yk
      · have hd : decide ((xk.toNat : Int) < (yk.toNat : Int)) = true := by have := UInt8.lt_iff_toNat_lt.1 hl; simp; omega
        have hv : R = -1 := by rw [HR.out]; exact (cmp_at HT.out e0 e1).1 hl
        clear HR
        subst hv
        go_wp2_with fail
        (go_ret; refine Ret.mk ?_ ?_; (focus (rfl; done)); (focus (exact EX; done)))
      · have hd : decide ((xk.toNat : Int) < (yk.toNat : Int)) = false := by
          have : ¬ xk.toNat < yk.toNat := fun h => hl (UInt8.lt_iff_toNat_lt.2 h)
          simp; omega
        go_wp2_with fail
        have C2 : Hid (∀ W, Ext w1 W → W.cell? ⟨w.heap.size, k, none⟩ = some (.int .u8 xk.toNat)) := Lib.hid fun W hW => C0.out W (HX0.out.trans hW)
        have C3 : Hid (∀ W, Ext w1 W → W.cell? ⟨w.heap.size + 1, k, none⟩ = some (.int .u8 yk.toNat)) := Lib.hid fun W hW => C1.out W (HX0.out.trans hW)
        refine wp_region_ext (by kernel_rfl) (by kernel_rfl) ?_
        iterate 1 (first | go_big_quiet_skip | (go_big_quiet_want; first | (go_big_quiet_op; go_big_quiet_on) | (apply quiet_at; intro W hW; have hxW := Ext.trans (a := w) EX hW; skip; go_simp; (first | exact rfl | (simp only [Oper.quietUpon, true_and]; first | exact rfl | (fail)) | (fail)); go_big_quiet_on; simp only [Act.put, sA, s0, sS])))
        go_big_quiet_want
        refine quiet_at (v := .pointer (some ⟨w.heap.size, k, none⟩)) (fun W hW => by go_simp) ?_
        go_big_quiet_on; simp only [Act.put, sA, s0, sS]
        go_big_quiet_want
        refine quiet_at (v := .int .u8 xk.toNat) (fun W hW => by have h := C2.out W hW; go_simp) ?_
        go_big_quiet_on; simp only [Act.put, sA, s0, sS]
        iterate 1 (first | go_big_quiet_skip | (go_big_quiet_want; first | (go_big_quiet_op; go_big_quiet_on) | (apply quiet_at; intro W hW; have hxW := Ext.trans (a := w) EX hW; skip; go_simp; (first | exact rfl | (simp only [Oper.quietUpon, true_and]; first | exact rfl | (fail)) | (fail)); go_big_quiet_on; simp only [Act.put, sA, s0, sS])))
        go_big_quiet_want
        refine quiet_at (v := .pointer (some ⟨w.heap.size + 1, k, none⟩)) (fun W hW => by go_simp) ?_
        go_big_quiet_on; simp only [Act.put, sA, s0, sS]
        go_big_quiet_want
        refine quiet_at (v := .int .u8 yk.toNat) (fun W hW => by have h := C3.out W hW; go_simp) ?_
        go_big_quiet_on; simp only [Act.put, sA, s0, sS]
        repeat (first | go_big_quiet_skip | (go_big_quiet_want; first | (go_big_quiet_op; go_big_quiet_on) | (apply quiet_at; intro W hW; have hxW := Ext.trans (a := w) EX hW; skip; go_simp; (first | exact rfl | (simp only [Oper.quietUpon, true_and]; first | exact rfl | (fail)) | (fail)); go_big_quiet_on; simp only [Act.put, sA, s0, sS])))
        refine wpQuiet_nil ?_
        intro w2 hx0
        have HX2 := Lib.hid (HX0.out.trans hx0)
        have hx1 := hx.trans hx0
        clear hx hx0 hd
        have hx := hx1
        clear hx1
        by_cases hg : yk < xk
        · have hd : decide ((yk.toNat : Int) < (xk.toNat : Int)) = true := by have := UInt8.lt_iff_toNat_lt.1 hg; simp; omega
          have hv : R = 1 := by rw [HR.out]; exact (cmp_at HT.out e0 e1).2 hg
          clear HR
          subst hv
          go_wp2_with fail
          (go_ret; refine Ret.mk ?_ ?_; (focus (rfl; done)); (focus (exact EX; done)))
        · have hd : decide ((yk.toNat : Int) < (xk.toNat : Int)) = false := by
            have : ¬ yk.toNat < xk.toNat := fun h => hg (UInt8.lt_iff_toNat_lt.2 h)
            simp; omega
          have he : xk = yk := UInt8.toNat_inj.1 (by
            have h1 : ¬ yk.toNat < xk.toNat := fun h => hg (UInt8.lt_iff_toNat_lt.2 h)
            have h2 : ¬ xk.toNat < yk.toNat := fun h => hl (UInt8.lt_iff_toNat_lt.2 h)
            omega)
          have HT2 : Hid (x.b.take (k + 1) = y.b.take (k + 1)) := Lib.hid (by rw [List.take_add_one, List.take_add_one, HT.out, e0, e1, he])
          have G0 := Lib.hid (Blk.ext HX2.out HB0.out)
          have G1 := Lib.hid (Blk.ext HX2.out HB1.out)
          clear HT C0 C1 C2 C3 HX0 HX2 HB0 HB1
          go_wp2_with fail
          go_roundw
          case rel => exact ⟨k + 1, hlt, rfl, hx, G0.out, G1.out, HT2⟩
          case measure => simp [intOf]; omega
    · obtain rfl : k = 32 := by omega
      have hv : R = 0 := by
        have h := HT.out
        rw [List.take_of_length_le (by omega), List.take_of_length_le (by omega)] at h
        rw [HR.out, h, cmp_same]
      clear HR
      subst hv
      go_wp2_with fail
      (go_ret; refine Ret.mk ?_ ?_; (focus (rfl; done)); (focus (exact EX; done)))
set_option maxHeartbeats 4000000 in
set_option maxRecDepth 100000 in
/-- quilt/quiltref55.patches. -/
theorem rids_any (A : Option Addr) (n c : Nat) (l : List Dg) (w : World) {F : Nat → Prop} (h : Ds w F A l) (hn : l.length = n) (hb : n ≤ 1000000000) :
    Calls Tryz.prog 76 #[.slice A n c] w (Ret (.int .i64 (Vw.ids l)) w) := by
  by_cases h0 : n = 0 ∨ 400 < n
  · have hv : Vw.ids l = 4 := by unfold Vw.ids; rw [hn, if_pos h0]
    rw [hv]
    go_enter Tryz.func76, Tryz.ntmps76
    have hx := Ext.refl w
    rcases h0 with rfl | h0
    · go_wp2_with fail
      (go_ret; refine Ret.mk ?_ ?_; (focus (rfl; done)); (focus (exact EX; done)))
    · go_wp2_with fail
      (go_ret; refine Ret.mk ?_ ?_; (focus (rfl; done)); (focus (exact EX; done)))
  have h1 : 0 < n := by omega
  have h2 : n ≤ 400 := by omega
  obtain ⟨b, o, rfl⟩ : ∃ b o, A = some ⟨b, o, none⟩ := by
    obtain ⟨cs, _, _, hA, _⟩ := h
    obtain ⟨b, o, e, _⟩ := hA (by omega)
    exact ⟨b, o, e⟩
  have HL : Hid (∀ W, Ext w W → ∀ (i : Nat) x, l[i]? = some x → W.rangeAt b (o + i * 32) x.cells) := Lib.hid fun W hW i x hi => by
    obtain ⟨b', o', c', e, _, _, _, hr, hc⟩ := (Sls.ext Dig.steadfast h hW).get hi
    obtain ⟨rfl, rfl⟩ : b = b' ∧ o = o' := by simpa using e
    obtain rfl : c' = x.cells := hc
    exact hr
  have HV : Hid (Vw.ids l = if Vw.rising l = false then 9 else 0) := Lib.hid (by unfold Vw.ids; rw [hn, if_neg h0])
  have HN := Lib.hid hn
  clear h hn h0
  generalize Vw.ids l = R at HV ⊢
  have k0 : ((n : Int) == 0) = false := by simp; omega
  have k1 : decide (400 < (n : Int)) = false := by simp; omega
  have k2 : decide ((n : Int) < 1) = false := by simp; omega
  go_enter Tryz.func76, Tryz.ntmps76
  have hx := Ext.refl w
  go_wp2_with fail
  go_loopw [3] (fun i wr => ∃ k : Nat, 1 ≤ k ∧ k ≤ n ∧ i = .int .i64 k ∧ Ext w wr ∧ Hid (∀ (i : Nat) x y, i + 1 < k → l[i]? = some x → l[i + 1]? = some y → x.cmp y < 0)) (fun i wr => n - (intOf i).toNat)
  case atStart => exact ⟨1, Nat.le_refl _, h1, rfl, hx, Lib.hid fun i x y h => by omega⟩
  case round =>
    clear hx
    obtain ⟨k', hk1, hk, rfl, hx, HR⟩ := hrel
    obtain ⟨k, rfl⟩ : ∃ k, k' = k + 1 := ⟨k' - 1, by omega⟩
    clear hk1
    by_cases hlt : k + 1 < n
    · have e1 : l[k + 1]? = some (l[k + 1]'(by rw [HN.out]; exact hlt)) := List.getElem?_eq_getElem _
      have e0 : l[k]? = some (l[k]'(by rw [HN.out]; omega)) := List.getElem?_eq_getElem _
      generalize l[k + 1]'(by rw [HN.out]; exact hlt) = y at e1
      generalize l[k]'(by rw [HN.out]; omega) = x at e0
      have L0 : Hid (∀ W, Ext wr W → W.rangeAt b (o + k * 32) x.cells) := Lib.hid fun W hW => HL.out W (hx.trans hW) _ x e0
      have L1 : Hid (∀ W, Ext wr W → W.rangeAt b (o + (k + 1) * 32) y.cells) := Lib.hid fun W hW => HL.out W (hx.trans hW) _ y e1
      have HC : Hid (∀ W, Calls Tryz.prog 99 #[.agg x.cells.toArray, .agg y.cells.toArray] W (Ret (.int .i64 (x.cmp y)) W)) := Lib.hid fun W => rcmp_any x y W
      have kw : IntKind.i64.wrap (k : Int) = k := by simp [IntKind.wrap, IntKind.bits, IntKind.signed]; omega
      go_wp2_with fail
      refine wp_region_ext (by kernel_rfl) (by kernel_rfl) ?_
      iterate 2 (first | go_big_quiet_skip | (go_big_quiet_want; first | (go_big_quiet_op; go_big_quiet_on) | (apply quiet_at; intro W hW; have hxW := Ext.trans (a := w) EX hW; skip; go_simp; (first | exact rfl | (simp only [Oper.quietUpon, true_and]; first | exact rfl | (fail)) | (fail)); go_big_quiet_on; simp only [Act.put, sA, s0, sS])))
      go_big_quiet_want
      refine quiet_at (v := .int .i64 (k : Int)) (fun W hW => by go_simp) ?_
      go_big_quiet_on; simp only [Act.put, sA, s0, sS]
      go_big_quiet_want; refine quiet_at (v := .pointer (some ⟨b, o + k * 32, none⟩)) (fun W hW => by go_simp; rw [if_pos (by omega)]; exact ⟨rfl, rfl⟩) ?_; go_big_quiet_on; simp only [Act.put, sA, s0, sS]
      go_big_quiet_want; refine quiet_load 69 _ rfl b (o + k * 32) rfl _ _ L0.out Tryz.underlying69 rfl (dcells _) ?_; go_big_quiet_on; simp only [Act.put, sA, s0, sS]
      iterate 2 (first | go_big_quiet_skip | (go_big_quiet_want; first | (go_big_quiet_op; go_big_quiet_on) | (apply quiet_at; intro W hW; have hxW := Ext.trans (a := w) EX hW; skip; go_simp; (first | exact rfl | (simp only [Oper.quietUpon, true_and]; first | exact rfl | (fail)) | (fail)); go_big_quiet_on; simp only [Act.put, sA, s0, sS])))
      go_big_quiet_want; refine quiet_at (v := .pointer (some ⟨b, o + (k + 1) * 32, none⟩)) (fun W hW => by go_simp; rw [if_pos (by omega)]; exact ⟨rfl, rfl⟩) ?_; go_big_quiet_on; simp only [Act.put, sA, s0, sS]
      go_big_quiet_want; refine quiet_load 69 _ rfl b (o + (k + 1) * 32) rfl _ _ L1.out Tryz.underlying69 rfl (dcells _) ?_; go_big_quiet_on; simp only [Act.put, sA, s0, sS]
      repeat (first | go_big_quiet_skip | (go_big_quiet_want; first | (go_big_quiet_op; go_big_quiet_on) | (apply quiet_at; intro W hW; have hxW := Ext.trans (a := w) EX hW; skip; go_simp; (first | exact rfl | (simp only [Oper.quietUpon, true_and]; first | exact rfl | (go_at_call 99; exact quiet_call hW (HC.out _) (fun _ _ h => h))) | (go_at_call 99; exact quiet_call hW (HC.out _) (fun _ _ h => h))); go_big_quiet_on; simp only [Act.put, sA, s0, sS])))
      refine wpQuiet_nil ?_
      intro w1 hx0
      have hx1 := hx.trans hx0
      clear hx hx0
      have hx := hx1
      clear hx1
      by_cases hc : x.cmp y < 0
      · have hc1 : decide (0 ≤ x.cmp y) = false := by simp; omega
        have HR2 : Hid (∀ (i : Nat) (x y : Dg), i + 1 < k + 1 + 1 → l[i]? = some x → l[i + 1]? = some y → x.cmp y < 0) := Lib.hid fun i x' y' hi h0 h1 => by
          rcases Nat.lt_or_ge (i + 1) (k + 1) with h | h
          · exact HR.out i x' y' h h0 h1
          · obtain rfl : i = k := by omega
            rw [e0] at h0
            rw [e1] at h1
            obtain rfl := Option.some.inj h0
            obtain rfl := Option.some.inj h1
            exact hc
        clear HR
        go_wp2_with fail
        go_roundw
        case rel => exact ⟨k + 1 + 1, by omega, hlt, rfl, hx, HR2⟩
        case measure => simp [intOf]; omega
      · have hc1 : decide (0 ≤ x.cmp y) = true := by simp; omega
        have hv : R = 9 := by
          rw [HV.out, if_pos]
          cases hr : Vw.rising l
          · rfl
          · exact absurd (rising_iff.1 hr k x y e0 e1) hc
        subst hv
        go_wp2_with fail
        (go_ret; refine Ret.mk ?_ ?_; (focus (rfl; done)); (focus (exact EX; done)))
    · have hv : R = 0 := by
        have : Vw.rising l = true := rising_iff.2 fun i x y h0 h1 => HR.out i x y (by
          have := (List.getElem?_eq_some_iff.1 h1).1
          rw [HN.out] at this
          omega) h0 h1
        rw [HV.out, this]
        rfl
      have hq : ((k : Int) + 1 < n) = False := by simp; omega
      subst hv
      go_wp2_with fail
      (go_ret; refine Ret.mk ?_ ?_; (focus (rfl; done)); (focus (exact EX; done)))
end Go.Proofs.YtojfgidoobgcaaaGreatDoor
