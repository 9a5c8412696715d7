/- Walks: digests compared, lists of patches checked. -/
import Derived.Test.YtojfgidoobgcaaaGreatDoorNc
import Derived.Test.YtojfgidoobgcaaaGreatDoorNr
set_option linter.unusedSimpArgs false
set_option linter.unusedVariables false
namespace Go.Proofs.YtojfgidoobgcaaaGreatDoor
open Go Go.RowKit

theorem Dg.cells_get {d : Dg} {j : Nat} {x : UInt8} (h : d.b[j]? = some x) : d.cells.toArray[j]? = some (.int .u8 x.toNat) := by
  unfold Dg.cells
  simp [h]
set_option maxRecDepth 100000 in
/-- sha256.Compare. -/
theorem vcmp_any (x y : Dg) (w : World) :
    Calls Tryz.prog 84 #[.agg x.cells.toArray, .agg y.cells.toArray] w (Ret (.int .i64 (x.cmp y)) w) := by
  have s1 : x.cells.toArray.size = 32 := by simp [Dg.cells_length]
  have s2 : y.cells.toArray.size = 32 := by simp [Dg.cells_length]
  have HC : Hid (∀ (W : World) (a b c d : Nat), Blk W a 69 x.cells.toArray → Blk W b 69 y.cells.toArray → Calls Tryz.prog 100 #[.slice (some ⟨a, 0, none⟩) 32 c, .slice (some ⟨b, 0, none⟩) 32 d] W (Ret (.int .i64 (x.cmp y)) W)) := Lib.hid fun W a b c d ha hb =>
    (bcompare_any x.b y.b _ _ 32 32 c d W x.len y.len (fun j v hv => by
      have e0 : (⟨a, 0, none⟩ : Addr).add j = ⟨a, j, none⟩ := by unfold Addr.add; split <;> simp_all
      rw [e0, ha.cell]; exact Dg.cells_get hv) (fun j v hv => by
      have e0 : (⟨b, 0, none⟩ : Addr).add j = ⟨b, j, none⟩ := by unfold Addr.add; split <;> simp_all
      rw [e0, hb.cell]; exact Dg.cells_get hv)).mono fun _ _ h => ⟨h.1, by rw [h.2]; exact Ext.refl _⟩
  generalize x.cells.toArray = X at s1 HC ⊢
  generalize y.cells.toArray = Y at s2 HC ⊢
  generalize x.cmp y = R at HC ⊢
  go_enter Tryz.func84, Tryz.ntmps84
  have hx := Ext.refl w
  go_upto_region 1 with fail
  refine wp_region_ext (by kernel_rfl) (by kernel_rfl) ?_
  repeat (first | go_big_quiet_skip | (go_big_quiet_want; first | (go_big_quiet_op; go_big_quiet_on) | (apply quiet_at; intro W hW; have hxW := Ext.trans (a := w) EX hW; have hn0 := BB hW (w.heap.size); have hn1 := BB hW (w.heap.size + 1); (first | simp [↓heap_drew_at, ↓heap_drewN_at, ↓heap_alloc_at, ↓heap_set_at, ne_two, ne_three, ne_two_left, ne_three_left, ↓hb0.eq, hb0.lt, hb0.ne, ↓hb1.eq, hb1.lt, hb1.ne] at hn0 hn1 | simp [↓heap_drew_at, ↓heap_drewN_at, ↓heap_alloc_at, ↓heap_set_at, ne_two, ne_three, ne_two_left, ne_three_left] at hn0 hn1); (try clear hb0 hc0 hf0 hl0); (try clear hb1 hc1 hf1 hl1); have hb0 := Blk.mk hn0; clear hn0; obtain ⟨hc0, hf0, hl0⟩ := hb0.all; have hb1 := Blk.mk hn1; clear hn1; obtain ⟨hc1, hf1, hl1⟩ := hb1.all; go_simp; (first | exact rfl | (simp only [Oper.quietUpon, true_and]; first | exact rfl | (go_at_call 100; exact quiet_call hW (HC.out _ _ _ _ _ hb0 hb1) (fun _ _ h => h))) | (go_at_call 100; exact quiet_call hW (HC.out _ _ _ _ _ hb0 hb1) (fun _ _ h => h))); go_big_quiet_on; simp only [Act.put, sA, s0, sS])))
  refine wpQuiet_nil ?_
  intro w1 hx0
  have hy := Ext.trans (a := w) EX hx0; clear hx; have hx := hy; clear hy; have hn0 := BB hx0 (w.heap.size); have hn1 := BB hx0 (w.heap.size + 1); (first | simp [↓heap_drew_at, ↓heap_drewN_at, ↓heap_alloc_at, ↓heap_set_at, ne_two, ne_three, ne_two_left, ne_three_left, ↓hb0.eq, hb0.lt, hb0.ne, ↓hb1.eq, hb1.lt, hb1.ne] at hn0 hn1 | simp [↓heap_drew_at, ↓heap_drewN_at, ↓heap_alloc_at, ↓heap_set_at, ne_two, ne_three, ne_two_left, ne_three_left] at hn0 hn1); (try clear hb0 hc0 hf0 hl0); (try clear hb1 hc1 hf1 hl1); have hb0 := Blk.mk hn0; clear hn0; obtain ⟨hc0, hf0, hl0⟩ := hb0.all; have hb1 := Blk.mk hn1; clear hn1; obtain ⟨hc1, hf1, hl1⟩ := hb1.all; (try clear hx0)
  go_wp2_with fail
  (go_ret; refine Ret.mk ?_ ?_; (focus (rfl; done)); (focus (exact EX; done)))

theorem quiet_load {P : Program} {C : World → Prop} {K : Act → Prop} {a : Act} {op : Oper} (ty : TypeId) (x : Operand) (ho : op.op = .load ty x) (b o : Nat) (hx : a.eval x = .pointer (some ⟨b, o, none⟩)) (cs : List Value) (d : TypeDesc)
    (hC : ∀ w, C w → w.rangeAt b o cs) (hu : P.underlying ty = some d) (hd : d.isRow = true) (hi : (P.info? ty).map (·.size) = some cs.length) (h : K (a.put op.dst (.agg cs.toArray))) : op.quiet P a C K :=
  ⟨.agg cs.toArray, fun w hw => by
    unfold Oper.quietAt execOp
    simp only [ho, hx, Instr.loadAt, Instr.sureAddr, Sem.run_bind, Sem.run_pure, Result.andThen_ok, run_loadVar_mid w b o ty cs d (hC w hw) hu hd hi, Oper.quietUpon, and_self], h⟩
theorem rising_iff : ∀ {l : List Dg}, Vw.rising l = true ↔ ∀ (i : Nat) x y, l[i]? = some x → l[i + 1]? = some y → x.cmp y < 0
  | [] => by simp [Vw.rising]
  | [a] => by
    simp only [Vw.rising, Bool.and_true, true_iff]
    intro i x y h1 h2
    simp at h2
  | a :: c :: l => by
    have ih := rising_iff (l := c :: l)
    rw [show Vw.rising (a :: c :: l) = (decide (a.cmp c < 0) && Vw.rising (c :: l)) from rfl, Bool.and_eq_true, ih, decide_eq_true_eq]
    constructor
    · rintro ⟨h1, h2⟩ i x y hx hy
      cases i with
      | zero =>
        obtain rfl : a = x := by simpa using hx
        obtain rfl : c = y := by simpa using hy
        exact h1
      | succ i => exact h2 i x y (by simpa using hx) (by simpa using hy)
    · intro h
      exact ⟨h 0 a c rfl rfl, fun i x y hx hy => h (i + 1) x y (by simpa using hx) (by simpa using hy)⟩
theorem dsize : (Tryz.prog.info? 69).map (·.size) = some 32 := by kernel_rfl
theorem dcells (d : Dg) : (Tryz.prog.info? 69).map (·.size) = some d.cells.length := by rw [Dg.cells_length]; exact dsize

set_option maxHeartbeats 4000000 in
set_option maxRecDepth 100000 in
/-- quilt/review.checkIds. -/
theorem vids_any (A : Option Addr) (n c : Nat) (l : List Dg) (w : World) {F : Nat → Prop} (h : Ds w F A l) (hn : l.length = n) (hb : n ≤ 1000000000) :
    Calls Tryz.prog 61 #[.slice A n c] w (Ret (.int .i64 (Vw.ids l)) w) := by
  by_cases h0 : n = 0 ∨ 400 < n
  · have hv : Vw.ids l = 4 := by unfold Vw.ids; rw [hn, if_pos h0]
    rw [hv]
    go_enter Tryz.func61, Tryz.ntmps61
    have hx := Ext.refl w
    rcases h0 with rfl | h0
    · go_wp2_with fail
      (go_ret; refine Ret.mk ?_ ?_; (focus (rfl; done)); (focus (exact EX; done)))
    · go_wp2_with fail
      (go_ret; refine Ret.mk ?_ ?_; (focus (rfl; done)); (focus (exact EX; done)))
  have h1 : 0 < n := by omega
  have h2 : n ≤ 400 := by omega
  obtain ⟨b, o, rfl⟩ : ∃ b o, A = some ⟨b, o, none⟩ := by
    obtain ⟨cs, _, _, hA, _⟩ := h
    obtain ⟨b, o, e, _⟩ := hA (by omega)
    exact ⟨b, o, e⟩
  have HL : Hid (∀ W, Ext w W → ∀ (i : Nat) x, l[i]? = some x → W.rangeAt b (o + i * 32) x.cells) := Lib.hid fun W hW i x hi => by
    obtain ⟨b', o', c', e, _, _, _, hr, hc⟩ := (Sls.ext Dig.steadfast h hW).get hi
    obtain ⟨rfl, rfl⟩ : b = b' ∧ o = o' := by simpa using e
    obtain rfl : c' = x.cells := hc
    exact hr
  have HV : Hid (Vw.ids l = if Vw.rising l = false then 9 else 0) := Lib.hid (by unfold Vw.ids; rw [hn, if_neg h0])
  have HN := Lib.hid hn
  clear h hn h0
  generalize Vw.ids l = R at HV ⊢
  have k0 : ((n : Int) == 0) = false := by simp; omega
  have k1 : decide (400 < (n : Int)) = false := by simp; omega
  have k2 : decide ((n : Int) < 1) = false := by simp; omega
  go_enter Tryz.func61, Tryz.ntmps61
  have hx := Ext.refl w
  go_wp2_with fail
  go_loopw [3] (fun i wr => ∃ k : Nat, 1 ≤ k ∧ k ≤ n ∧ i = .int .i64 k ∧ Ext w wr ∧ Hid (∀ (i : Nat) x y, i + 1 < k → l[i]? = some x → l[i + 1]? = some y → x.cmp y < 0)) (fun i wr => n - (intOf i).toNat)
  case atStart => exact ⟨1, Nat.le_refl _, h1, rfl, hx, Lib.hid fun i x y h => by omega⟩
  case round =>
    clear hx
    obtain ⟨k', hk1, hk, rfl, hx, HR⟩ := hrel
    obtain ⟨k, rfl⟩ : ∃ k, k' = k + 1 := ⟨k' - 1, by omega⟩
    clear hk1
    by_cases hlt : k + 1 < n
    · have e1 : l[k + 1]? = some (l[k + 1]'(by rw [HN.out]; exact hlt)) := List.getElem?_eq_getElem _
      have e0 : l[k]? = some (l[k]'(by rw [HN.out]; omega)) := List.getElem?_eq_getElem _
      generalize l[k + 1]'(by rw [HN.out]; exact hlt) = y at e1
      generalize l[k]'(by rw [HN.out]; omega) = x at e0
      have L0 : Hid (∀ W, Ext wr W → W.rangeAt b (o + k * 32) x.cells) := Lib.hid fun W hW => HL.out W (hx.trans hW) _ x e0
      have L1 : Hid (∀ W, Ext wr W → W.rangeAt b (o + (k + 1) * 32) y.cells) := Lib.hid fun W hW => HL.out W (hx.trans hW) _ y e1
      have HC : Hid (∀ W, Calls Tryz.prog 84 #[.agg x.cells.toArray, .agg y.cells.toArray] W (Ret (.int .i64 (x.cmp y)) W)) := Lib.hid fun W => vcmp_any x y W
      have kw : IntKind.i64.wrap (k : Int) = k := by simp [IntKind.wrap, IntKind.bits, IntKind.signed]; omega
      go_wp2_with fail
      refine wp_region_ext (by kernel_rfl) (by kernel_rfl) ?_
      iterate 2 (first | go_big_quiet_skip | (go_big_quiet_want; first | (go_big_quiet_op; go_big_quiet_on) | (apply quiet_at; intro W hW; have hxW := Ext.trans (a := w) EX hW; skip; go_simp; (first | exact rfl | (simp only [Oper.quietUpon, true_and]; first | exact rfl | (fail)) | (fail)); go_big_quiet_on; simp only [Act.put, sA, s0, sS])))
      go_big_quiet_want
      refine quiet_at (v := .int .i64 (k : Int)) (fun W hW => by go_simp) ?_
      go_big_quiet_on; simp only [Act.put, sA, s0, sS]
      go_big_quiet_want; refine quiet_at (v := .pointer (some ⟨b, o + k * 32, none⟩)) (fun W hW => by go_simp; rw [if_pos (by omega)]; exact ⟨rfl, rfl⟩) ?_; go_big_quiet_on; simp only [Act.put, sA, s0, sS]
      go_big_quiet_want; refine quiet_load 69 _ rfl b (o + k * 32) rfl _ _ L0.out Tryz.underlying69 rfl (dcells _) ?_; go_big_quiet_on; simp only [Act.put, sA, s0, sS]
      iterate 2 (first | go_big_quiet_skip | (go_big_quiet_want; first | (go_big_quiet_op; go_big_quiet_on) | (apply quiet_at; intro W hW; have hxW := Ext.trans (a := w) EX hW; skip; go_simp; (first | exact rfl | (simp only [Oper.quietUpon, true_and]; first | exact rfl | (fail)) | (fail)); go_big_quiet_on; simp only [Act.put, sA, s0, sS])))
      go_big_quiet_want; refine quiet_at (v := .pointer (some ⟨b, o + (k + 1) * 32, none⟩)) (fun W hW => by go_simp; rw [if_pos (by omega)]; exact ⟨rfl, rfl⟩) ?_; go_big_quiet_on; simp only [Act.put, sA, s0, sS]
      go_big_quiet_want; refine quiet_load 69 _ rfl b (o + (k + 1) * 32) rfl _ _ L1.out Tryz.underlying69 rfl (dcells _) ?_; go_big_quiet_on; simp only [Act.put, sA, s0, sS]
      repeat (first | go_big_quiet_skip | (go_big_quiet_want; first | (go_big_quiet_op; go_big_quiet_on) | (apply quiet_at; intro W hW; have hxW := Ext.trans (a := w) EX hW; skip; go_simp; (first | exact rfl | (simp only [Oper.quietUpon, true_and]; first | exact rfl | (go_at_call 84; exact quiet_call hW (HC.out _) (fun _ _ h => h))) | (go_at_call 84; exact quiet_call hW (HC.out _) (fun _ _ h => h))); go_big_quiet_on; simp only [Act.put, sA, s0, sS])))
      refine wpQuiet_nil ?_
      intro w1 hx0
      have hx1 := hx.trans hx0
      clear hx hx0
      have hx := hx1
      clear hx1
      by_cases hc : x.cmp y < 0
      · have hc1 : decide (0 ≤ x.cmp y) = false := by simp; omega
        have HR2 : Hid (∀ (i : Nat) (x y : Dg), i + 1 < k + 1 + 1 → l[i]? = some x → l[i + 1]? = some y → x.cmp y < 0) := Lib.hid fun i x' y' hi h0 h1 => by
          rcases Nat.lt_or_ge (i + 1) (k + 1) with h | h
          · exact HR.out i x' y' h h0 h1
          · obtain rfl : i = k := by omega
            rw [e0] at h0
            rw [e1] at h1
            obtain rfl := Option.some.inj h0
            obtain rfl := Option.some.inj h1
            exact hc
        clear HR
        go_wp2_with fail
        go_roundw
        case rel => exact ⟨k + 1 + 1, by omega, hlt, rfl, hx, HR2⟩
        case measure => simp [intOf]; omega
      · have hc1 : decide (0 ≤ x.cmp y) = true := by simp; omega
        have hv : R = 9 := by
          rw [HV.out, if_pos]
          cases hr : Vw.rising l
          · rfl
          · exact absurd (rising_iff.1 hr k x y e0 e1) hc
        subst hv
        go_wp2_with fail
        (go_ret; refine Ret.mk ?_ ?_; (focus (rfl; done)); (focus (exact EX; done)))
    · have hv : R = 0 := by
        have : Vw.rising l = true := rising_iff.2 fun i x y h0 h1 => HR.out i x y (by
          have := (List.getElem?_eq_some_iff.1 h1).1
          rw [HN.out] at this
          omega) h0 h1
        rw [HV.out, this]
        rfl
      have hq : ((k : Int) + 1 < n) = False := by simp; omega
      subst hv
      go_wp2_with fail
      (go_ret; refine Ret.mk ?_ ?_; (focus (rfl; done)); (focus (exact EX; done)))
end Go.Proofs.YtojfgidoobgcaaaGreatDoor
