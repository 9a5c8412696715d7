/- Walks: lists of digests compared for equality. -/
import Derived.Test.YtojfgidoobgcaaaGreatDoorNd
import Derived.ChangeKeysEq
set_option linter.unusedSimpArgs false
set_option linter.unusedVariables false
namespace Go.Proofs.YtojfgidoobgcaaaGreatDoor
open Go Go.RowKit

theorem eq_items (x y : Dg) (d : Nat) (w : World) : ∀ is : List Nat, (∀ i ∈ is, i < 32) → (Op.eqItems (d + 1) 5 (Tryz.prog.cellsOf 5) x.cells.toArray y.cells.toArray is).run Tryz.prog w = .ok (is.all fun i => x.b[i]? == y.b[i]?) w
  | [], _ => by simp [Op.eqItems]
  | i :: is, h => by
    have hi := h i (List.mem_cons_self ..)
    have e0 : x.b[i]? = some (x.b[i]'(by rw [x.len]; exact hi)) := List.getElem?_eq_getElem _
    have e1 : y.b[i]? = some (y.b[i]'(by rw [y.len]; exact hi)) := List.getElem?_eq_getElem _
    generalize x.b[i]'(by rw [x.len]; exact hi) = a at e0
    generalize y.b[i]'(by rw [y.len]; exact hi) = c at e1
    have hp : Tryz.prog.plainKey 5 = true := by kernel_rfl
    have hc : i * Tryz.prog.cellsOf 5 = i := by rw [show Tryz.prog.cellsOf 5 = 1 by kernel_rfl, Nat.mul_one]
    have p1 : (part 5 x.cells.toArray i).run Tryz.prog w = .ok (.int .u8 a.toNat) w := run_part_plain w hp (Dg.cells_get e0)
    have p2 : (part 5 y.cells.toArray i).run Tryz.prog w = .ok (.int .u8 c.toNat) w := run_part_plain w hp (Dg.cells_get e1)
    have p3 : (Op.equalIn (d + 1) 5 (.int .u8 a.toNat) (.int .u8 c.toNat)).run Tryz.prog w = .ok ((a.toNat : Int) == (c.toNat : Int)) w := run_equalIn_int w d _ _ _ _ _ Tryz.underlying5
    have hac : (((a.toNat : Int) == (c.toNat : Int)) : Bool) = (a == c) := by
      by_cases h : a = c
      · simp [h]
      · have : ¬ ((a.toNat : Int) = (c.toNat : Int)) := fun e => h (UInt8.toNat_inj.1 (by omega))
        rw [beq_eq_false_iff_ne.2 this, beq_eq_false_iff_ne.2 h]
    rw [hac] at p3
    have ih := eq_items x y d w is fun i hi => h i (List.mem_cons_of_mem _ hi)
    simp only [Op.eqItems, hc, Sem.run_bind, p1, p2, p3, Result.andThen_ok]
    cases hq : (a == c)
    · simp [e0, e1, hq]
    · have hac2 : a = c := by simpa using hq
      subst hac2
      simpa [e0, e1] using ih
set_option maxRecDepth 100000 in
theorem eql_dg (x y : Dg) (w : World) : (Op.equalIn 10000 69 (.agg x.cells.toArray) (.agg y.cells.toArray)).run Tryz.prog w = .ok (decide (x = y)) w := by
  obtain ⟨i, hi⟩ := info_of_underlying Tryz.underlying5
  rw [show (10000 : Nat) = 9998 + 1 + 1 from rfl, run_equalIn_array w (9998 + 1) _ _ Tryz.underlying69 hi, eq_items x y 9998 w _ (fun i hi => List.mem_range.1 hi)]
  congr 1
  by_cases h : x = y
  · subst h
    simp
  · rw [decide_eq_false h]
    cases hq : (List.range 32).all fun i => x.b[i]? == y.b[i]?
    · rfl
    · refine absurd ?_ h
      have hb : x.b = y.b := List.ext_getElem? fun i => by
        rcases Nat.lt_or_ge i 32 with h1 | h1
        · simpa using List.all_eq_true.1 hq i (List.mem_range.2 h1)
        · rw [List.getElem?_eq_none (by rw [x.len]; exact h1), List.getElem?_eq_none (by rw [y.len]; exact h1)]
      obtain ⟨a, ha⟩ := x
      obtain ⟨c, hc⟩ := y
      simp only at hb
      subst hb
      rfl
set_option maxHeartbeats 4000000 in
set_option maxRecDepth 100000 in
/-- slices.Equal[[]quilt/api.Digest,quilt/api.Digest]. -/
theorem dequal_any (A B : Option Addr) (n c m d : Nat) (l r : List Dg) (w : World) {F G : Nat → Prop} (h : Ds w F A l) (k : Ds w G B r) (hn : l.length = n) (hm : r.length = m) (hb : n ≤ 1000000000) (hb2 : m ≤ 1000000000) :
    Calls Tryz.prog 65 #[.slice A n c, .slice B m d] w (Ret (.bool (decide (l = r))) w) := by
  by_cases hnm : n = m
  · subst hnm
    by_cases h0 : n = 0
    · subst h0
      obtain rfl : l = [] := List.length_eq_zero_iff.1 hn
      obtain rfl : r = [] := List.length_eq_zero_iff.1 hm
      go_enter Tryz.func65, Tryz.ntmps65
      have hx := Ext.refl w
      go_wp2_with fail
      refine wp_loop_rounds 1 ?_
      rw [rounds_succ]
      go_wp2_with fail
      (go_ret; refine Ret.mk ?_ ?_; (focus (rfl; done)); (focus (exact EX; done)))
    obtain ⟨b, o, rfl⟩ : ∃ b o, A = some ⟨b, o, none⟩ := by
      obtain ⟨cs, _, _, hA, _⟩ := h
      obtain ⟨b, o, e, _⟩ := hA (by omega)
      exact ⟨b, o, e⟩
    obtain ⟨b', o', rfl⟩ : ∃ b o, B = some ⟨b, o, none⟩ := by
      obtain ⟨cs, _, _, hA, _⟩ := k
      obtain ⟨b, o, e, _⟩ := hA (by omega)
      exact ⟨b, o, e⟩
    have HL : Hid (∀ W, Ext w W → ∀ (i : Nat) x, l[i]? = some x → W.rangeAt b (o + i * 32) x.cells) := Lib.hid fun W hW i x hi => by
      obtain ⟨b', o', c', e, _, _, _, hr, hc⟩ := (Sls.ext Dig.steadfast h hW).get hi
      obtain ⟨rfl, rfl⟩ : b = b' ∧ o = o' := by simpa using e
      obtain rfl : c' = x.cells := hc
      exact hr
    have HK : Hid (∀ W, Ext w W → ∀ (i : Nat) x, r[i]? = some x → W.rangeAt b' (o' + i * 32) x.cells) := Lib.hid fun W hW i x hi => by
      obtain ⟨b', o', c', e, _, _, _, hr, hc⟩ := (Sls.ext Dig.steadfast k hW).get hi
      obtain ⟨rfl, rfl⟩ : _ = b' ∧ _ = o' := by simpa using e
      obtain rfl : c' = x.cells := hc
      exact hr
    obtain ⟨R, HR⟩ : ∃ R, R = decide (l = r) := ⟨_, rfl⟩
    rw [← HR]
    have HV := Lib.hid HR
    clear HR
    have HN := Lib.hid hn
    have HM := Lib.hid hm
    clear h hn k hm
    go_enter Tryz.func65, Tryz.ntmps65
    have hx := Ext.refl w
    go_wp2_with fail
    go_loopw [13] (fun i wr => ∃ k : Nat, k ≤ n ∧ i = .int .i64 k ∧ Ext w wr ∧ Hid (l.take k = r.take k)) (fun i wr => n - (intOf i).toNat)
    case atStart => exact ⟨0, Nat.zero_le _, rfl, hx, Lib.hid rfl⟩
    case round =>
      clear hx
      obtain ⟨k, hk, rfl, hx, HT⟩ := hrel
      by_cases hlt : k < n
      · have e0 : l[k]? = some (l[k]'(by rw [HN.out]; exact hlt)) := List.getElem?_eq_getElem _
        have e1 : r[k]? = some (r[k]'(by rw [HM.out]; exact hlt)) := List.getElem?_eq_getElem _
        generalize l[k]'(by rw [HN.out]; exact hlt) = x at e0
        generalize r[k]'(by rw [HM.out]; exact hlt) = y at e1
        have L0 : Hid (∀ W, Ext wr W → W.rangeAt b (o + k * 32) x.cells) := Lib.hid fun W hW => HL.out W (hx.trans hW) _ x e0
        have L1 : Hid (∀ W, Ext wr W → W.rangeAt b' (o' + k * 32) y.cells) := Lib.hid fun W hW => HK.out W (hx.trans hW) _ y e1
        obtain ⟨q, hq⟩ : ∃ q, q = decide (x = y) := ⟨_, rfl⟩
        have HQ := Lib.hid hq
        have HE : ∀ W, (Op.equalIn 10000 69 (.agg x.cells.toArray) (.agg y.cells.toArray)).run Tryz.prog W = .ok q W := fun W => by rw [hq]; exact eql_dg x y W
        clear hq
        go_wp2_with fail
        refine wp_region_ext (by kernel_rfl) (by kernel_rfl) ?_
        iterate 2 (first | go_big_quiet_skip | (go_big_quiet_want; first | (go_big_quiet_op; go_big_quiet_on) | (apply quiet_at; intro W hW; have hxW := Ext.trans (a := w) EX hW; skip; go_simp; (first | exact rfl | (simp only [Oper.quietUpon, true_and]; first | exact rfl | (fail)) | (fail)); go_big_quiet_on; simp only [Act.put, sA, s0, sS])))
        go_big_quiet_want; refine quiet_at (v := .pointer (some ⟨b, o + k * 32, none⟩)) (fun W hW => by go_simp) ?_; go_big_quiet_on; simp only [Act.put, sA, s0, sS]
        go_big_quiet_want; refine quiet_load 69 _ rfl b (o + k * 32) rfl _ _ L0.out Tryz.underlying69 rfl (dcells _) ?_; go_big_quiet_on; simp only [Act.put, sA, s0, sS]
        iterate 2 (first | go_big_quiet_skip | (go_big_quiet_want; first | (go_big_quiet_op; go_big_quiet_on) | (apply quiet_at; intro W hW; have hxW := Ext.trans (a := w) EX hW; skip; go_simp; (first | exact rfl | (simp only [Oper.quietUpon, true_and]; first | exact rfl | (fail)) | (fail)); go_big_quiet_on; simp only [Act.put, sA, s0, sS])))
        go_big_quiet_want; refine quiet_at (v := .pointer (some ⟨b', o' + k * 32, none⟩)) (fun W hW => by go_simp) ?_; go_big_quiet_on; simp only [Act.put, sA, s0, sS]
        go_big_quiet_want; refine quiet_load 69 _ rfl b' (o' + k * 32) rfl _ _ L1.out Tryz.underlying69 rfl (dcells _) ?_; go_big_quiet_on; simp only [Act.put, sA, s0, sS]
        go_big_quiet_want
        refine quiet_at (v := .bool (!q)) (fun W hW => by go_simp) ?_
        go_big_quiet_on; simp only [Act.put, sA, s0, sS]
        refine wpQuiet_nil ?_
        intro w1 hx0
        have hx1 := hx.trans hx0
        clear hx hx0
        have hx := hx1
        clear hx1
        clear HE
        cases q
        rotate_left
        · have hxy : x = y := of_decide_eq_true HQ.out.symm
          have HT2 : Hid (l.take (k + 1) = r.take (k + 1)) := Lib.hid (by rw [List.take_add_one, List.take_add_one, HT.out, e0, e1, hxy])
          clear HT
          go_wp2_with fail
          go_roundw
          case rel => exact ⟨k + 1, hlt, rfl, hx, HT2⟩
          case measure => simp [intOf]; omega
        · have hxy : ¬ x = y := of_decide_eq_false HQ.out.symm
          have hv : R = false := by
            rw [HV.out]
            refine decide_eq_false fun e => hxy ?_
            rw [e, e1] at e0
            exact (Option.some.inj e0).symm
          clear HV
          subst hv
          go_wp2_with fail
          (go_ret; refine Ret.mk ?_ ?_; (focus (rfl; done)); (focus (exact EX; done)))
      · obtain rfl : k = n := by omega
        have hv : R = true := by
          rw [HV.out]
          have h := HT.out
          rw [List.take_of_length_le (by rw [HN.out]; exact Nat.le_refl _), List.take_of_length_le (by rw [HM.out]; exact Nat.le_refl _)] at h
          exact decide_eq_true h
        clear HV
        subst hv
        go_wp2_with fail
        (go_ret; refine Ret.mk ?_ ?_; (focus (rfl; done)); (focus (exact EX; done)))
  · have hv : decide (l = r) = false := decide_eq_false fun e => hnm (by rw [← hn, ← hm, e])
    rw [hv]
    have hq : ((n : Int) == (m : Int)) = false := by simp; omega
    have hq2 : ¬ (n : Int) = (m : Int) := by omega
    go_enter Tryz.func65, Tryz.ntmps65
    have hx := Ext.refl w
    go_wp2_with fail
    (go_ret; refine Ret.mk ?_ ?_; (focus (rfl; done)); (focus (exact EX; done)))

set_option maxHeartbeats 4000000 in
set_option maxRecDepth 100000 in
/-- quilt/quiltref02.Same. -/
theorem dsame_any (A B : Option Addr) (n c m d : Nat) (l r : List Dg) (w : World) {F G : Nat → Prop} (h : Ds w F A l) (k : Ds w G B r) (hn : l.length = n) (hm : r.length = m) (hb : n ≤ 1000000000) (hb2 : m ≤ 1000000000) :
    Calls Tryz.prog 35 #[.slice A n c, .slice B m d] w (Ret (.bool (decide (l = r))) w) := by
  by_cases hnm : n = m
  · subst hnm
    by_cases h0 : n = 0
    · subst h0
      obtain rfl : l = [] := List.length_eq_zero_iff.1 hn
      obtain rfl : r = [] := List.length_eq_zero_iff.1 hm
      go_enter Tryz.func35, Tryz.ntmps35
      have hx := Ext.refl w
      go_wp2_with fail
      refine wp_loop_rounds 1 ?_
      rw [rounds_succ]
      go_wp2_with fail
      (go_ret; refine Ret.mk ?_ ?_; (focus (rfl; done)); (focus (exact EX; done)))
    obtain ⟨b, o, rfl⟩ : ∃ b o, A = some ⟨b, o, none⟩ := by
      obtain ⟨cs, _, _, hA, _⟩ := h
      obtain ⟨b, o, e, _⟩ := hA (by omega)
      exact ⟨b, o, e⟩
    obtain ⟨b', o', rfl⟩ : ∃ b o, B = some ⟨b, o, none⟩ := by
      obtain ⟨cs, _, _, hA, _⟩ := k
      obtain ⟨b, o, e, _⟩ := hA (by omega)
      exact ⟨b, o, e⟩
    have HL : Hid (∀ W, Ext w W → ∀ (i : Nat) x, l[i]? = some x → W.rangeAt b (o + i * 32) x.cells) := Lib.hid fun W hW i x hi => by
      obtain ⟨b', o', c', e, _, _, _, hr, hc⟩ := (Sls.ext Dig.steadfast h hW).get hi
      obtain ⟨rfl, rfl⟩ : b = b' ∧ o = o' := by simpa using e
      obtain rfl : c' = x.cells := hc
      exact hr
    have HK : Hid (∀ W, Ext w W → ∀ (i : Nat) x, r[i]? = some x → W.rangeAt b' (o' + i * 32) x.cells) := Lib.hid fun W hW i x hi => by
      obtain ⟨b', o', c', e, _, _, _, hr, hc⟩ := (Sls.ext Dig.steadfast k hW).get hi
      obtain ⟨rfl, rfl⟩ : _ = b' ∧ _ = o' := by simpa using e
      obtain rfl : c' = x.cells := hc
      exact hr
    obtain ⟨R, HR⟩ : ∃ R, R = decide (l = r) := ⟨_, rfl⟩
    rw [← HR]
    have HV := Lib.hid HR
    clear HR
    have HN := Lib.hid hn
    have HM := Lib.hid hm
    clear h hn k hm
    go_enter Tryz.func35, Tryz.ntmps35
    have hx := Ext.refl w
    go_wp2_with fail
    go_loopw [5] (fun i wr => ∃ k : Nat, k ≤ n ∧ i = .int .i64 k ∧ Ext w wr ∧ Hid (l.take k = r.take k)) (fun i wr => n - (intOf i).toNat)
    case atStart => exact ⟨0, Nat.zero_le _, rfl, hx, Lib.hid rfl⟩
    case round =>
      clear hx
      obtain ⟨k, hk, rfl, hx, HT⟩ := hrel
      by_cases hlt : k < n
      · have e0 : l[k]? = some (l[k]'(by rw [HN.out]; exact hlt)) := List.getElem?_eq_getElem _
        have e1 : r[k]? = some (r[k]'(by rw [HM.out]; exact hlt)) := List.getElem?_eq_getElem _
        generalize l[k]'(by rw [HN.out]; exact hlt) = x at e0
        generalize r[k]'(by rw [HM.out]; exact hlt) = y at e1
        have L0 : Hid (∀ W, Ext wr W → W.rangeAt b (o + k * 32) x.cells) := Lib.hid fun W hW => HL.out W (hx.trans hW) _ x e0
        have L1 : Hid (∀ W, Ext wr W → W.rangeAt b' (o' + k * 32) y.cells) := Lib.hid fun W hW => HK.out W (hx.trans hW) _ y e1
        obtain ⟨q, hq⟩ : ∃ q, q = decide (x = y) := ⟨_, rfl⟩
        have HQ := Lib.hid hq
        have HE : ∀ W, (Op.equalIn 10000 69 (.agg x.cells.toArray) (.agg y.cells.toArray)).run Tryz.prog W = .ok q W := fun W => by rw [hq]; exact eql_dg x y W
        clear hq
        go_wp2_with fail
        refine wp_region_ext (by kernel_rfl) (by kernel_rfl) ?_
        iterate 2 (first | go_big_quiet_skip | (go_big_quiet_want; first | (go_big_quiet_op; go_big_quiet_on) | (apply quiet_at; intro W hW; have hxW := Ext.trans (a := w) EX hW; skip; go_simp; (first | exact rfl | (simp only [Oper.quietUpon, true_and]; first | exact rfl | (fail)) | (fail)); go_big_quiet_on; simp only [Act.put, sA, s0, sS])))
        go_big_quiet_want; refine quiet_at (v := .pointer (some ⟨b, o + k * 32, none⟩)) (fun W hW => by go_simp) ?_; go_big_quiet_on; simp only [Act.put, sA, s0, sS]
        go_big_quiet_want; refine quiet_load 69 _ rfl b (o + k * 32) rfl _ _ L0.out Tryz.underlying69 rfl (dcells _) ?_; go_big_quiet_on; simp only [Act.put, sA, s0, sS]
        iterate 2 (first | go_big_quiet_skip | (go_big_quiet_want; first | (go_big_quiet_op; go_big_quiet_on) | (apply quiet_at; intro W hW; have hxW := Ext.trans (a := w) EX hW; skip; go_simp; (first | exact rfl | (simp only [Oper.quietUpon, true_and]; first | exact rfl | (fail)) | (fail)); go_big_quiet_on; simp only [Act.put, sA, s0, sS])))
        go_big_quiet_want; refine quiet_at (v := .pointer (some ⟨b', o' + k * 32, none⟩)) (fun W hW => by go_simp) ?_; go_big_quiet_on; simp only [Act.put, sA, s0, sS]
        go_big_quiet_want; refine quiet_load 69 _ rfl b' (o' + k * 32) rfl _ _ L1.out Tryz.underlying69 rfl (dcells _) ?_; go_big_quiet_on; simp only [Act.put, sA, s0, sS]
        go_big_quiet_want
        refine quiet_at (v := .bool (!q)) (fun W hW => by go_simp) ?_
        go_big_quiet_on; simp only [Act.put, sA, s0, sS]
        refine wpQuiet_nil ?_
        intro w1 hx0
        have hx1 := hx.trans hx0
        clear hx hx0
        have hx := hx1
        clear hx1
        clear HE
        cases q
        rotate_left
        · have hxy : x = y := of_decide_eq_true HQ.out.symm
          have HT2 : Hid (l.take (k + 1) = r.take (k + 1)) := Lib.hid (by rw [List.take_add_one, List.take_add_one, HT.out, e0, e1, hxy])
          clear HT
          go_wp2_with fail
          go_roundw
          case rel => exact ⟨k + 1, hlt, rfl, hx, HT2⟩
          case measure => simp [intOf]; omega
        · have hxy : ¬ x = y := of_decide_eq_false HQ.out.symm
          have hv : R = false := by
            rw [HV.out]
            refine decide_eq_false fun e => hxy ?_
            rw [e, e1] at e0
            exact (Option.some.inj e0).symm
          clear HV
          subst hv
          go_wp2_with fail
          (go_ret; refine Ret.mk ?_ ?_; (focus (rfl; done)); (focus (exact EX; done)))
      · obtain rfl : k = n := by omega
        have hv : R = true := by
          rw [HV.out]
          have h := HT.out
          rw [List.take_of_length_le (by rw [HN.out]; exact Nat.le_refl _), List.take_of_length_le (by rw [HM.out]; exact Nat.le_refl _)] at h
          exact decide_eq_true h
        clear HV
        subst hv
        go_wp2_with fail
        (go_ret; refine Ret.mk ?_ ?_; (focus (rfl; done)); (focus (exact EX; done)))
  · have hv : decide (l = r) = false := decide_eq_false fun e => hnm (by rw [← hn, ← hm, e])
    rw [hv]
    have hq : ((n : Int) == (m : Int)) = false := by simp; omega
    have hq2 : ¬ (n : Int) = (m : Int) := by omega
    go_enter Tryz.func35, Tryz.ntmps35
    have hx := Ext.refl w
    go_wp2_with fail
    (go_ret; refine Ret.mk ?_ ?_; (focus (rfl; done)); (focus (exact EX; done)))
end Go.Proofs.YtojfgidoobgcaaaGreatDoor
