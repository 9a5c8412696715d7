/- Walks: equal votes, reviews, lists of reviews are the same to the reference. -/
import Derived.Test.YtojfgidoobgcaaaGreatDoorOg
set_option linter.unusedSimpArgs false
set_option linter.unusedVariables false
namespace Go.Proofs.YtojfgidoobgcaaaGreatDoor
open Go Go.RowKit

set_option maxHeartbeats 16000000 in
set_option maxRecDepth 100000 in
/-- quiltref55.SameVotes of equal votes. -/
theorem samevotes_true (A B : Option Addr) (n c m d : Nat) (l : List Vt) (w : World) (h : Vs w All A l) (k : Vs w All B l) (hn : l.length = n) (hm : l.length = m) (hb : n ≤ 1000000000) (hf : ∀ v ∈ l, v.Fits) :
    Calls Tryz.prog 58 #[.slice A n c, .slice B m d] w (Ret (.bool true) w) := by
  obtain rfl : n = m := by omega
  have HA := Lib.hid h
  have HB := Lib.hid k
  have HN := Lib.hid hn
  have HF := Lib.hid hf
  clear h k hn hm hf
  go_enter Tryz.func58, Tryz.ntmps58
  have hx := Ext.refl w
  go_wp2_with fail
  go_loopw [5] (fun i wr => ∃ k : Nat, k ≤ n ∧ i = .int .i64 k ∧ Ext w wr) (fun i wr => n - (intOf i).toNat)
  case atStart => exact ⟨0, Nat.zero_le _, rfl, hx⟩
  case round =>
    clear hx
    obtain ⟨k, hk, rfl, hx⟩ := hrel
    by_cases hlt : k < n
    · have hkl : k < l.length := by rw [HN.out]; exact hlt
      have e0 : l[k]? = some l[k] := List.getElem?_eq_getElem _
      have fv := HF.out _ (List.mem_of_getElem? e0)
      obtain ⟨b, o, cs, rfl, hbl, _, _, hr, hvt⟩ := (Vs.ext HA.out hx).get e0
      obtain ⟨b', o', cs', rfl, hbl', _, _, hr', hvt'⟩ := (Vs.ext HB.out hx).get e0
      generalize l[k] = v at e0 hvt hvt' fv
      obtain ⟨A', n', m', rfl, hn', hm', hd⟩ := hvt
      obtain ⟨B', p', q', rfl, hp', hq', hd'⟩ := hvt'
      obtain ⟨c0, c1, c2, c3⟩ := cells4 hr
      obtain ⟨d0, d1, d2, d3⟩ := cells4 hr'
      have f3 : n' ≤ 1000000000 := by rw [← hn']; exact fv.ids
      have f4 : p' ≤ 1000000000 := by rw [← hp']; exact fv.ids
      have HC : Hid (∀ W, Ext wr W → Calls Tryz.prog 35 #[.slice A' n' m', .slice B' p' q'] W (Ret (.bool true) W)) := Lib.hid fun W hW => by
        have := dsame_any A' B' n' m' p' q' v.ids v.ids W (Ds.ext hd hW) (Ds.ext hd' hW) hn' hp' f3 f4
        rwa [decide_eq_true rfl] at this
      have HC0 : Hid (∀ W, Ext wr W → W.cell? ⟨b, o + k * 4, none⟩ = some (.string v.who) ∧ W.cell? ⟨b, o + k * 4 + 1, none⟩ = some (.int .i64 v.kind) ∧ W.cell? ⟨b, o + k * 4 + 2, none⟩ = some (.string v.text) ∧ W.cell? ⟨b, o + k * 4 + 3, none⟩ = some (.slice A' n' m')) := Lib.hid fun W hW =>
        ⟨(hW.cell (p := ⟨b, _, none⟩) hbl).trans c0, (hW.cell (p := ⟨b, _, none⟩) hbl).trans c1, (hW.cell (p := ⟨b, _, none⟩) hbl).trans c2, (hW.cell (p := ⟨b, _, none⟩) hbl).trans c3⟩
      have HC1 : Hid (∀ W, Ext wr W → W.cell? ⟨b', o' + k * 4, none⟩ = some (.string v.who) ∧ W.cell? ⟨b', o' + k * 4 + 1, none⟩ = some (.int .i64 v.kind) ∧ W.cell? ⟨b', o' + k * 4 + 2, none⟩ = some (.string v.text) ∧ W.cell? ⟨b', o' + k * 4 + 3, none⟩ = some (.slice B' p' q')) := Lib.hid fun W hW =>
        ⟨(hW.cell (p := ⟨b', _, none⟩) hbl').trans d0, (hW.cell (p := ⟨b', _, none⟩) hbl').trans d1, (hW.cell (p := ⟨b', _, none⟩) hbl').trans d2, (hW.cell (p := ⟨b', _, none⟩) hbl').trans d3⟩
      have HX := Lib.hid hx
      clear hr hr' hn' hm' hd hp' hq' hd' hx c0 c1 c2 c3 d0 d1 d2 d3 fv e0 hkl hk hbl hbl'
      go_upto_region 6 with fail
      refine wp_region_ext (by kernel_rfl) (by kernel_rfl) ?_
      repeat (first | go_big_quiet_skip | (go_big_quiet_want; first | (go_big_quiet_op; go_big_quiet_on) | (apply quiet_at; intro W hW; have hc0 := HC0.out W hW; have hc1 := HC1.out W hW; go_simp; (first | exact rfl | (simp only [Oper.quietUpon, true_and]; first | exact rfl | (go_at_call 35; exact quiet_call hW (HC.out W hW) (fun _ _ h => h))) | (go_at_call 35; exact quiet_call hW (HC.out W hW) (fun _ _ h => h))); go_big_quiet_on; simp only [Act.put, sA, s0, sS])))
      refine wpQuiet_nil ?_
      intro w2 hx2
      have HX2 := Lib.hid (HX.out.trans hx2)
      clear hx2 HC0 HC1 HC
      go_wp2_with fail
      go_roundw
      case rel => exact ⟨k + 1, hlt, rfl, HX2.out⟩
      case measure => simp [intOf]; omega
    · obtain rfl : k = n := by omega
      have HX := Lib.hid hx
      go_wp2_with fail
      go_ret
      exact Ret.mk rfl HX.out
set_option maxHeartbeats 16000000 in
set_option maxRecDepth 100000 in
/-- quiltref55.SameReview of equal reviews. -/
theorem samereview_true (c d : List Value) (r : Rv) (w : World) (h : Rev w All c r) (k : Rev w All d r) (hf : r.Fits) :
    Calls Tryz.prog 33 #[.agg c.toArray, .agg d.toArray] w (Ret (.bool true) w) := by
  obtain ⟨A, n, m, B, p, q, rfl, ⟨hn, hm, hd⟩, hp, hpq, hv⟩ := h
  obtain ⟨A', n', m', B', p', q', rfl, ⟨hn', hm', hd'⟩, hp', hpq', hv'⟩ := k
  have f1 : n ≤ 1000000000 := by rw [← hn]; exact hf.ids
  have f2 : n' ≤ 1000000000 := by rw [← hn']; exact hf.ids
  have f3 : p ≤ 1000000000 := by rw [← hp]; exact hf.votes
  have HC : Hid (∀ W, Ext w W → Calls Tryz.prog 35 #[.slice A n m, .slice A' n' m'] W (Ret (.bool true) W)) := Lib.hid fun W hW => by
    have := dsame_any A A' n m n' m' r.ids r.ids W (Ds.ext hd hW) (Ds.ext hd' hW) hn hn' f1 f2
    rwa [decide_eq_true rfl] at this
  have HV : Hid (∀ W, Ext w W → Calls Tryz.prog 58 #[.slice B p q, .slice B' p' q'] W (Ret (.bool true) W)) := Lib.hid fun W hW => samevotes_true B B' p q p' q' r.votes W (Vs.ext hv hW) (Vs.ext hv' hW) hp hp' f3 hf.each
  clear hn hm hd hp hpq hv hn' hm' hd' hp' hpq' hv' hf
  go_enter Tryz.func33, Tryz.ntmps33
  have hx := Ext.refl w
  go_wp2_with fail
  refine (HC.out _ ((hx.alloc _).alloc _)).mono ?_
  rintro e w1 ⟨rfl, hx0⟩
  have hb0 := Blk.ext hx0 (Blk.alloc (Blk.new' (w := w) (g := w.heap.size) (cs := #[.int .i64 r.number, .string r.author, .string r.branch, .slice A n m, .int .i64 r.state, .slice B p q]) (t := 28) rfl) (.cells #[.int .i64 r.number, .string r.author, .string r.branch, .slice A' n' m', .int .i64 r.state, .slice B' p' q'] 28))
  have hb1 := Blk.ext hx0 (Blk.new' (w := w.alloc (.cells #[.int .i64 r.number, .string r.author, .string r.branch, .slice A n m, .int .i64 r.state, .slice B p q] 28)) (g := w.heap.size + 1) (cs := #[.int .i64 r.number, .string r.author, .string r.branch, .slice A' n' m', .int .i64 r.state, .slice B' p' q']) (t := 28) (by simp))
  have HX := Lib.hid (((hx.alloc _).alloc _).trans hx0)
  obtain ⟨hc0, hf0, hl0⟩ := hb0.all
  obtain ⟨hc1, hf1, hl1⟩ := hb1.all
  clear hx hx0 HC hb0 hb1
  go_wp2_with fail
  refine (HV.out _ HX.out).mono ?_
  rintro e w2 ⟨rfl, hx0⟩
  have HX2 := Lib.hid (HX.out.trans hx0)
  clear hx0 HV hc0 hf0 hl0 hc1 hf1 hl1
  go_wp2_with fail
  go_ret
  exact Ret.mk rfl HX2.out
set_option maxHeartbeats 16000000 in
set_option maxRecDepth 100000 in
/-- quiltref55.Same of equal reviews. -/
theorem sameall_true (A B : Option Addr) (n c m d : Nat) (l : List Rv) (w : World) (h : Rs w All A l) (k : Rs w All B l) (hn : l.length = n) (hm : l.length = m) (hb : n ≤ 1000000000) (hf : ∀ r ∈ l, r.Fits) :
    Calls Tryz.prog 29 #[.slice A n c, .slice B m d] w (Ret (.bool true) w) := by
  obtain rfl : n = m := by omega
  have HA := Lib.hid h
  have HB := Lib.hid k
  have HN := Lib.hid hn
  have HF := Lib.hid hf
  clear h k hn hm hf
  go_enter Tryz.func29, Tryz.ntmps29
  have hx := Ext.refl w
  go_wp2_with fail
  go_loopw [5] (fun i wr => ∃ k : Nat, k ≤ n ∧ i = .int .i64 k ∧ Ext w wr) (fun i wr => n - (intOf i).toNat)
  case atStart => exact ⟨0, Nat.zero_le _, rfl, hx⟩
  case round =>
    clear hx
    obtain ⟨k, hk, rfl, hx⟩ := hrel
    by_cases hlt : k < n
    · have hkl : k < l.length := by rw [HN.out]; exact hlt
      have e0 : l[k]? = some l[k] := List.getElem?_eq_getElem _
      have fv := HF.out _ (List.mem_of_getElem? e0)
      obtain ⟨b, o, cs, rfl, hbl, _, _, hr, hvt⟩ := (Rs.ext HA.out hx).get e0
      obtain ⟨b', o', cs', rfl, hbl', _, _, hr', hvt'⟩ := (Rs.ext HB.out hx).get e0
      generalize l[k] = r at e0 hvt hvt' fv
      have HC : Hid (∀ W, Ext wr W → Calls Tryz.prog 33 #[.agg cs.toArray, .agg cs'.toArray] W (Ret (.bool true) W)) := Lib.hid fun W hW => samereview_true cs cs' r W (Rev.steadfast.ext hvt hW) (Rev.steadfast.ext hvt' hW) fv
      obtain ⟨A', n', m', P', p', q', rfl, _, _, _, _⟩ := hvt
      obtain ⟨A2, n2, m2, P2, p2, q2, rfl, _, _, _, _⟩ := hvt'
      have HC0 : Hid (∀ W, Ext wr W → W.rangeAt b (o + k * 6) [.int .i64 r.number, .string r.author, .string r.branch, .slice A' n' m', .int .i64 r.state, .slice P' p' q']) := Lib.hid fun W hW j v hv => (hW.cell (p := ⟨b, _, none⟩) hbl).trans (hr j v hv)
      have HC1 : Hid (∀ W, Ext wr W → W.rangeAt b' (o' + k * 6) [.int .i64 r.number, .string r.author, .string r.branch, .slice A2 n2 m2, .int .i64 r.state, .slice P2 p2 q2]) := Lib.hid fun W hW j v hv => (hW.cell (p := ⟨b', _, none⟩) hbl').trans (hr' j v hv)
      have HX := Lib.hid hx
      clear hr hr' hx fv e0 hkl hk hbl hbl'
      go_upto_region 6 with fail
      refine wp_region_ext (by kernel_rfl) (by kernel_rfl) ?_
      repeat (first | go_big_quiet_want; refine quiet_load 28 _ rfl b (o + k * 6) rfl _ _ HC0.out Tryz.underlying28 rfl (by kernel_rfl) ?_; go_big_quiet_on; simp only [Act.put, sA, s0, sS] | go_big_quiet_want; refine quiet_load 28 _ rfl b' (o' + k * 6) rfl _ _ HC1.out Tryz.underlying28 rfl (by kernel_rfl) ?_; go_big_quiet_on; simp only [Act.put, sA, s0, sS] | (first | go_big_quiet_skip | (go_big_quiet_want; first | (go_big_quiet_op; go_big_quiet_on) | (apply quiet_at; intro W hW; go_simp; (first | exact rfl | (simp only [Oper.quietUpon, true_and]; first | exact rfl | (go_at_call 33; exact quiet_call hW (HC.out W hW) (fun _ _ h => h))) | (go_at_call 33; exact quiet_call hW (HC.out W hW) (fun _ _ h => h))); go_big_quiet_on; simp only [Act.put, sA, s0, sS]))))
      refine wpQuiet_nil ?_
      intro w2 hx2
      have HX2 := Lib.hid (HX.out.trans hx2)
      clear hx2 HC0 HC1 HC
      go_wp2_with fail
      go_roundw
      case rel => exact ⟨k + 1, hlt, rfl, HX2.out⟩
      case measure => simp [intOf]; omega
    · obtain rfl : k = n := by omega
      have HX := Lib.hid hx
      go_wp2_with fail
      go_ret
      exact Ret.mk rfl HX.out
end Go.Proofs.YtojfgidoobgcaaaGreatDoor
