/- Walks: the reference's approvals, what follows from the votes. -/
import Derived.Test.YtojfgidoobgcaaaGreatDoorNs
set_option linter.unusedSimpArgs false
set_option linter.unusedVariables false
namespace Go.Proofs.YtojfgidoobgcaaaGreatDoor
open Go Go.RowKit

set_option maxHeartbeats 4000000 in
/-- quiltref55.Approvals. -/
theorem rapprovals_any (c : List Value) (r : Rv) (w : World) {F : Nat → Prop} (h : Rev w F c r) (hf : r.Fits) (hvs : r.votes.length ≤ 4000000) :
    Calls Tryz.prog 13 #[.agg c.toArray] w (fun e w' => ∃ A c, e = .returned (.slice A (Vw.people r 1).length c) ∧ Sl w' A (Vw.people r 1).length c (Vw.people r 1) ∧ Ext w w') := by
  have HC : Hid (∀ W, Ext w W → Calls Tryz.prog 44 #[.agg c.toArray, .int .i64 1] W (fun e w' => ∃ A c, e = .returned (.slice A (Vw.people r 1).length c) ∧ Sl w' A (Vw.people r 1).length c (Vw.people r 1) ∧ Ext W w')) := Lib.hid fun W hW => people_any c r 1 W (Rev.steadfast.ext h hW) hf hvs
  obtain ⟨A, n, m, B, p, q, rfl, z1, z2⟩ := h
  clear z1 z2 hf hvs
  generalize Vw.people r 1 = L at HC ⊢
  go_enter Tryz.func13, Tryz.ntmps13
  have hx := Ext.refl w
  go_wp2_with fail
  refine (HC.out _ (hx.alloc _)).mono ?_
  rintro e w1 ⟨A1, c1, rfl, hsl, hx0⟩
  have HX := Lib.hid ((hx.alloc (.cells #[.int .i64 r.number, .string r.author, .string r.branch, .slice A n m, .int .i64 r.state, .slice B p q] 28)).trans hx0)
  have HS := Lib.hid hsl
  clear hx hx0 hsl HC
  go_wp2_with fail
  go_ret
  exact ⟨_, _, rfl, HS.out, HX.out⟩
set_option maxHeartbeats 4000000 in
/-- quiltref55.follows. -/
theorem follows_any (c : List Value) (r : Rv) (need : Int) (w : World) {F : Nat → Prop} (h : Rev w F c r) (hf : r.Fits) (hvs : r.votes.length ≤ 4000000) :
    Calls Tryz.prog 82 #[.agg c.toArray, .int .i64 need] w (Ret (.int .i64 (Vw.follows r need)) w) := by
  have HC : Hid (∀ W, Ext w W → ∀ op, Calls Tryz.prog 44 #[.agg c.toArray, .int .i64 op] W (fun e w' => ∃ A c, e = .returned (.slice A (Vw.people r op).length c) ∧ Sl w' A (Vw.people r op).length c (Vw.people r op) ∧ Ext W w')) := Lib.hid fun W hW op => people_any c r op W (Rev.steadfast.ext h hW) hf hvs
  obtain ⟨A, n, m, B, p, q, rfl, z1, z2⟩ := h
  clear z1 z2 hf hvs
  obtain ⟨R, hR⟩ : ∃ R, R = Vw.follows r need := ⟨_, rfl⟩
  have HR : Hid (R = if Vw.people r 2 ≠ [] then 3 else if need ≤ (Vw.people r 1).length then 2 else 1) := Lib.hid hR
  rw [← hR]
  clear hR
  go_enter Tryz.func82, Tryz.ntmps82
  have hx := Ext.refl w
  go_wp2_with fail
  refine (HC.out _ (hx.alloc _) 2).mono ?_
  rintro e w1 ⟨A1, c1, rfl, hsl, hx0⟩
  clear hsl
  have hy := Ext.trans (a := w) EX hx0; clear hx; have hx := hy; clear hy; have hn0 := BB hx0 (w.heap.size); (first | simp [↓heap_drew_at, ↓heap_drewN_at, ↓heap_alloc_at, ↓heap_set_at, ne_two, ne_three, ne_two_left, ne_three_left, ↓hb0.eq, hb0.lt, hb0.ne] at hn0 | simp [↓heap_drew_at, ↓heap_drewN_at, ↓heap_alloc_at, ↓heap_set_at, ne_two, ne_three, ne_two_left, ne_three_left] at hn0); (try clear hb0 hc0 hf0 hl0); have hb0 := Blk.mk hn0; clear hn0; obtain ⟨hc0, hf0, hl0⟩ := hb0.all; (try clear hx0)
  by_cases h2 : 0 < (Vw.people r 2).length
  · have k1 : decide (0 < ((Vw.people r 2).length : Int)) = true := decide_eq_true (by omega)
    have hv : R = 3 := by
      rw [HR.out, if_pos]
      intro e
      rw [e] at h2
      simp at h2
    clear HR
    generalize (Vw.people r 2).length = n2 at h2 k1 ⊢
    subst hv
    go_wp2_with fail
    (go_ret; refine Ret.mk ?_ ?_; (focus (rfl; done)); (focus (exact EX; done)))
  have hne : Vw.people r 2 = [] := List.length_eq_zero_iff.1 (by omega)
  have hv : R = if need ≤ (Vw.people r 1).length then 2 else 1 := by rw [HR.out, if_neg (by simp [hne])]
  have hz : (Vw.people r 2).length = 0 := by omega
  have HV := Lib.hid hv
  clear hv HR h2 hne
  generalize (Vw.people r 2).length = n2 at hz ⊢
  subst hz
  have HX := Lib.hid hx
  go_wp2_with fail
  refine (HC.out _ HX.out 1).mono ?_
  rintro e w2 ⟨A2, c2, rfl, hsl, hx0⟩
  have hx2 := HX.out.trans hx0
  clear hsl hx hx0
  have hx := hx2
  clear hx2
  generalize (Vw.people r 1).length = n1 at HV ⊢
  by_cases hn : need ≤ (n1 : Int)
  · have k2 : decide (need ≤ (n1 : Int)) = true := decide_eq_true hn
    have hv : R = 2 := by rw [HV.out, if_pos hn]
    clear HV
    subst hv
    go_wp2_with fail
    go_ret
    exact Ret.mk rfl hx
  · have k2 : decide (need ≤ (n1 : Int)) = false := decide_eq_false hn
    have hv : R = 1 := by rw [HV.out, if_neg hn]
    clear HV
    subst hv
    go_wp2_with fail
    go_ret
    exact Ret.mk rfl hx
end Go.Proofs.YtojfgidoobgcaaaGreatDoor
