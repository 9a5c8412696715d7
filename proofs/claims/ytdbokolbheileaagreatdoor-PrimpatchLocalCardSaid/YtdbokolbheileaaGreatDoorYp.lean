/- Walks: the reference's Same of two patches. No condition. -/
import Derived.Test.YtdbokolbheileaaGreatDoorQ
import Derived.Test.YtdbokolbheileaaGreatDoorYj
set_option linter.unusedSimpArgs false
set_option linter.unusedVariables false
namespace Go.Proofs.YtdbokolbheileaaGreatDoor
open Go.RowKit
attribute [local go_sem ↓] Go.wp_at_zero Go.wp_at_succ

theorem bytes_ne {x y : ByteArray} (h : x ≠ y) : (x.toList == y.toList) = false := by
  cases e : (x.toList == y.toList)
  · rfl
  · exact (h (Qm.eqB_iff.1 (show Qm.eqB x y = true from e))).elim
set_option maxHeartbeats 4000000 in
set_option maxRecDepth 100000 in
/-- Two rows of one hunk each. -/
theorem hsame_any (g g' : Nat) (t t' : TypeId) (p p' : Pv) (o n o' n' : List ByteArray) (w : World) (hb : Blk w g t (harr p)) (hb2 : Blk w g' t' (harr p'))
    (h1 : Lst w p.A1 p.n1 o) (h2 : Lst w p.A2 p.n2 n) (h3 : Lst w p'.A1 p'.n1 o') (h4 : Lst w p'.A2 p'.n2 n') (b1 : p.n1 ≤ 1152921504606846976) (b2 : p.n2 ≤ 1152921504606846976) (b3 : p'.n1 ≤ 1152921504606846976) (b4 : p'.n2 ≤ 1152921504606846976) :
    Calls Tryz.prog 44 #[.slice (some ⟨g, 0, none⟩) 1 1, .slice (some ⟨g', 0, none⟩) 1 1] w (Ret (.bool (p.at_ == p'.at_ && (decide (o = o') && decide (n = n')))) w) := by
  have q1 : ∀ W, Ext w W → Calls Tryz.prog 27 #[.slice p.A1 p.n1 p.c1, .slice p'.A1 p'.n1 p'.c1] W (Ret (.bool (decide (o = o'))) W) := fun W hW => rsame_any _ _ _ _ _ _ o o' W (h1.ext hW) (h3.ext hW) b1 b3
  have q2 : ∀ W, Ext w W → Calls Tryz.prog 27 #[.slice p.A2 p.n2 p.c2, .slice p'.A2 p'.n2 p'.c2] W (Ret (.bool (decide (n = n'))) W) := fun W hW => rsame_any _ _ _ _ _ _ n n' W (h2.ext hW) (h4.ext hW) b2 b4
  generalize decide (o = o') = x1 at q1 ⊢
  generalize decide (n = n') = x2 at q2 ⊢
  have Q1 := Lib.hid q1
  have Q2 := Lib.hid q2
  have hcb0 : ∀ W, Ext w W → ∀ i, W.cell? ⟨g, i, none⟩ = (#[.int .i64 p.at_, .slice p.A1 p.n1 p.c1, .slice p.A2 p.n2 p.c2] : Array Value)[i]? := fun W hW => (hb.ext hW).cell
  have hcb1 : ∀ W, Ext w W → ∀ i, W.cell? ⟨g', i, none⟩ = (#[.int .i64 p'.at_, .slice p'.A1 p'.n1 p'.c1, .slice p'.A2 p'.n2 p'.c2] : Array Value)[i]? := fun W hW i => (hb2.ext hW).cell i
  generalize p.at_ = k1 at hcb0 ⊢
  generalize p'.at_ = k2 at hcb1 ⊢
  have HC0 := Lib.hid hcb0
  have HC1 := Lib.hid hcb1
  clear q1 q2 h1 h2 h3 h4 hcb0 hcb1 hb hb2
  by_cases hk : k1 = k2
  rotate_left
  · have hv : (k1 == k2 && (x1 && x2)) = false := by simp [hk]
    have hk1 : (k1 == k2) = false := by simp [hk]
    have hk2 : (k1 != k2) = true := by simp [hk]
    rw [hv]
    clear hv hk
    go_enter Tryz.func44, Tryz.ntmps44
    have hx := Ext.refl w
    have hc0 := HC0.out w hx
    have hc1 := HC1.out w hx
    go_wp2_with fail
    refine wp_loop_rounds 2 ?_
    rw [rounds_succ]
    go_wp2_with fail
    refine wp_region_ext (by kernel_rfl) (by kernel_rfl) ?_
    clear hc0 hc1
    repeat (first | go_big_quiet_skip | (go_big_quiet_want; first | (go_big_quiet_op; go_big_quiet_on) | (apply quiet_at; intro W hW; have hc0 := HC0.out W hW; have hc1 := HC1.out W hW; go_simp; (first | exact rfl | (simp only [Oper.quietUpon, true_and]; first | exact rfl | ((first | (go_at_call 27; first | with_reducible exact quiet_call hW (Q1.out _ hW) (fun _ _ h => Ret.bcell h) | with_reducible exact quiet_call hW (Q2.out _ hW) (fun _ _ h => Ret.bcell h))))) | ((first | (go_at_call 27; first | with_reducible exact quiet_call hW (Q1.out _ hW) (fun _ _ h => Ret.bcell h) | with_reducible exact quiet_call hW (Q2.out _ hW) (fun _ _ h => Ret.bcell h))))); go_big_quiet_on; simp only [Act.put, sA, s0, sS])))
    refine wpQuiet_nil ?_
    intro w1 hx0
    clear hx
    have hx := hx0
    clear hx0
    have hc0 := HC0.out w1 hx
    have hc1 := HC1.out w1 hx
    go_wp2_with fail
    (go_ret; refine Ret.mk ?_ ?_; (focus (rfl; done)); (focus (exact EX; done)))
  subst hk
  rw [beq_self_eq_true, Bool.true_and]
  cases x1
  · rw [Bool.false_and]
    go_enter Tryz.func44, Tryz.ntmps44
    have hx := Ext.refl w
    have hc0 := HC0.out w hx
    have hc1 := HC1.out w hx
    go_wp2_with fail
    refine wp_loop_rounds 2 ?_
    rw [rounds_succ]
    go_wp2_with fail
    refine wp_region_ext (by kernel_rfl) (by kernel_rfl) ?_
    clear hc0 hc1
    repeat (first | go_big_quiet_skip | (go_big_quiet_want; first | (go_big_quiet_op; go_big_quiet_on) | (apply quiet_at; intro W hW; have hc0 := HC0.out W hW; have hc1 := HC1.out W hW; go_simp; (first | exact rfl | (simp only [Oper.quietUpon, true_and]; first | exact rfl | ((first | (go_at_call 27; first | with_reducible exact quiet_call hW (Q1.out _ hW) (fun _ _ h => Ret.bcell h) | with_reducible exact quiet_call hW (Q2.out _ hW) (fun _ _ h => Ret.bcell h))))) | ((first | (go_at_call 27; first | with_reducible exact quiet_call hW (Q1.out _ hW) (fun _ _ h => Ret.bcell h) | with_reducible exact quiet_call hW (Q2.out _ hW) (fun _ _ h => Ret.bcell h))))); go_big_quiet_on; simp only [Act.put, sA, s0, sS])))
    refine wpQuiet_nil ?_
    intro w1 hx0
    clear hx
    have hx := hx0
    clear hx0
    have hc0 := HC0.out w1 hx
    have hc1 := HC1.out w1 hx
    go_wp2_with fail
    (go_ret; refine Ret.mk ?_ ?_; (focus (rfl; done)); (focus (exact EX; done)))
  rw [Bool.true_and]
  cases x2
  · skip
    go_enter Tryz.func44, Tryz.ntmps44
    have hx := Ext.refl w
    have hc0 := HC0.out w hx
    have hc1 := HC1.out w hx
    go_wp2_with fail
    refine wp_loop_rounds 2 ?_
    rw [rounds_succ]
    go_wp2_with fail
    refine wp_region_ext (by kernel_rfl) (by kernel_rfl) ?_
    clear hc0 hc1
    repeat (first | go_big_quiet_skip | (go_big_quiet_want; first | (go_big_quiet_op; go_big_quiet_on) | (apply quiet_at; intro W hW; have hc0 := HC0.out W hW; have hc1 := HC1.out W hW; go_simp; (first | exact rfl | (simp only [Oper.quietUpon, true_and]; first | exact rfl | ((first | (go_at_call 27; first | with_reducible exact quiet_call hW (Q1.out _ hW) (fun _ _ h => Ret.bcell h) | with_reducible exact quiet_call hW (Q2.out _ hW) (fun _ _ h => Ret.bcell h))))) | ((first | (go_at_call 27; first | with_reducible exact quiet_call hW (Q1.out _ hW) (fun _ _ h => Ret.bcell h) | with_reducible exact quiet_call hW (Q2.out _ hW) (fun _ _ h => Ret.bcell h))))); go_big_quiet_on; simp only [Act.put, sA, s0, sS])))
    refine wpQuiet_nil ?_
    intro w1 hx0
    clear hx
    have hx := hx0
    clear hx0
    have hc0 := HC0.out w1 hx
    have hc1 := HC1.out w1 hx
    go_wp2_with fail
    (go_ret; refine Ret.mk ?_ ?_; (focus (rfl; done)); (focus (exact EX; done)))
  go_enter Tryz.func44, Tryz.ntmps44
  have hx := Ext.refl w
  have hc0 := HC0.out w hx
  have hc1 := HC1.out w hx
  go_wp2_with fail
  refine wp_loop_rounds 2 ?_
  rw [rounds_succ]
  go_wp2_with fail
  refine wp_region_ext (by kernel_rfl) (by kernel_rfl) ?_
  clear hc0 hc1
  repeat (first | go_big_quiet_skip | (go_big_quiet_want; first | (go_big_quiet_op; go_big_quiet_on) | (apply quiet_at; intro W hW; have hc0 := HC0.out W hW; have hc1 := HC1.out W hW; go_simp; (first | exact rfl | (simp only [Oper.quietUpon, true_and]; first | exact rfl | ((first | (go_at_call 27; first | with_reducible exact quiet_call hW (Q1.out _ hW) (fun _ _ h => Ret.bcell h) | with_reducible exact quiet_call hW (Q2.out _ hW) (fun _ _ h => Ret.bcell h))))) | ((first | (go_at_call 27; first | with_reducible exact quiet_call hW (Q1.out _ hW) (fun _ _ h => Ret.bcell h) | with_reducible exact quiet_call hW (Q2.out _ hW) (fun _ _ h => Ret.bcell h))))); go_big_quiet_on; simp only [Act.put, sA, s0, sS])))
  refine wpQuiet_nil ?_
  intro w1 hx0
  clear hx
  have hx := hx0
  clear hx0
  have hc0 := HC0.out w1 hx
  have hc1 := HC1.out w1 hx
  go_wp2_with fail
  rw [rounds_succ]
  go_wp2_with fail
  (go_ret; refine Ret.mk ?_ ?_; (focus (rfl; done)); (focus (exact EX; done)))

end Go.Proofs.YtdbokolbheileaaGreatDoor
