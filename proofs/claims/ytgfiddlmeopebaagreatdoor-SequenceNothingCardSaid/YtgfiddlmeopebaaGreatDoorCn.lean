/- Walks of layer 14: whether a sequence is large, with no tree. -/
import Derived.Test.YtgfiddlmeopebaaGreatDoorGr
set_option linter.unusedSimpArgs false
set_option linter.unusedVariables false
namespace Go.Proofs.YtgfiddlmeopebaaGreatDoor
open Go Go.RowKit
attribute [local go_sem ↓] Go.wp_at_zero Go.wp_at_succ

set_option maxHeartbeats 4000000 in
set_option maxRecDepth 100000 in
theorem g14_any (A : Option Addr) (c : Nat) (l : List Qp) (w : World) {F : Nat → Prop} (h : Qs w F A l) (hn : l.length ≤ 1152921504606846976) (hs : ∀ q ∈ l, q.old.length ≤ 1152921504606846976 ∧ q.new.length ≤ 1152921504606846976) :
    Calls Tryz.prog 38 #[.slice A l.length c] w (Tells (Small l) w) := by
  have H := Lib.hid (lgreat_any A c l w h hn hs)
  obtain ⟨n, Hn⟩ : ∃ n, Hid (n = l.length) := ⟨_, Lib.hid rfl⟩
  rw [← Hn.out] at H ⊢
  clear h hs hn
  by_cases h8 : 8 < n
  · have h8' : (8 : Int) < (n : Int) := by omega
    go_enter Tryz.func38, Tryz.ntmps38
    have hx := Ext.refl w
    go_wp2_with fail
    refine bodyPost_ret (v := .bool true) (by simp only [results, Tryz.results38]; go_simp) rfl ?_
    exact ⟨_, rfl, (fun h => nomatch h), hx⟩
  · have h8' : ¬ (8 : Int) < (n : Int) := by omega
    go_enter Tryz.func38, Tryz.ntmps38
    have hx := Ext.refl w
    go_wp2_with fail
    refine H.out.mono ?_
    rintro e w1 ⟨v1, rfl, k1, hx0⟩
    go_wp2_with fail
    refine bodyPost_ret (v := .bool v1) (by simp only [results, Tryz.results38]; go_simp) rfl ?_
    exact ⟨_, rfl, (fun h => ⟨by rw [← Hn.out]; omega, k1 h⟩), hx0⟩

set_option maxHeartbeats 4000000 in
set_option maxRecDepth 100000 in
/-- No tree is not great. -/
theorem greattree_nil (w : World) : Calls Tryz.prog 37 #[.slice none 0 0] w (Ret (.bool false) w) := by
  go_enter Tryz.func37, Tryz.ntmps37
  have hx := Ext.refl w
  go_wp2_with fail
  go_loopw [3, 4] (fun s i wr => s = Value.int .i64 0 ∧ i = Value.int .i64 0 ∧ Ext w wr) (fun s i wr => 0)
  case atStart => exact ⟨rfl, rfl, hx⟩
  case round =>
    obtain ⟨rfl, rfl, hx⟩ := hrel
    go_wp2_with fail
    (go_ret; refine Ret.mk ?_ ?_; (focus (rfl; done)); (focus ((repeat (first | with_reducible exact hx | with_reducible exact Ext.refl _ | with_reducible refine Ext.alloc ?_ _ | with_reducible refine Ext.drewN ?_ _ | with_reducible refine Ext.drew1 ?_ | ((with_reducible refine Ext.setCell ?_ ?_ _); rotate_left; (focus (first | (dsimp only; omega) | (simp; done) | (simp; omega)))))); done)))

set_option maxHeartbeats 4000000 in
set_option maxRecDepth 100000 in
theorem lawgreat14_any (A : Option Addr) (n c : Nat) (l : List Qp) (w : World) {F : Nat → Prop} (h : Qs w F A l) (hl : l.length = n) (hn : n ≤ 1152921504606846976) (hs : ∀ q ∈ l, q.old.length ≤ 1152921504606846976 ∧ q.new.length ≤ 1152921504606846976) :
    Calls Tryz.prog 15 #[.slice none 0 0, .slice A n c] w (Tells (Small l) w) := by
  have H : Hid (∀ W, Ext w W → Calls Tryz.prog 38 #[.slice A n c] W (Tells (Small l) W)) := Lib.hid fun W hW => by
    have := g14_any A c l W (h.ext hW) (by rw [hl]; exact hn) hs
    rwa [hl] at this
  clear h hs hn hl
  go_enter Tryz.func15, Tryz.ntmps15
  have hx := Ext.refl w
  go_wp2_with fail
  refine (greattree_nil _).mono ?_
  rintro e w1 ⟨rfl, hx0⟩
  have hx1 := hx.trans hx0
  clear hx hx0
  have hx := hx1
  clear hx1
  go_wp2_with fail
  refine (H.out _ hx).mono ?_
  rintro e w2 ⟨v2, rfl, k2, hx0⟩
  have hx1 := hx.trans hx0
  clear hx hx0
  have hx := hx1
  clear hx1
  go_wp2_with fail
  refine bodyPost_ret (v := .bool v2) (by simp only [results, Tryz.results15]; go_simp) rfl ?_
  exact ⟨_, rfl, k2, hx⟩
end Go.Proofs.YtgfiddlmeopebaaGreatDoor
