/- Walks: is a patch larger than the statements use? Walks: two equal patches are the same. -/
import Derived.Test.YtdbokolbheileaaGreatDoorX
set_option linter.unusedSimpArgs false
set_option linter.unusedVariables false
namespace Go.Proofs.YtdbokolbheileaaGreatDoor
open Go.RowKit
attribute [local go_sem ↓] Go.wp_at_zero Go.wp_at_succ

/-- The call returns a Bool; where it is false, p holds. -/
def Tells (p : Prop) (w : World) (e : Ending) (w' : World) : Prop := ∃ v : Bool, e = .returned (.bool v) ∧ (v = false → p) ∧ Ext w w'

set_option maxHeartbeats 4000000 in
set_option maxRecDepth 100000 in
theorem sgreat_any (A : Option Addr) (n c : Nat) (l : List ByteArray) (w : World) (h : Lst w A n l) (hn : n ≤ 1152921504606846976) :
    Calls Tryz.prog 57 #[.slice A n c] w (Tells (n ≤ 40) w) := by
  have H := Lib.hid h
  clear h
  go_enter Tryz.func57, Tryz.ntmps57
  have hx := Ext.refl w
  go_wp2_with fail
  go_loop [3, 4] (fun m i => ∃ (z : Int) (k : Nat), k ≤ n ∧ m = .int .i64 z ∧ i = .int .i64 k) (fun m i => n - (intOf i).toNat)
  case atStart => exact ⟨0, 0, Nat.zero_le _, rfl, rfl⟩
  case round =>
    obtain ⟨z, k, hk, rfl, rfl⟩ := hrel
    by_cases hlt : k < n
    · obtain ⟨bb, oo, rfl, _, hcl⟩ := H.out.2 (by omega)
      have hck := hcl k hlt
      generalize l.getD k ByteArray.empty = x at hck
      clear hcl
      go_wp2_with fail
      refine ⟨⟨_, k + 1, hlt, rfl, rfl⟩, ?_⟩
      simp [intOf]
      omega
    · obtain rfl : k = n := by omega
      go_wp2_with fail
      all_goals
        refine bodyPost_ret (v := .bool _) (by simp [results, Tryz.results57, go_sem]; rfl) rfl ?_
        refine ⟨_, rfl, fun h => ?_, EX⟩
        first
          | omega
          | (exfalso; simp at h; done)
          | (simp at h; omega)

/-- A hunk's slice. -/
abbrev harr (p : Pv) : Array Value := #[.int .i64 p.at_, .slice p.A1 p.n1 p.c1, .slice p.A2 p.n2 p.c2]
set_option maxHeartbeats 4000000 in
set_option maxRecDepth 100000 in
theorem hgreat_any (g : Nat) (t : TypeId) (p : Pv) (o n : List ByteArray) (w : World) (hb : Blk w g t (harr p)) (h1 : Lst w p.A1 p.n1 o) (h2 : Lst w p.A2 p.n2 n) (b1 : p.n1 ≤ 1152921504606846976) (b2 : p.n2 ≤ 1152921504606846976) :
    Calls Tryz.prog 35 #[.slice (some ⟨g, 0, none⟩) 1 1] w (Tells (p.n1 ≤ 40 ∧ p.n2 ≤ 40) w) := by
  have H1 := Lib.hid h1
  have H2 := Lib.hid h2
  clear h1 h2
  have hcb := hb.cell
  have hlb := hb.lt
  go_enter Tryz.func35, Tryz.ntmps35
  have hx := Ext.refl w
  go_wp2_with fail
  refine wp_loop_rounds 2 ?_
  rw [rounds_succ]
  go_wp2_with fail
  refine (sgreat_any p.A1 p.n1 p.c1 o _ (by exact H1.out) b1).mono ?_
  rintro e w1 ⟨v1, rfl, k1, hx0⟩
  have hb' := hb.ext hx0
  have hcb' := hb'.cell
  have hlb' := hb'.lt
  cases v1
  · go_wp2_with fail
    refine (sgreat_any p.A2 p.n2 p.c2 n _ (H2.out.ext hx0) b2).mono ?_
    rintro e w2 ⟨v2, rfl, k2, hx1⟩
    have hb'' := hb'.ext hx1
    have hcb'' := hb''.cell
    have hlb'' := hb''.lt
    have hx := hx0.trans hx1
    cases v2
    · go_wp2_with fail
      go_quiet (fail)
      go_wp2_with fail
      rw [rounds_succ]
      go_wp2_with fail
      all_goals
        refine bodyPost_ret (v := .bool _) (by simp [results, Tryz.results35, go_sem]; rfl) rfl ?_
        exact ⟨_, rfl, (fun _ => ⟨k1 trivial, k2 trivial⟩), EX⟩
    · go_wp2_with fail
      refine bodyPost_ret (v := .bool true) (by simp [results, Tryz.results35, go_sem]) rfl ?_
      exact ⟨_, rfl, (fun h => nomatch h), hx⟩
  · go_wp2_with fail
    refine bodyPost_ret (v := .bool true) (by simp [results, Tryz.results35, go_sem]) rfl ?_
    exact ⟨_, rfl, (fun h => nomatch h), hx0⟩

/-- A patch of the sizes of the statements. -/
structure Qp.Mild (q : Qp) : Prop where
  path : q.path.size ≤ 300
  to_ : q.to_.size ≤ 300
  old : q.old.length ≤ 40
  new : q.new.length ≤ 40
set_option maxHeartbeats 8000000 in
set_option maxRecDepth 100000 in
theorem pgreat_any (p : Pv) (q : Qp) (w : World) {F : Nat → Prop} (h : Is w F p q) (b1 : q.old.length ≤ 1152921504606846976) (b2 : q.new.length ≤ 1152921504606846976) :
    Calls Tryz.prog 16 #[p.v] w (Tells q.Mild w) := by
  have H := Lib.hid h
  obtain ⟨A1, c1, A2, c2, rfl, ⟨h1, h2⟩, _⟩ := h
  have H1 := Lib.hid h1
  have H2 := Lib.hid h2
  clear h1 h2
  go_enter Tryz.func16, Tryz.ntmps16
  have hx := Ext.refl w
  go_wp2_with (go_at_call 35; refine (hgreat_any _ _ (q.pv A1 c1 A2 c2) q.old q.new _ (Blk.new' (by simp)) (H1.out.ext EX).1 (H2.out.ext EX).1 b1 b2).mono ?_; rintro e w1 ⟨v1, rfl, k1, hx0⟩; have hx1 := Ext.trans (a := w) EX hx0)
  · refine bodyPost_ret (v := .bool _) (by simp only [results, Tryz.results16]; go_simp; rfl) rfl ?_
    refine ⟨_, rfl, (fun h => ?_), hx1⟩
    simp only [Bool.or_eq_false_iff] at h
    have hk := k1 h.2
    exact ⟨by omega, by omega, hk.1, hk.2⟩
  all_goals
    refine bodyPost_ret (v := .bool true) (by simp only [results, Tryz.results16]; go_simp) rfl ?_
    exact ⟨_, rfl, (fun h => nomatch h), EX⟩

end Go.Proofs.YtdbokolbheileaaGreatDoor
namespace Go.Proofs.YtdbokolbheileaaGreatDoor
open Go.RowKit
attribute [local go_sem ↓] Go.wp_at_zero Go.wp_at_succ

end Go.Proofs.YtdbokolbheileaaGreatDoor
