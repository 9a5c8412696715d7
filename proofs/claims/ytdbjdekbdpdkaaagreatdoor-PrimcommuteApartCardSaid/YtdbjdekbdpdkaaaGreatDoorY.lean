/- Walks: is a patch larger than the statements use? -/
import Derived.Test.YtdbjdekbdpdkaaaGreatDoorX
set_option linter.unusedSimpArgs false
set_option linter.unusedVariables false
namespace Go.Proofs.YtdbjdekbdpdkaaaGreatDoor
open Go.RowKit
attribute [local go_sem ↓] Go.wp_at_zero Go.wp_at_succ

/-- The call returns a Bool; where it is false, p holds. -/
def Tells (p : Prop) (w : World) (e : Ending) (w' : World) : Prop := ∃ v : Bool, e = .returned (.bool v) ∧ (v = false → p) ∧ Ext w w'

set_option maxHeartbeats 4000000 in
set_option maxRecDepth 100000 in
theorem sgreat_any (A : Option Addr) (n c : Nat) (l : List ByteArray) (w : World) (h : Lst w A n l) (hn : n ≤ 1152921504606846976) :
    Calls Tryz.prog 58 #[.slice A n c] w (Tells (n ≤ 40) w) := by
  have H := Lib.hid h
  clear h
  go_enter Tryz.func58, Tryz.ntmps58
  have hx := Ext.refl w
  go_wp2_with fail
  go_loop [3, 4] (fun m i => ∃ (z : Int) (k : Nat), k ≤ n ∧ m = .int .i64 z ∧ i = .int .i64 k) (fun m i => n - (intOf i).toNat)
  case atStart => exact ⟨0, 0, Nat.zero_le _, rfl, rfl⟩
  case round =>
    obtain ⟨z, k, hk, rfl, rfl⟩ := hrel
    by_cases hlt : k < n
    · obtain ⟨bb, oo, rfl, _, hcl⟩ := H.out.2 (by omega)
      have hck := hcl k hlt
      generalize l.getD k ByteArray.empty = x at hck
      clear hcl
      go_wp2_with fail
      refine ⟨⟨_, k + 1, hlt, rfl, rfl⟩, ?_⟩
      simp [intOf]
      omega
    · obtain rfl : k = n := by omega
      go_wp2_with fail
      all_goals
        refine bodyPost_ret (v := .bool _) (by simp [results, Tryz.results58, go_sem]; rfl) rfl ?_
        refine ⟨_, rfl, fun h => ?_, (by (repeat (first | with_reducible exact hx | with_reducible exact Ext.refl _ | with_reducible refine Ext.alloc ?_ _ | with_reducible refine Ext.drewN ?_ _ | with_reducible refine Ext.drew1 ?_ | ((with_reducible refine Ext.setCell ?_ ?_ _); rotate_left; (focus (first | (dsimp only; omega) | (simp; done) | (simp; omega)))))))⟩
        first
          | omega
          | (exfalso; simp at h; done)
          | (simp at h; omega)

/-- A hunk's slice. -/
abbrev harr (p : Pv) : Array Value := #[.int .i64 p.at_, .slice p.A1 p.n1 p.c1, .slice p.A2 p.n2 p.c2]
set_option maxHeartbeats 4000000 in
set_option maxRecDepth 100000 in
theorem hgreat_any (g : Nat) (t : TypeId) (p : Pv) (o n : List ByteArray) (w : World) (hb : Blk w g t (harr p)) (h1 : Lst w p.A1 p.n1 o) (h2 : Lst w p.A2 p.n2 n) (b1 : p.n1 ≤ 1152921504606846976) (b2 : p.n2 ≤ 1152921504606846976) :
    Calls Tryz.prog 44 #[.slice (some ⟨g, 0, none⟩) 1 1] w (Tells (p.n1 ≤ 40 ∧ p.n2 ≤ 40) w) := by
  have H1 := Lib.hid h1
  have H2 := Lib.hid h2
  clear h1 h2
  have hcb := hb.cell
  have hlb := hb.lt
  go_enter Tryz.func44, Tryz.ntmps44
  have hx := Ext.refl w
  go_wp2_with fail
  refine wp_loop_rounds 2 ?_
  rw [rounds_succ]
  go_wp2_with fail
  refine (sgreat_any p.A1 p.n1 p.c1 o _ (by exact H1.out) b1).mono ?_
  rintro e w1 ⟨v1, rfl, k1, hx0⟩
  have hb' := hb.ext hx0
  have hcb' := hb'.cell
  have hlb' := hb'.lt
  cases v1
  · go_wp2_with fail
    refine (sgreat_any p.A2 p.n2 p.c2 n _ (H2.out.ext hx0) b2).mono ?_
    rintro e w2 ⟨v2, rfl, k2, hx1⟩
    have hb'' := hb'.ext hx1
    have hcb'' := hb''.cell
    have hlb'' := hb''.lt
    have hx := hx0.trans hx1
    cases v2
    · go_wp2_with fail
      go_quiet (fail)
      go_wp2_with fail
      rw [rounds_succ]
      go_wp2_with fail
      all_goals
        refine bodyPost_ret (v := .bool _) (by simp [results, Tryz.results44, go_sem]; rfl) rfl ?_
        exact ⟨_, rfl, (fun _ => ⟨k1 trivial, k2 trivial⟩), (by (repeat (first | with_reducible exact hx | with_reducible exact Ext.refl _ | with_reducible refine Ext.alloc ?_ _ | with_reducible refine Ext.drewN ?_ _ | with_reducible refine Ext.drew1 ?_ | ((with_reducible refine Ext.setCell ?_ ?_ _); rotate_left; (focus (first | (dsimp only; omega) | (simp; done) | (simp; omega)))))))⟩
    · go_wp2_with fail
      refine bodyPost_ret (v := .bool true) (by simp [results, Tryz.results44, go_sem]) rfl ?_
      exact ⟨_, rfl, (fun h => nomatch h), hx⟩
  · go_wp2_with fail
    refine bodyPost_ret (v := .bool true) (by simp [results, Tryz.results44, go_sem]) rfl ?_
    exact ⟨_, rfl, (fun h => nomatch h), hx0⟩

/-- A patch of the sizes of the statements. -/
structure Qp.Mild (q : Qp) : Prop where
  path : q.path.size ≤ 300
  to_ : q.to_.size ≤ 300
  old : q.old.length ≤ 40
  new : q.new.length ≤ 40
theorem Qp.Mild.fits {q : Qp} (h : q.Mild) : q.Fits := by
  have h1 := h.path
  have h2 := h.to_
  have h3 := h.old
  have h4 := h.new
  exact ⟨by omega, by omega, by omega, by omega⟩

set_option maxHeartbeats 8000000 in
set_option maxRecDepth 100000 in
theorem pgreat_any (p : Pv) (q : Qp) (w : World) {F : Nat → Prop} (h : Is w F p q) (b1 : q.old.length ≤ 1152921504606846976) (b2 : q.new.length ≤ 1152921504606846976) :
    Calls Tryz.prog 28 #[p.v] w (Tells q.Mild w) := by
  have H := Lib.hid h
  obtain ⟨A1, c1, A2, c2, rfl, ⟨h1, h2⟩, _⟩ := h
  have H1 := Lib.hid h1
  have H2 := Lib.hid h2
  clear h1 h2
  go_enter Tryz.func28, Tryz.ntmps28
  have hx := Ext.refl w
  go_wp2_with (go_at_call 44; refine (hgreat_any _ _ (q.pv A1 c1 A2 c2) q.old q.new _ (Blk.new' (by simp)) (H1.out.ext (by (repeat (first | with_reducible exact hx | with_reducible exact Ext.refl _ | with_reducible refine Ext.alloc ?_ _ | with_reducible refine Ext.drewN ?_ _ | with_reducible refine Ext.drew1 ?_ | ((with_reducible refine Ext.setCell ?_ ?_ _); rotate_left; (focus (first | (dsimp only; omega) | (simp; done) | (simp; omega)))))))).1 (H2.out.ext (by (repeat (first | with_reducible exact hx | with_reducible exact Ext.refl _ | with_reducible refine Ext.alloc ?_ _ | with_reducible refine Ext.drewN ?_ _ | with_reducible refine Ext.drew1 ?_ | ((with_reducible refine Ext.setCell ?_ ?_ _); rotate_left; (focus (first | (dsimp only; omega) | (simp; done) | (simp; omega)))))))).1 b1 b2).mono ?_; rintro e w1 ⟨v1, rfl, k1, hx0⟩; have hx1 := Ext.trans (a := w) (by (repeat (first | with_reducible exact hx | with_reducible exact Ext.refl _ | with_reducible refine Ext.alloc ?_ _ | with_reducible refine Ext.drewN ?_ _ | with_reducible refine Ext.drew1 ?_ | ((with_reducible refine Ext.setCell ?_ ?_ _); rotate_left; (focus (first | (dsimp only; omega) | (simp; done) | (simp; omega))))))) hx0)
  · refine bodyPost_ret (v := .bool _) (by simp only [results, Tryz.results28]; go_simp; rfl) rfl ?_
    refine ⟨_, rfl, (fun h => ?_), hx1⟩
    simp only [Bool.or_eq_false_iff] at h
    have hk := k1 h.2
    exact ⟨by omega, by omega, hk.1, hk.2⟩
  all_goals
    refine bodyPost_ret (v := .bool true) (by simp only [results, Tryz.results28]; go_simp) rfl ?_
    exact ⟨_, rfl, (fun h => nomatch h), (by (repeat (first | with_reducible exact hx | with_reducible exact Ext.refl _ | with_reducible refine Ext.alloc ?_ _ | with_reducible refine Ext.drewN ?_ _ | with_reducible refine Ext.drew1 ?_ | ((with_reducible refine Ext.setCell ?_ ?_ _); rotate_left; (focus (first | (dsimp only; omega) | (simp; done) | (simp; omega)))))))⟩

/-- The cells of two patches in a row. -/
abbrev parr2 (p r : Pv) : Array Value :=
  #[.int .i64 p.kind, .string p.path, .string p.to_, .int .i64 p.ty, .int .i64 p.at_, .slice p.A1 p.n1 p.c1, .slice p.A2 p.n2 p.c2, .int .i64 p.off, .string p.so, .string p.sn, .int .i64 p.om, .int .i64 p.nm,
    .int .i64 r.kind, .string r.path, .string r.to_, .int .i64 r.ty, .int .i64 r.at_, .slice r.A1 r.n1 r.c1, .slice r.A2 r.n2 r.c2, .int .i64 r.off, .string r.so, .string r.sn, .int .i64 r.om, .int .i64 r.nm]

set_option maxHeartbeats 8000000 in
set_option maxRecDepth 100000 in
theorem lgreat2_any (g : Nat) (t : TypeId) (p r : Pv) (a b : Qp) (w : World) (hb : Blk w g t (parr2 p r)) {F : Nat → Prop} (ha : Is w F p a) (hb2 : Is w F r b) (b1 : a.old.length ≤ 1152921504606846976) (b2 : a.new.length ≤ 1152921504606846976) (b3 : b.old.length ≤ 1152921504606846976) (b4 : b.new.length ≤ 1152921504606846976) :
    Calls Tryz.prog 12 #[.slice (some ⟨g, 0, none⟩) 2 2] w (Tells (a.Mild ∧ b.Mild) w) := by
  have H1 := Lib.hid ha
  have H2 := Lib.hid hb2
  clear ha hb2
  have hcb := hb.cell
  have hlb := hb.lt
  go_enter Tryz.func12, Tryz.ntmps12
  have hx := Ext.refl w
  go_wp2_with fail
  refine wp_loop_rounds 3 ?_
  rw [rounds_succ]
  go_wp2_with fail
  refine (pgreat_any p a _ H1.out b1 b2).mono ?_
  rintro e w1 ⟨v1, rfl, k1, hx0⟩
  have hb' := hb.ext hx0
  have hcb' := hb'.cell
  have hlb' := hb'.lt
  have K1 := Lib.hid k1
  clear k1 hcb hlb hb
  cases v1
  · go_wp2_with fail
    rw [rounds_succ]
    go_wp2_with fail
    refine (pgreat_any r b _ (H2.out.ext hx0) b3 b4).mono ?_
    rintro e w2 ⟨v2, rfl, k2, hx1⟩
    have hb'' := hb'.ext hx1
    have hcb'' := hb''.cell
    have hlb'' := hb''.lt
    have hx := hx0.trans hx1
    have K2 := Lib.hid k2
    clear k2 hcb' hlb' hb'
    cases v2
    · go_wp2_with fail
      rw [rounds_succ]
      go_wp2_with fail
      refine bodyPost_ret (v := .bool false) (by simp only [results, Tryz.results12]; go_simp) rfl ?_
      exact ⟨_, rfl, (fun _ => ⟨K1.out trivial, K2.out trivial⟩), hx⟩
    · go_wp2_with fail
      refine bodyPost_ret (v := .bool true) (by simp only [results, Tryz.results12]; go_simp) rfl ?_
      exact ⟨_, rfl, (fun h => nomatch h), hx⟩
  · go_wp2_with fail
    refine bodyPost_ret (v := .bool true) (by simp only [results, Tryz.results12]; go_simp) rfl ?_
    exact ⟨_, rfl, (fun h => nomatch h), hx0⟩

set_option maxHeartbeats 8000000 in
set_option maxRecDepth 100000 in
theorem lawgreat2_any (g : Nat) (t : TypeId) (p r : Pv) (a b : Qp) (w : World) (hb : Blk w g t (parr2 p r)) {F : Nat → Prop} (ha : Is w F p a) (hb2 : Is w F r b) (b1 : a.old.length ≤ 1152921504606846976) (b2 : a.new.length ≤ 1152921504606846976) (b3 : b.old.length ≤ 1152921504606846976) (b4 : b.new.length ≤ 1152921504606846976) :
    Calls Tryz.prog 4 #[.slice (some ⟨g, 0, none⟩) 2 2] w (Tells (a.Mild ∧ b.Mild) w) := by
  have H := Lib.hid (lgreat2_any g t p r a b w hb ha hb2 b1 b2 b3 b4)
  go_enter Tryz.func4, Tryz.ntmps4
  have hx := Ext.refl w
  go_wp2_with fail
  refine H.out.mono ?_
  rintro e w1 ⟨v1, rfl, k1, hx0⟩
  go_wp2_with fail
  refine bodyPost_ret (v := .bool v1) (by simp only [results, Tryz.results4]; go_simp) rfl ?_
  exact ⟨_, rfl, k1, hx0⟩
end Go.Proofs.YtdbjdekbdpdkaaaGreatDoor
