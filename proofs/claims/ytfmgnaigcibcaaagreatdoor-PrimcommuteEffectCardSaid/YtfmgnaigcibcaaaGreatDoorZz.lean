/- Walks: whether two patches are large. -/
import Derived.Test.YtfmgnaigcibcaaaGreatDoorQc
set_option linter.unusedSimpArgs false
set_option linter.unusedVariables false
namespace Go.Proofs.YtfmgnaigcibcaaaGreatDoor
open Go.RowKit
attribute [local go_sem ↓] Go.wp_at_zero Go.wp_at_succ

theorem Ext.of_alloc {w w' : World} {o : Obj} (h : Ext (w.alloc o) w') : Ext w w' := ((Ext.refl w).alloc o).trans h
/-- The cells of two patches in a row. -/
abbrev parr2 (p r : Pv) : Array Value :=
  #[.int .i64 p.kind, .string p.path, .string p.to_, .int .i64 p.ty, .int .i64 p.at_, .slice p.A1 p.n1 p.c1, .slice p.A2 p.n2 p.c2, .int .i64 p.off, .string p.so, .string p.sn, .int .i64 p.om, .int .i64 p.nm,
    .int .i64 r.kind, .string r.path, .string r.to_, .int .i64 r.ty, .int .i64 r.at_, .slice r.A1 r.n1 r.c1, .slice r.A2 r.n2 r.c2, .int .i64 r.off, .string r.so, .string r.sn, .int .i64 r.om, .int .i64 r.nm]

set_option maxHeartbeats 8000000 in
set_option maxRecDepth 100000 in
theorem lgreat2_any (g : Nat) (t : TypeId) (p r : Pv) (a b : Qp) (w : World) (hb : Blk w g t (parr2 p r)) {F : Nat → Prop} (ha : Is w F p a) (hb2 : Is w F r b) (b1 : a.old.length ≤ 1152921504606846976) (b2 : a.new.length ≤ 1152921504606846976) (b3 : b.old.length ≤ 1152921504606846976) (b4 : b.new.length ≤ 1152921504606846976) :
    Calls Tryz.prog 58 #[.slice (some ⟨g, 0, none⟩) 2 2] w (Tells (a.Mild ∧ b.Mild) w) := by
  have H1 := Lib.hid ha
  have H2 := Lib.hid hb2
  clear ha hb2
  have hcb := hb.cell
  have hlb := hb.lt
  go_enter Tryz.func58, Tryz.ntmps58
  have hx := Ext.refl w
  go_wp2_with fail
  refine wp_loop_rounds 3 ?_
  rw [rounds_succ]
  go_wp2_with fail
  refine (pgreat_any p a _ H1.out b1 b2).mono ?_
  rintro e w1 ⟨v1, rfl, k1, hx0⟩
  have hb' := hb.ext hx0
  have hcb' := hb'.cell
  have hlb' := hb'.lt
  have K1 := Lib.hid k1
  clear k1 hcb hlb hb
  cases v1
  · go_wp2_with fail
    rw [rounds_succ]
    go_wp2_with fail
    refine (pgreat_any r b _ (H2.out.ext hx0) b3 b4).mono ?_
    rintro e w2 ⟨v2, rfl, k2, hx1⟩
    have hb'' := hb'.ext hx1
    have hcb'' := hb''.cell
    have hlb'' := hb''.lt
    have hx := hx0.trans hx1
    have K2 := Lib.hid k2
    clear k2 hcb' hlb' hb'
    cases v2
    · go_wp2_with fail
      rw [rounds_succ]
      go_wp2_with fail
      refine bodyPost_ret (v := .bool false) (by simp only [results, Tryz.results58]; go_simp) rfl ?_
      exact ⟨_, rfl, (fun _ => ⟨K1.out trivial, K2.out trivial⟩), hx⟩
    · go_wp2_with fail
      refine bodyPost_ret (v := .bool true) (by simp only [results, Tryz.results58]; go_simp) rfl ?_
      exact ⟨_, rfl, (fun h => nomatch h), hx⟩
  · go_wp2_with fail
    refine bodyPost_ret (v := .bool true) (by simp only [results, Tryz.results58]; go_simp) rfl ?_
    exact ⟨_, rfl, (fun h => nomatch h), hx0⟩
end Go.Proofs.YtfmgnaigcibcaaaGreatDoor
