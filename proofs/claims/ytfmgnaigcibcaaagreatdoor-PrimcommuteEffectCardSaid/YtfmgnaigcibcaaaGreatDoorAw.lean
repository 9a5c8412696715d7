/- Walks: the chapter's examples of commuting. -/
import Derived.Test.YtfmgnaigcibcaaaGreatDoorZz
import Derived.Test.YtfmgnaigcibcaaaGreatDoorQc
set_option linter.unusedSimpArgs false
set_option linter.unusedVariables false
namespace Go.Proofs.YtfmgnaigcibcaaaGreatDoor
open Go.RowKit
attribute [local go_sem ↓] Go.wp_at_zero Go.wp_at_succ

def exAdd : Qp := { Qp.zero with kind := 1, path := ⟨#[100, 47, 102]⟩, ty := 2 }
def exMove (a b : ByteArray) : Qp := { Qp.zero with kind := 5, path := a, to_ := b }
def exRem : Qp := { Qp.zero with kind := 2, path := ⟨#[100, 47, 102]⟩, ty := 2 }
def exDir : Qp := { Qp.zero with kind := 4, path := ⟨#[100]⟩ }
theorem ex_first : exAdd.commute (exMove ⟨#[100]⟩ ⟨#[101]⟩) = (exMove ⟨#[100]⟩ ⟨#[101]⟩, { exAdd with path := ⟨#[101, 47, 102]⟩ }, true) := by kernel_rfl
theorem ex_twice : ((exMove ⟨#[120]⟩ ⟨#[112]⟩).commute (exMove ⟨#[112]⟩ ⟨#[113]⟩)).2.2 = false := by kernel_rfl
theorem ex_dir : (exRem.commute exDir).2.2 = false := by kernel_rfl

set_option maxHeartbeats 4000000 in
set_option maxRecDepth 100000 in
theorem indep_any (p p' : Pv) (a b : Qp) (w : World) (hg : Glob w) {F : Nat → Prop} (ha : Is w F p a) (hb : Is w F p' b) (fa : a.Fits) (fb : b.Fits) :
    Calls Tryz.prog 60 #[p.v, p'.v] w (Ret (.bool (a.commute b).2.2) w) := by
  have H := Lib.hid (fun W (hW : Ext w W) => commute_any p p' a b W (hg.ext hW) (ha.ext hW) (hb.ext hW) fa fb)
  generalize a.commute b = R at H ⊢
  obtain ⟨c, d, k⟩ := R
  clear ha hb hg
  go_enter Tryz.func60, Tryz.ntmps60
  have hx := Ext.refl w
  go_wp2_with fail
  refine (H.out _ EX).mono ?_
  rintro e w1 ⟨P1, P2, rfl, _, _, hx0⟩
  have hx1 := Ext.trans (a := w) EX hx0
  clear hx hx0
  have hx := hx1
  clear hx1
  go_wp2_with fail
  (go_ret; refine Ret.mk ?_ ?_; (focus (rfl; done)); (focus (exact EX; done)))

set_option maxHeartbeats 4000000 in
set_option maxRecDepth 100000 in
theorem exMove_any (a b : ByteArray) (w : World) :
    Calls Tryz.prog 59 #[.string a, .string b] w (Ret ((exMove a b).pv none 0 none 0).v w) := by
  go_enter Tryz.func59, Tryz.ntmps59
  have hx := Ext.refl w
  go_wp2_with fail
  refine bodyPost_ret (v := ((exMove a b).pv none 0 none 0).v) ?_ rfl ?_
  · simp only [results, Tryz.results59]
    go_simp
    simp [exMove, Qp.zero]
  · exact ⟨rfl, EX⟩

theorem zero_fits (q : Qp) (h1 : q.old = []) (h2 : q.new = []) (h3 : q.path.size ≤ 300) (h4 : q.to_.size ≤ 300) : q.Fits :=
  ⟨by rw [h1]; exact Nat.zero_le _, by rw [h2]; exact Nat.zero_le _, by omega, by omega⟩
theorem ex_first_any (w : World) (hg : Glob w) : ∀ W, Ext w W → Calls Tryz.prog 31 #[(exAdd.pv none 0 none 0).v, ((exMove ⟨#[100]⟩ ⟨#[101]⟩).pv none 0 none 0).v] W (GivesTwo (fun _ => False) (exMove ⟨#[100]⟩ ⟨#[101]⟩, { exAdd with path := ⟨#[101, 47, 102]⟩ }, true) W) := fun W hW => by
  have h := commute_any (exAdd.pv none 0 none 0) ((exMove ⟨#[100]⟩ ⟨#[101]⟩).pv none 0 none 0) exAdd (exMove ⟨#[100]⟩ ⟨#[101]⟩) W (hg.ext hW) (F := fun _ => False) (Is.none _ _ _ rfl rfl) (Is.none _ _ _ rfl rfl) (zero_fits _ rfl rfl (by decide) (by decide)) (zero_fits _ rfl rfl (by decide) (by decide))
  rw [ex_first] at h
  exact h
theorem ex_twice_any (w : World) (hg : Glob w) : ∀ W, Ext w W → Calls Tryz.prog 31 #[((exMove ⟨#[120]⟩ ⟨#[112]⟩).pv none 0 none 0).v, ((exMove ⟨#[112]⟩ ⟨#[113]⟩).pv none 0 none 0).v] W (fun e w' => ∃ P1 P2 : Pv, e = .returned (.tuple #[P1.v, P2.v, .bool false]) ∧ Ext W w') := fun W hW => by
  have h := commute_any ((exMove ⟨#[120]⟩ ⟨#[112]⟩).pv none 0 none 0) ((exMove ⟨#[112]⟩ ⟨#[113]⟩).pv none 0 none 0) (exMove ⟨#[120]⟩ ⟨#[112]⟩) (exMove ⟨#[112]⟩ ⟨#[113]⟩) W (hg.ext hW) (F := fun _ => False) (Is.none _ _ _ rfl rfl) (Is.none _ _ _ rfl rfl) (zero_fits _ rfl rfl (by decide) (by decide)) (zero_fits _ rfl rfl (by decide) (by decide))
  refine h.mono ?_
  rintro e w' ⟨P1, P2, he, _, _, hx⟩
  rw [ex_twice] at he
  exact ⟨P1, P2, he, hx⟩
theorem ex_dir_any (w : World) (hg : Glob w) : ∀ W, Ext w W → Calls Tryz.prog 60 #[(exRem.pv none 0 none 0).v, (exDir.pv none 0 none 0).v] W (Ret (.bool false) W) := fun W hW => by
  have h := indep_any (exRem.pv none 0 none 0) (exDir.pv none 0 none 0) exRem exDir W (hg.ext hW) (F := fun _ => False) (Is.none _ _ _ rfl rfl) (Is.none _ _ _ rfl rfl) (zero_fits _ rfl rfl (by decide) (by decide)) (zero_fits _ rfl rfl (by decide) (by decide))
  rw [ex_dir] at h
  exact h

set_option maxHeartbeats 16000000 in
set_option maxRecDepth 100000 in
theorem awake_any (w : World) (hg : Glob w) : Calls Tryz.prog 30 #[] w (Ret (.bool true) w) := by
  have H1 := Lib.hid (ex_first_any w hg)
  have H2 := Lib.hid (ex_twice_any w hg)
  have H3 := Lib.hid (ex_dir_any w hg)
  clear hg
  go_enter Tryz.func30, Tryz.ntmps30
  have hx := Ext.refl w
  go_wp2_with fail
  refine (exMove_any _ _ _).mono ?_
  rintro e w1 ⟨rfl, hx0⟩
  have hx1 := Ext.trans (a := w) EX hx0
  clear hx hx0
  have hx := hx1
  clear hx1
  go_wp2_with fail
  refine (H1.out _ hx).mono ?_
  rintro e w2 ⟨P1, P2, rfl, i1, i2, hx0⟩
  have hx1 := Ext.trans (a := w) EX hx0
  clear hx hx0
  have hx := hx1
  clear hx1
  have I1 := Lib.hid i1
  obtain ⟨A1, c1, A2, c2, rfl, _⟩ := i1
  obtain ⟨B1, d1, B2, d2, rfl, _⟩ := i2
  have HS : Hid (∀ W, Ext w2 W → Calls Tryz.prog 28 #[((exMove ⟨#[100]⟩ ⟨#[101]⟩).pv A1 c1 A2 c2).v, ((exMove ⟨#[100]⟩ ⟨#[101]⟩).pv none 0 none 0).v] W (Ret (.bool true) W)) :=
    Lib.hid (fun W hW => psame_true _ _ (exMove ⟨#[100]⟩ ⟨#[101]⟩) W (I1.out.ext hW) (Is.none W (fun _ => False) _ rfl rfl) (by decide) (by decide))
  dsimp only
  generalize hq1 : exMove ⟨#[100]⟩ ⟨#[101]⟩ = q1 at HS I1 ⊢
  have e2 : ({ exAdd with path := ⟨#[101, 47, 102]⟩ } : Qp).kind = 1 ∧ ({ exAdd with path := ⟨#[101, 47, 102]⟩ } : Qp).path = ⟨#[101, 47, 102]⟩ := ⟨rfl, rfl⟩
  generalize ({ exAdd with path := ⟨#[101, 47, 102]⟩ } : Qp) = q2 at e2 ⊢
  obtain ⟨ek, ep⟩ := e2
  go_wp2_with fail
  refine (exMove_any _ _ _).mono ?_
  rintro e w3 ⟨rfl, hx0⟩
  have hb2 : Blk w3 w2.heap.size 28 (parr (q1.pv A1 c1 A2 c2)) := Blk.ext hx0 (Blk.alloc (Blk.new' (by simp)) _)
  have hb3 := Blk.ext (g := w2.heap.size + 1) hx0 (Blk.new' (by simp))
  have hl2 : w2.heap.size ≤ w3.heap.size := by have := hb2.lt; omega
  have hs2 : Ext w2 w3 := ((Ext.refl w2).alloc _ |>.alloc _).trans hx0
  have hx1 := hx.trans hs2
  have HS := Lib.hid (fun W (hW : Ext w3 W) => HS.out W (hs2.trans hW))
  clear hx hx0 hs2
  have hx := hx1
  clear hx1
  have hc2 := hb2.cell
  have hl2 := hb2.lt
  have hc3 := hb3.cell
  have hl3 := hb3.lt
  go_wp2_with fail
  clear hc2 hl2 hc3 hl3
  refine (exMove_any _ _ _).mono ?_
  rintro e w4 ⟨rfl, hx0⟩
  replace hb2 := hb2.ext hx0
  replace hb3 := hb3.ext hx0
  have HS := Lib.hid (fun W (hW : Ext w4 W) => HS.out W (hx0.trans hW))
  have hx1 := hx.trans hx0
  clear hx hx0
  have hx := hx1
  clear hx1
  have hc2 := hb2.cell
  have hl2 := hb2.lt
  have hc3 := hb3.cell
  have hl3 := hb3.lt
  go_wp2_with fail
  clear hc2 hl2 hc3 hl3
  refine (H2.out _ hx).mono ?_
  rintro e w5 ⟨P3, P4, rfl, hx0⟩
  replace hb2 := hb2.ext hx0
  replace hb3 := hb3.ext hx0
  have HS := Lib.hid (fun W (hW : Ext w5 W) => HS.out W (hx0.trans hW))
  have hx1 := hx.trans hx0
  clear hx hx0
  have hx := hx1
  clear hx1
  have hc2 := hb2.cell
  have hl2 := hb2.lt
  have hc3 := hb3.cell
  have hl3 := hb3.lt
  have HC0 := Lib.hid (fun W (hW : Ext w5 W) => (hb2.ext hW).cell)
  have HC1 := Lib.hid (fun W (hW : Ext w5 W) => (hb3.ext hW).cell)
  have HI := Lib.hid (fun W (hW : Ext w5 W) => H3.out W (hx.trans hW))
  go_wp2_with fail
  clear hc2 hl2 hc3 hl3
  refine wp_region_ext (by kernel_rfl) (by kernel_rfl) ?_
  repeat (first | go_big_quiet_skip | (go_big_quiet_want; first | (go_big_quiet_op; go_big_quiet_on) | (apply quiet_at; intro W hW; have hW1 := Ext.of_alloc (Ext.of_alloc hW); have hc0 := HC0.out W hW1; have hc1 := HC1.out W hW1; go_simp; (first | exact rfl | (simp only [Oper.quietUpon, true_and]; first | exact rfl | ((first | (go_at_call 59; exact quiet_call hW (exMove_any _ _ _) (fun _ _ h => Ret.bcell h)) | (go_at_call 28; rw [← hq1] at *; exact quiet_call hW (HS.out _ hW1) (fun _ _ h => Ret.bcell h)) | (go_at_call 60; exact quiet_call hW (HI.out _ hW1) (fun _ _ h => Ret.bcell h))))) | ((first | (go_at_call 59; exact quiet_call hW (exMove_any _ _ _) (fun _ _ h => Ret.bcell h)) | (go_at_call 28; rw [← hq1] at *; exact quiet_call hW (HS.out _ hW1) (fun _ _ h => Ret.bcell h)) | (go_at_call 60; exact quiet_call hW (HI.out _ hW1) (fun _ _ h => Ret.bcell h))))); go_big_quiet_on; simp only [Act.put, sA, s0, sS])))
  refine wpQuiet_nil ?_
  intro w6 hx0
  have hx1 := hx.trans (Ext.of_alloc (Ext.of_alloc hx0))
  clear hx hx0
  have hx := hx1
  clear hx1
  go_wp2_with fail
  (go_ret; refine Ret.mk ?_ ?_; (focus (rfl; done)); (focus (exact EX; done)))

set_option maxHeartbeats 8000000 in
set_option maxRecDepth 100000 in
theorem lawgreat2_any (g : Nat) (t : TypeId) (p r : Pv) (a b : Qp) (w : World) (hb : Blk w g t (parr2 p r)) {F : Nat → Prop} (ha : Is w F p a) (hb2 : Is w F r b) (b1 : a.old.length ≤ 1152921504606846976) (b2 : a.new.length ≤ 1152921504606846976) (b3 : b.old.length ≤ 1152921504606846976) (b4 : b.new.length ≤ 1152921504606846976) :
    Calls Tryz.prog 29 #[.slice (some ⟨g, 0, none⟩) 2 2] w (Tells (a.Mild ∧ b.Mild) w) := by
  have H := Lib.hid (lgreat2_any g t p r a b w hb ha hb2 b1 b2 b3 b4)
  go_enter Tryz.func29, Tryz.ntmps29
  have hx := Ext.refl w
  go_wp2_with fail
  refine H.out.mono ?_
  rintro e w1 ⟨v1, rfl, k1, hx0⟩
  go_wp2_with fail
  refine bodyPost_ret (v := .bool v1) (by simp only [results, Tryz.results29]; go_simp) rfl ?_
  exact ⟨_, rfl, k1, hx0⟩
end Go.Proofs.YtfmgnaigcibcaaaGreatDoor
