/- Walks: pushout's closure that carries a patch along: one merge. -/
import Derived.Test.YtgfiddlmeopebaaGreatDoorCl
import Derived.Test.YtgfiddlmeopebaaGreatDoorMg
set_option linter.unusedSimpArgs false
set_option linter.unusedVariables false
namespace Go.Proofs.YtgfiddlmeopebaaGreatDoor
open Go Go.RowKit
attribute [local go_sem ↓] Go.wp_at_zero Go.wp_at_succ

/-- What one step hands back: the next patch of the other sequence; the box g then holds the patch that is carried on. -/
def Stepped (F : Nat → Prop) (g : Nat) (x y : Qp) (w : World) (e : Ending) (w' : World) : Prop :=
  ∃ P P2 : Pv, e = .returned (.tuple #[P.v, .bool (x.merge y).2.2]) ∧ Hid (Is w' (fun b => b ≠ g ∧ (F b ∨ w.heap.size ≤ b)) P (x.merge y).1) ∧
    Hid (Is w' (fun b => b ≠ g ∧ (F b ∨ w.heap.size ≤ b)) P2 (if (x.merge y).2.2 then (x.merge y).2.1 else x)) ∧ Blk w' g 38 (parr P2) ∧ Hid (Kept g w w')
set_option maxHeartbeats 8000000 in
set_option maxRecDepth 100000 in
theorem through_box (g : Nat) (p p' : Pv) (x y : Qp) (w : World) (hg : Glob w) (hb : Blk w g 38 (parr p)) {F : Nat → Prop} (hx : Is w (fun b => b ≠ g ∧ F b) p x) (hy : Is w (fun b => b ≠ g ∧ F b) p' y) (fx : x.Fits) (fy : y.Fits) :
    Calls Tryz.prog 70 #[p'.v, .pointer (some ⟨g, 0, none⟩)] w (Stepped F g x y w) := by
  have HX := Lib.hid hx
  have HM := Lib.hid (fun W (hW : Ext w W) => merge_any p p' x y W (hg.ext hW) (hx.in.ext hW) (hy.in.ext hW) fx fy)
  have HK : Hid (∃ R, R = x.merge y) := Lib.hid ⟨_, rfl⟩
  unfold Stepped
  generalize x.merge y = R at HM ⊢
  obtain ⟨c, d, k⟩ := R
  dsimp only at HM ⊢
  have hgl := hb.lt
  have HG := Lib.hid hgl
  clear hx hy fx fy hg
  have hcg := hb.cell
  have hfg := hb.frozen
  go_enter Tryz.func70, Tryz.ntmps70
  have hx := Ext.refl w
  go_wp2_with fail
  refine (HM.out _ (by (repeat (first | with_reducible exact hx | with_reducible exact Ext.refl _ | with_reducible refine Ext.alloc ?_ _ | with_reducible refine Ext.drewN ?_ _ | with_reducible refine Ext.drew1 ?_ | ((with_reducible refine Ext.setCell ?_ ?_ _); rotate_left; (focus (first | (dsimp only; omega) | (simp; done) | (simp; omega)))))))).mono ?_
  rintro e w1 ⟨P1, P2, rfl, i1, i2, hx0⟩
  have hb1 : Blk w1 g 38 (parr p) := Blk.ext hx0 (Blk.alloc (Blk.alloc hb _) _)
  have hb0 : Blk w1 w.heap.size 38 (parr p') := Blk.ext hx0 (Blk.alloc (Blk.new' rfl) _)
  have hbr : Blk w1 (w.heap.size + 1) 38 zcells := Blk.ext hx0 (Blk.new' (by simp))
  have hx1 := Ext.trans (a := w) (by (repeat (first | with_reducible exact hx | with_reducible exact Ext.refl _ | with_reducible refine Ext.alloc ?_ _ | with_reducible refine Ext.drewN ?_ _ | with_reducible refine Ext.drew1 ?_ | ((with_reducible refine Ext.setCell ?_ ?_ _); rotate_left; (focus (first | (dsimp only; omega) | (simp; done) | (simp; omega))))))) hx0
  have T1 : Is w1 (fun b => (b ≠ g ∧ F b ∧ b < w.heap.size) ∨ w.heap.size + 2 ≤ b) P1 c := i1.out.mono fun b h => by
    rcases h with h | h
    · exact .inl ⟨h.1.1.1, h.1.1.2, h.1.2⟩
    · exact .inr (by simpa using h)
  have T2 : Is w1 (fun b => (b ≠ g ∧ F b ∧ b < w.heap.size) ∨ w.heap.size + 2 ≤ b) P2 d := i2.out.mono fun b h => by
    rcases h with h | h
    · exact .inl ⟨h.1.1.1, h.1.1.2, h.1.2⟩
    · exact .inr (by simpa using h)
  have TX : Is w1 (fun b => (b ≠ g ∧ F b ∧ b < w.heap.size) ∨ w.heap.size + 2 ≤ b) p x := (HX.out.in.ext hx1).mono fun b h => .inl ⟨h.1.1, h.1.2, h.2⟩
  have KE : Kept g w w1 := Kept.of_ext hx1
  have HT := Lib.hid (⟨T1, T2, TX, KE⟩ : _ ∧ _ ∧ _ ∧ _)
  have nr : ¬ ((w.heap.size + 1 ≠ g ∧ F (w.heap.size + 1) ∧ w.heap.size + 1 < w.heap.size) ∨ w.heap.size + 2 ≤ w.heap.size + 1) := by omega
  have ng : ¬ ((g ≠ g ∧ F g ∧ g < w.heap.size) ∨ w.heap.size + 2 ≤ g) := by omega
  have HN := Lib.hid (⟨nr, ng⟩ : _ ∧ _)
  have HB := Lib.hid hb1
  clear T1 T2 TX KE nr ng i1 i2 hx hx0 hb HX HM hcg hfg
  have hcg := hb1.cell
  have hfg := hb1.frozen
  have hlg := hb1.lt
  have hl0 := hb0.lt
  clear hb0
  have hcr := hbr.cell
  have hfr := hbr.frozen
  have hlr := hbr.lt
  have hW := hx1.size_le
  have HW := Lib.hid hW
  clear hW
  cases k
  · go_wp2_with fail
    refine bodyPost_ret (v := .tuple #[P1.v, .bool false]) ?_ rfl ?_
    · simp only [results, Tryz.results70]
      go_simp
    · obtain ⟨T1, T2, TX, KE⟩ := HT.out
      obtain ⟨nr, ng⟩ := HN.out
      have hw := HW.out
      refine ⟨P1, rfl, Lib.hid (Is.mono (F := fun b => (b ≠ g ∧ F b ∧ b < w.heap.size) ∨ w.heap.size + 2 ≤ b) ?_ fun b h => ?_), p, Lib.hid (Is.mono (F := fun b => (b ≠ g ∧ F b ∧ b < w.heap.size) ∨ w.heap.size + 2 ≤ b) ?_ fun b h => ?_), ?_, Lib.hid ?_⟩
      · repeat (first | with_reducible exact T1 | with_reducible refine Is.alloc ?_ _ | with_reducible refine Is.drew ?_ | with_reducible refine Is.put (g := w.heap.size + 1) ?_ nr _)
      · rcases h with h | h
        · exact ⟨h.1, .inl h.2.1⟩
        · exact ⟨by omega, .inr (by omega)⟩
      · repeat (first | with_reducible exact TX | with_reducible refine Is.alloc ?_ _ | with_reducible refine Is.drew ?_ | with_reducible refine Is.put (g := w.heap.size + 1) ?_ nr _)
      · rcases h with h | h
        · exact ⟨h.1, .inl h.2.1⟩
        · exact ⟨by omega, .inr (by omega)⟩
      · repeat (first | with_reducible exact hb1 | with_reducible refine Blk.alloc ?_ _ | with_reducible refine Blk.drew ?_ | refine Blk.far ?_ (by dsimp only; omega) _)
      · repeat (first | with_reducible exact KE | with_reducible refine Kept.alloc ?_ _ | with_reducible refine Kept.drew ?_ | with_reducible refine Kept.cell (b := w.heap.size + 1) ?_ (.inr (by omega)) _ _)
  · go_wp2_with fail
    refine bodyPost_ret (v := .tuple #[P1.v, .bool true]) ?_ rfl ?_
    · simp only [results, Tryz.results70]
      go_simp
    · obtain ⟨T1, T2, TX, KE⟩ := HT.out
      obtain ⟨nr, ng⟩ := HN.out
      have hw := HW.out
      refine ⟨P1, rfl, Lib.hid (Is.mono (F := fun b => (b ≠ g ∧ F b ∧ b < w.heap.size) ∨ w.heap.size + 2 ≤ b) ?_ fun b h => ?_), P2, Lib.hid (Is.mono (F := fun b => (b ≠ g ∧ F b ∧ b < w.heap.size) ∨ w.heap.size + 2 ≤ b) ?_ fun b h => ?_), ?_, Lib.hid ?_⟩
      · repeat (first | with_reducible exact T1 | with_reducible refine Is.alloc ?_ _ | with_reducible refine Is.drew ?_ | with_reducible refine Is.put (g := w.heap.size + 1) ?_ nr _ | with_reducible refine Is.put (g := g) ?_ ng _)
      · rcases h with h | h
        · exact ⟨h.1, .inl h.2.1⟩
        · exact ⟨by omega, .inr (by omega)⟩
      · repeat (first | with_reducible exact T2 | with_reducible refine Is.alloc ?_ _ | with_reducible refine Is.drew ?_ | with_reducible refine Is.put (g := w.heap.size + 1) ?_ nr _ | with_reducible refine Is.put (g := g) ?_ ng _)
      · rcases h with h | h
        · exact ⟨h.1, .inl h.2.1⟩
        · exact ⟨by omega, .inr (by omega)⟩
      · repeat (first | with_reducible refine Blk.alloc ?_ _ | with_reducible refine Blk.drew ?_ | refine Blk.far ?_ (by dsimp only; omega) _)
        refine Blk.conv ((((((((((((hb1.set_ 0 _).set_ 1 _).set_ 2 _).set_ 3 _).set_ 4 _).set_ 5 _).set_ 6 _).set_ 7 _).set_ 8 _).set_ 9 _).set_ 10 _).set_ 11 _) ?_
        simp
      · repeat (first | with_reducible exact KE | with_reducible refine Kept.alloc ?_ _ | with_reducible refine Kept.drew ?_ | with_reducible refine Kept.cell (b := g) ?_ (.inl rfl) _ _ | with_reducible refine Kept.cell (b := w.heap.size + 1) ?_ (.inr (by omega)) _ _)
end Go.Proofs.YtgfiddlmeopebaaGreatDoor
