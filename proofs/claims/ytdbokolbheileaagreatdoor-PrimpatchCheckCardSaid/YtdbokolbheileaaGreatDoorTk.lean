/- Walks: the chapter's examples of plain trees. -/
import Derived.Test.YtdbokolbheileaaGreatDoorTi
import Derived.Test.YtdbokolbheileaaGreatDoorTg
set_option linter.unusedSimpArgs false
set_option linter.unusedVariables false
namespace Go.Proofs.YtdbokolbheileaaGreatDoor
open Go Go.RowKit

def mvq (a b : ByteArray) : Qp := { Qp.zero with kind := 5, path := a, to_ := b }
def awF : Pf := ⟨⟨#[97]⟩, 1, 420, ⟨#[120, 10]⟩⟩
def awD : Pf := ⟨⟨#[100]⟩, 4, 0, ⟨#[]⟩⟩
def awG : Pf := ⟨⟨#[100, 47, 98]⟩, 1, 420, ⟨#[120, 10]⟩⟩
theorem aw_tree : Tr.checkTree [awF, awD] = 0 := by kernel_rfl
theorem aw_one : (mvq ⟨#[97]⟩ ⟨#[100, 47, 98]⟩).check = 0 := by kernel_rfl
theorem aw_two : (mvq ⟨#[97]⟩ ⟨#[100]⟩).check = 0 := by kernel_rfl
theorem aw_three : (mvq ⟨#[100]⟩ ⟨#[100, 47, 101]⟩).check = 20 := by kernel_rfl
theorem aw_move : Tr.move [awF, awD] ⟨#[97]⟩ ⟨#[100, 47, 98]⟩ = ([awD, awG], 0) := by kernel_rfl
theorem aw_exists : Tr.move [awF, awD] ⟨#[97]⟩ ⟨#[100]⟩ = ([], 6) := by kernel_rfl

theorem Blk.trs {W : World} {g : Nat} {t : TypeId} {l : List Pf} (h : Blk W g t (fl l).toArray) : Trs W (some ⟨g, 0, none⟩) l := fun _ => by
  refine ⟨g, 0, rfl, h.lt, fun j v hv => ?_⟩
  rw [h.cell, List.getElem?_toArray, Nat.zero_add, hv]
theorem Trs.far {W : World} {A : Option Addr} {l : List Pf} (h : Trs W A l) {g k : Nat} (hp : ∀ a, A = some a → a.block ≠ g) (v : Value) : Trs (W.setCell ⟨g, k, none⟩ v) A l := fun h0 => by
  obtain ⟨b, o, hA, hb, hr⟩ := h h0
  refine ⟨b, o, hA, by simpa using hb, fun j u hu => ?_⟩
  rw [← hr j u hu]
  exact World.cell?_of_block (Below.heap_setCell W ⟨g, k, none⟩ v b (hp _ hA))
theorem mvq_is (w : World) (a b : ByteArray) : Is w (fun _ => True) ((mvq a b).pv none 0 none 0) (mvq a b) := Is.none _ _ _ rfl rfl

set_option maxHeartbeats 8000000 in
set_option maxRecDepth 100000 in
theorem awake12_any (w : World) (hg : Glob w) : Calls Tryz.prog 11 #[] w (Ret (.bool true) w) := by
  have HA1 := Lib.hid (fun W g (hW : Ext w W) (hB : Blk W g 27 (fl [awF, awD]).toArray) => by
    have := apply_mov ((mvq ⟨#[97]⟩ ⟨#[100, 47, 98]⟩).pv none 0 none 0) _ (some ⟨g, 0, none⟩) 2 2 [awF, awD] W hB.trs rfl (hg.ext hW) (mvq_is W _ _) (Nat.zero_le _) (Nat.zero_le _) aw_tree aw_one rfl
    rw [show (mvq ⟨#[97]⟩ ⟨#[100, 47, 98]⟩).path = ⟨#[97]⟩ from rfl, show (mvq ⟨#[97]⟩ ⟨#[100, 47, 98]⟩).to_ = ⟨#[100, 47, 98]⟩ from rfl, aw_move] at this
    exact this)
  have HA2 := Lib.hid (fun W g (hW : Ext w W) (hB : Blk W g 27 (fl [awF, awD]).toArray) => by
    have := apply_mov ((mvq ⟨#[97]⟩ ⟨#[100]⟩).pv none 0 none 0) _ (some ⟨g, 0, none⟩) 2 2 [awF, awD] W hB.trs rfl (hg.ext hW) (mvq_is W _ _) (Nat.zero_le _) (Nat.zero_le _) aw_tree aw_two rfl
    rw [show (mvq ⟨#[97]⟩ ⟨#[100]⟩).path = ⟨#[97]⟩ from rfl, show (mvq ⟨#[97]⟩ ⟨#[100]⟩).to_ = ⟨#[100]⟩ from rfl, aw_exists] at this
    exact this)
  have HCk := Lib.hid (fun W (hW : Ext w W) => by
    have := check_q ((mvq ⟨#[100]⟩ ⟨#[100, 47, 101]⟩).pv none 0 none 0) _ W (hg.ext hW) (mvq_is W _ _) (Nat.zero_le _) (Nat.zero_le _) (by decide) (by decide)
    rw [aw_three] at this
    exact this)
  clear hg
  go_enter Tryz.func11, Tryz.ntmps11
  have hx := Ext.refl w
  go_wp2_with fail
  have HX0 := Lib.hid (EX : Ext w (((w.alloc (.cells awF.arr 27)).alloc (.cells awD.arr 27)).alloc (.cells (fl [awF, awD]).toArray 27)))
  refine (HA1.out _ _ EX (Blk.new' (by simp))).mono ?_
  rintro e w1 ⟨B, m, d, rfl, hm, hT, hx0⟩
  have hm2 : m = 2 := hm
  subst hm2
  have HB : Hid (∀ a, B = some a → a.block ≠ w.heap.size) := Lib.hid (fun a ha => by
    have h1 := hT.out.2 a ha
    have h2 := HX0.out.size_le
    simp at h1
    omega)
  have HT : Hid (Trs w1 B [awD, awG]) := Lib.hid hT.out.1
  clear hm hT
  have hy := Ext.trans (a := w) EX hx0; clear hx; have hx := hy; clear hy; have hn0 := BB hx0 (w.heap.size); have hn1 := BB hx0 (w.heap.size + 1); (first | simp [↓heap_drew_at, ↓heap_drewN_at, ↓heap_alloc_at, ↓heap_set_at, ne_two, ne_three, ne_two_left, ne_three_left, ↓hb0.eq, hb0.lt, hb0.ne, ↓hb1.eq, hb1.lt, hb1.ne] at hn0 hn1 | simp [↓heap_drew_at, ↓heap_drewN_at, ↓heap_alloc_at, ↓heap_set_at, ne_two, ne_three, ne_two_left, ne_three_left] at hn0 hn1); (try clear hb0 hc0 hf0 hl0); (try clear hb1 hc1 hf1 hl1); have hb0 := Blk.mk hn0; clear hn0; obtain ⟨hc0, hf0, hl0⟩ := hb0.all; have hb1 := Blk.mk hn1; clear hn1; obtain ⟨hc1, hf1, hl1⟩ := hb1.all; (try clear hx0)
  go_wp2_with fail
  refine (HA2.out _ _ EX (Blk.new' (by simp))).mono ?_
  rintro e w2 ⟨B2, m2, d2, rfl, hm2, _, hx0⟩
  have HT2 : Hid (Trs w2 B [awD, awG]) := Lib.hid (HT.out.ext (((Ext.refl w1).alloc _).trans hx0))
  clear hm2 HT
  have hy := Ext.trans (a := w) EX hx0; clear hx; have hx := hy; clear hy; have hn0 := BB hx0 (w.heap.size); have hn1 := BB hx0 (w.heap.size + 1); (first | simp [↓heap_drew_at, ↓heap_drewN_at, ↓heap_alloc_at, ↓heap_set_at, ne_two, ne_three, ne_two_left, ne_three_left, ↓hb0.eq, hb0.lt, hb0.ne, ↓hb1.eq, hb1.lt, hb1.ne] at hn0 hn1 | simp [↓heap_drew_at, ↓heap_drewN_at, ↓heap_alloc_at, ↓heap_set_at, ne_two, ne_three, ne_two_left, ne_three_left] at hn0 hn1); (try clear hb0 hc0 hf0 hl0); (try clear hb1 hc1 hf1 hl1); have hb0 := Blk.mk hn0; clear hn0; obtain ⟨hc0, hf0, hl0⟩ := hb0.all; have hb1 := Blk.mk hn1; clear hn1; obtain ⟨hc1, hf1, hl1⟩ := hb1.all; (try clear hx0)
  go_wp2_with fail
  have HS := Lib.hid (sametree_any B (some ⟨w2.heap.size, 0, none⟩) 2 2 d 2 [awD, awG] [awD, awG] ((w2.setCell ⟨w.heap.size, 0, none⟩ (.string ⟨#[100, 47, 98]⟩)).alloc (.cells (fl [awD, awG]).toArray 27)) ((HT2.out.far HB.out _).ext ((Ext.refl _).alloc _)) (Blk.trs (Blk.new' (by simp))) rfl rfl (by omega) (by omega))
  rw [show decide ([awD, awG] = [awD, awG]) = true from decide_eq_true rfl] at HS
  refine HS.out.mono ?_
  rintro e w3 ⟨rfl, hx0⟩
  have hy := Ext.trans (a := w) EX hx0
  clear hx hx0 hb0 hc0 hf0 hl0 hb1 hc1 hf1 hl1 HS HT2
  have hx := hy
  clear hy
  go_wp2_with fail
  refine (HCk.out _ EX).mono ?_
  rintro e w4 ⟨rfl, hx0⟩
  have hy := Ext.trans (a := w) EX hx0
  clear hx hx0
  have hx := hy
  clear hy
  go_wp2_with fail
  (go_ret; refine Ret.mk ?_ ?_; (focus (rfl; done)); (focus (exact EX; done)))
end Go.Proofs.YtdbokolbheileaaGreatDoor
