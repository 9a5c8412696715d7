/- Walks: the chapter's examples of sequences. -/
import Derived.Test.YtgfiddlmeopebaaGreatDoorCa
import Derived.Test.YtgfiddlmeopebaaGreatDoorSl
import Derived.Test.YtgfiddlmeopebaaGreatDoorAx
set_option linter.unusedSimpArgs false
set_option linter.unusedVariables false
namespace Go.Proofs.YtgfiddlmeopebaaGreatDoor
open Go Go.RowKit
attribute [local go_sem ↓] Go.wp_at_zero Go.wp_at_succ

def ayAdd (a : ByteArray) : Qp := { Qp.zero with kind := 3, path := a }
def ayRem : Qp := { Qp.zero with kind := 4, path := ⟨#[100]⟩ }
theorem ay_move : Sq.move [(ayAdd ⟨#[100]⟩), (ayAdd ⟨#[101]⟩), ayRem] 1 0 = some [(ayAdd ⟨#[101]⟩), (ayAdd ⟨#[100]⟩), ayRem] := by kernel_rfl
theorem ay_cancel : Sq.cancel [(ayAdd ⟨#[100]⟩), (ayAdd ⟨#[101]⟩), ayRem] = [(ayAdd ⟨#[101]⟩)] := by kernel_rfl
theorem ay_same : Sq.same [(ayAdd ⟨#[100]⟩), (ayAdd ⟨#[101]⟩), ayRem] [(ayAdd ⟨#[101]⟩), (ayAdd ⟨#[100]⟩), ayRem] = true := by kernel_rfl
theorem ay_short : Sq.same [(ayAdd ⟨#[100]⟩), (ayAdd ⟨#[101]⟩), ayRem] [(ayAdd ⟨#[100]⟩), (ayAdd ⟨#[101]⟩)] = false := by kernel_rfl
theorem ay_fits : (ayAdd ⟨#[100]⟩).Fits ∧ (ayAdd ⟨#[101]⟩).Fits ∧ ayRem.Fits :=
  ⟨⟨Nat.zero_le _, Nat.zero_le _, by decide, by decide⟩, ⟨Nat.zero_le _, Nat.zero_le _, by decide, by decide⟩, ⟨Nat.zero_le _, Nat.zero_le _, by decide, by decide⟩⟩

set_option maxHeartbeats 4000000 in
set_option maxRecDepth 100000 in
theorem ayAdd_any (a : ByteArray) (w : World) :
    Calls Tryz.prog 39 #[.string a] w (Ret ((ayAdd a).pv none 0 none 0).v w) := by
  go_enter Tryz.func39, Tryz.ntmps39
  have hx := Ext.refl w
  go_wp2_with fail
  refine bodyPost_ret (v := ((ayAdd a).pv none 0 none 0).v) ?_ rfl ?_
  · simp only [results, Tryz.results39]
    go_simp
    simp [ayAdd, Qp.zero]
  · exact ⟨rfl, (by (repeat (first | with_reducible exact hx | with_reducible exact Ext.refl _ | with_reducible refine Ext.alloc ?_ _ | with_reducible refine Ext.drewN ?_ _ | with_reducible refine Ext.drew1 ?_ | ((with_reducible refine Ext.setCell ?_ ?_ _); rotate_left; (focus (first | (dsimp only; omega) | (simp; done) | (simp; omega)))))))⟩
theorem ay_third : ∀ j, j < (parr (ayRem.pv none 0 none 0)).toList.length → ((flat [((ayAdd ⟨#[100]⟩).pv none 0 none 0), ((ayAdd ⟨#[101]⟩).pv none 0 none 0), (ayRem.pv none 0 none 0)]).toArray : Array Value)[0 + 2 * 12 + j]? = (parr (ayRem.pv none 0 none 0)).toList[j]? := fun j hj => by
  have hj' : j < 12 := hj
  match j, hj' with
  | 0, _ | 1, _ | 2, _ | 3, _ | 4, _ | 5, _ | 6, _ | 7, _ | 8, _ | 9, _ | 10, _ | 11, _ => rfl

set_option maxHeartbeats 16000000 in
set_option maxRecDepth 100000 in
theorem awake14_any (w : World) (hg : Glob w) : Calls Tryz.prog 16 #[] w (Ret (.bool true) w) := by
  have HG := Lib.hid hg
  have HF := Lib.hid ay_fits
  clear hg
  go_enter Tryz.func16, Tryz.ntmps16
  have hx := Ext.refl w
  go_wp2_with fail
  refine (ayAdd_any _ _).mono ?_
  rintro e w1 ⟨rfl, hx0⟩
  have hx1 := hx.trans hx0
  clear hx hx0
  have hx := hx1
  clear hx1
  go_wp2_with fail
  refine (ayAdd_any _ _).mono ?_
  rintro e w2 ⟨rfl, hx0⟩
  have hx1 := hx.trans hx0
  clear hx hx0
  have hx := hx1
  clear hx1
  go_wp2_with fail
  refine (move_any (some ⟨w2.heap.size, 0, none⟩) 3 3 1 0 [(ayAdd ⟨#[100]⟩), (ayAdd ⟨#[101]⟩), ayRem] (w2.alloc (.cells (flat [((ayAdd ⟨#[100]⟩).pv none 0 none 0), ((ayAdd ⟨#[101]⟩).pv none 0 none 0), (ayRem.pv none 0 none 0)]).toArray 38)) (HG.out.ext (hx.alloc _)) (F := fun _ => True) (Qs.plain _ (Blk.new' rfl) (by simp [ayAdd, ayRem, Qp.zero])) rfl (by omega) (by omega) (by omega) (by simp [HF.out.1, HF.out.2.1, HF.out.2.2])).mono ?_
  rintro e w3 ⟨hres, hx0⟩
  rw [ay_move] at hres
  rcases hres with ⟨h, _⟩ | ⟨m, g, h, rfl, hgw, HO⟩
  · cases h
  obtain rfl := Option.some.inj h
  have HL := Lib.hid (Blk.ext hx0 (Blk.new' (w := w2) (cs := (flat [((ayAdd ⟨#[100]⟩).pv none 0 none 0), ((ayAdd ⟨#[101]⟩).pv none 0 none 0), (ayRem.pv none 0 none 0)]).toArray) (t := 38) rfl))
  have HM := Lib.hid (HO.out.qs.mono (G := fun _ => True) fun _ _ => trivial)
  have HX := Lib.hid (hx.trans (((Ext.refl w2).alloc _).trans hx0))
  clear h hgw HO hx hx0
  generalize w2.heap.size = gL at HL ⊢
  have HLQ : Hid (Qs w3 (fun _ => True) (some ⟨gL, 0, none⟩) [(ayAdd ⟨#[100]⟩), (ayAdd ⟨#[101]⟩), ayRem]) := Lib.hid (Qs.plain _ HL.out (by simp [ayAdd, ayRem, Qp.zero]))
  dsimp only
  go_upto_region 4 with fail
  refine wp_region_noPanic (wp_region_held_drew (S := fun w' => Ext w3 w') (by kernel_rfl) (Ext.refl w3).drew1 (fun hv => ?_))
  generalize w3.drew = v0 at hv ⊢
  refine take_free (i := 0) (v := .bool true) rfl rfl (by kernel_rfl) (by kernel_rfl) (by kernel_rfl) (by kernel_rfl) (fun _ => rfl) hv ?_
  try simp only [Act.put, List.setIfInBounds_toArray, List.set_cons_zero, List.set_cons_succ]
  refine take_free (i := 1) (v := .bool true) rfl rfl (by kernel_rfl) (by kernel_rfl) (by kernel_rfl) (by kernel_rfl) (fun _ => rfl) hv ?_
  try simp only [Act.put, List.setIfInBounds_toArray, List.set_cons_zero, List.set_cons_succ]
  refine take_free (i := 2) (v := .slice (some ⟨g, 0, none⟩) 3 3) rfl rfl (by kernel_rfl) (by kernel_rfl) (by kernel_rfl) (by kernel_rfl) (fun _ => rfl) hv ?_
  try simp only [Act.put, List.setIfInBounds_toArray, List.set_cons_zero, List.set_cons_succ]
  refine take_free (i := 3) (v := .func (.func 39) #[] #[]) rfl rfl (by kernel_rfl) (by kernel_rfl) (by kernel_rfl) (by kernel_rfl) (fun _ => rfl) hv ?_
  try simp only [Act.put, List.setIfInBounds_toArray, List.set_cons_zero, List.set_cons_succ]
  refine take_free (i := 5) (v := .func (.func 39) #[] #[]) rfl rfl (by kernel_rfl) (by kernel_rfl) (by kernel_rfl) (by kernel_rfl) (fun _ => rfl) hv ?_
  try simp only [Act.put, List.setIfInBounds_toArray, List.set_cons_zero, List.set_cons_succ]
  refine take_free (i := 7) (v := .slice (some ⟨gL, 0, none⟩) 3 3) rfl rfl (by kernel_rfl) (by kernel_rfl) (by kernel_rfl) (by kernel_rfl) (fun _ => rfl) hv ?_
  try simp only [Act.put, List.setIfInBounds_toArray, List.set_cons_zero, List.set_cons_succ]
  refine take_index (i := 8) gL 0 3 3 2 rfl rfl rfl (by kernel_rfl) (by kernel_rfl) (by kernel_rfl) (by kernel_rfl) rfl rfl (by omega) Tryz.underlying22 (by kernel_rfl) hv ?_
  try simp only [Act.put, List.setIfInBounds_toArray, List.set_cons_zero, List.set_cons_succ]
  refine take_loadg (i := 9) (parr (ayRem.pv none 0 none 0)).toList rfl rfl rfl (by kernel_rfl) (by kernel_rfl) (by kernel_rfl) (by kernel_rfl) rfl Tryz.underlying38 rfl (by kernel_rfl) (fun _ h => (HL.out.ext h).range _ _ (fun j hj => ay_third j hj)) hv ?_
  try simp only [Act.put, List.setIfInBounds_toArray, List.set_cons_zero, List.set_cons_succ]
  refine wpAnyH_one (i := 4) (by kernel_rfl) rfl (by kernel_rfl) ?_
  go_simp
  refine (ayAdd_any _ _).mono ?_
  rintro e v1 ⟨rfl, hx0⟩
  have hv2 := hv.trans hx0
  clear hv hx0
  have hv := hv2
  clear hv2
  refine ⟨hv, ?_⟩
  try simp only [Act.put, List.setIfInBounds_toArray, List.set_cons_zero, List.set_cons_succ]
  refine wpAnyH_one (i := 6) (by kernel_rfl) rfl (by kernel_rfl) ?_
  go_simp
  refine (ayAdd_any _ _).mono ?_
  rintro e v2 ⟨rfl, hx0⟩
  have hv2 := hv.trans hx0
  clear hv hx0
  have hv := hv2
  clear hv2
  refine ⟨hv, ?_⟩
  try simp only [Act.put, List.setIfInBounds_toArray, List.set_cons_zero, List.set_cons_succ]
  refine wpAnyH_one (i := 10) (by kernel_rfl) rfl (by kernel_rfl) ?_
  go_simp
  refine ⟨hv.alloc _, ?_⟩
  try simp only [Act.put, List.setIfInBounds_toArray, List.set_cons_zero, List.set_cons_succ]
  generalize hq : World.alloc v2 _ = v3
  have hbn : Blk v3 v2.heap.size 38 (flat [((ayAdd ⟨#[101]⟩).pv none 0 none 0), ((ayAdd ⟨#[100]⟩).pv none 0 none 0), (ayRem.pv none 0 none 0)]).toArray := by rw [← hq]; exact Blk.new' rfl
  have hx0 : Ext v2 v3 := by rw [← hq]; exact (Ext.refl v2).alloc _
  have hv2 := hv.trans hx0
  clear hv hx0 hq
  have hv := hv2
  clear hv2
  have HN := Lib.hid hbn
  clear hbn
  generalize v2.heap.size = gHN at HN ⊢
  refine wpAnyH_one (i := 11) (by kernel_rfl) rfl (by kernel_rfl) ?_
  go_simp
  refine (samelist_true (some ⟨g, 0, none⟩) (some ⟨gHN, 0, none⟩) 3 3 3 [(ayAdd ⟨#[101]⟩), (ayAdd ⟨#[100]⟩), ayRem] _ (F := fun _ => True) (G := fun _ => True) (HM.out.ext hv) (Qs.plain _ HN.out (by simp [ayAdd, ayRem, Qp.zero])) rfl (by omega) (by simp [HF.out.1, HF.out.2.1, HF.out.2.2])).mono ?_
  rintro e v4 ⟨rfl, hx0⟩
  clear HN
  have hv2 := hv.trans hx0
  clear hv hx0
  have hv := hv2
  clear hv2
  refine ⟨hv, ?_⟩
  try simp only [Act.put, List.setIfInBounds_toArray, List.set_cons_zero, List.set_cons_succ]
  refine take_free (i := 12) (v := .bool true) rfl rfl (by kernel_rfl) (by kernel_rfl) (by kernel_rfl) (by kernel_rfl) (fun _ => rfl) hv ?_
  try simp only [Act.put, List.setIfInBounds_toArray, List.set_cons_zero, List.set_cons_succ]
  refine take_free (i := 13) (v := .bool true) rfl rfl (by kernel_rfl) (by kernel_rfl) (by kernel_rfl) (by kernel_rfl) (fun _ => rfl) hv ?_
  try simp only [Act.put, List.setIfInBounds_toArray, List.set_cons_zero, List.set_cons_succ]
  refine take_free (i := 14) (v := .slice (some ⟨gL, 0, none⟩) 3 3) rfl rfl (by kernel_rfl) (by kernel_rfl) (by kernel_rfl) (by kernel_rfl) (fun _ => rfl) hv ?_
  try simp only [Act.put, List.setIfInBounds_toArray, List.set_cons_zero, List.set_cons_succ]
  refine take_free (i := 16) (v := .func (.func 39) #[] #[]) rfl rfl (by kernel_rfl) (by kernel_rfl) (by kernel_rfl) (by kernel_rfl) (fun _ => rfl) hv ?_
  try simp only [Act.put, List.setIfInBounds_toArray, List.set_cons_zero, List.set_cons_succ]
  have HC := Lib.hid (cancel_any (some ⟨gL, 0, none⟩) 3 3 [(ayAdd ⟨#[100]⟩), (ayAdd ⟨#[101]⟩), ayRem] v4 (HG.out.ext (HX.out.trans hv)) (HLQ.out.ext hv) rfl (by omega) (by simp [HF.out.1, HF.out.2.1, HF.out.2.2]))
  rw [ay_cancel] at HC
  refine wpAnyH_one (i := 15) (by kernel_rfl) rfl (by kernel_rfl) ?_
  go_simp
  refine (HC.out).mono ?_
  rintro e v5 ⟨E, n', c', rfl, hl', _, HQ, _, hx0⟩
  obtain rfl : 1 = n' := hl'
  clear HC
  have hv2 := hv.trans hx0
  clear hv hx0
  have hv := hv2
  clear hv2
  refine ⟨hv, ?_⟩
  try simp only [Act.put, List.setIfInBounds_toArray, List.set_cons_zero, List.set_cons_succ]
  refine wpAnyH_one (i := 17) (by kernel_rfl) rfl (by kernel_rfl) ?_
  go_simp
  refine (ayAdd_any _ _).mono ?_
  rintro e v6 ⟨rfl, hx0⟩
  have HQ := Lib.hid (HQ.out.ext hx0)
  have hv2 := hv.trans hx0
  clear hv hx0
  have hv := hv2
  clear hv2
  refine ⟨hv, ?_⟩
  try simp only [Act.put, List.setIfInBounds_toArray, List.set_cons_zero, List.set_cons_succ]
  refine wpAnyH_one (i := 18) (by kernel_rfl) rfl (by kernel_rfl) ?_
  go_simp
  refine ⟨hv.alloc _, ?_⟩
  try simp only [Act.put, List.setIfInBounds_toArray, List.set_cons_zero, List.set_cons_succ]
  generalize hq : World.alloc v6 _ = v7
  have hbn : Blk v7 v6.heap.size 38 (flat [((ayAdd ⟨#[101]⟩).pv none 0 none 0)]).toArray := by rw [← hq]; exact Blk.new' rfl
  have hx0 : Ext v6 v7 := by rw [← hq]; exact (Ext.refl v6).alloc _
  have HQ := Lib.hid (HQ.out.ext hx0)
  have hv2 := hv.trans hx0
  clear hv hx0 hq
  have hv := hv2
  clear hv2
  have HN := Lib.hid hbn
  clear hbn
  generalize v6.heap.size = gHN at HN ⊢
  refine wpAnyH_one (i := 19) (by kernel_rfl) rfl (by kernel_rfl) ?_
  go_simp
  refine (samelist_true E (some ⟨gHN, 0, none⟩) 1 c' 1 [(ayAdd ⟨#[101]⟩)] _ (F := fun _ => True) (G := fun _ => True) HQ.out (Qs.plain _ HN.out (by simp [ayAdd, Qp.zero])) rfl (by omega) (by simp [HF.out.2.1])).mono ?_
  rintro e v8 ⟨rfl, hx0⟩
  clear HN HQ
  have hv2 := hv.trans hx0
  clear hv hx0
  have hv := hv2
  clear hv2
  refine ⟨hv, ?_⟩
  try simp only [Act.put, List.setIfInBounds_toArray, List.set_cons_zero, List.set_cons_succ]
  refine take_free (i := 20) (v := .bool true) rfl rfl (by kernel_rfl) (by kernel_rfl) (by kernel_rfl) (by kernel_rfl) (fun _ => rfl) hv ?_
  try simp only [Act.put, List.setIfInBounds_toArray, List.set_cons_zero, List.set_cons_succ]
  refine take_free (i := 21) (v := .bool true) rfl rfl (by kernel_rfl) (by kernel_rfl) (by kernel_rfl) (by kernel_rfl) (fun _ => rfl) hv ?_
  try simp only [Act.put, List.setIfInBounds_toArray, List.set_cons_zero, List.set_cons_succ]
  refine take_free (i := 22) (v := .slice (some ⟨gL, 0, none⟩) 3 3) rfl rfl (by kernel_rfl) (by kernel_rfl) (by kernel_rfl) (by kernel_rfl) (fun _ => rfl) hv ?_
  try simp only [Act.put, List.setIfInBounds_toArray, List.set_cons_zero, List.set_cons_succ]
  refine take_free (i := 23) (v := .slice (some ⟨g, 0, none⟩) 3 3) rfl rfl (by kernel_rfl) (by kernel_rfl) (by kernel_rfl) (by kernel_rfl) (fun _ => rfl) hv ?_
  try simp only [Act.put, List.setIfInBounds_toArray, List.set_cons_zero, List.set_cons_succ]
  have HS1 := Lib.hid (seqsame_any (some ⟨gL, 0, none⟩) (some ⟨g, 0, none⟩) 3 3 3 3 [(ayAdd ⟨#[100]⟩), (ayAdd ⟨#[101]⟩), ayRem] [(ayAdd ⟨#[101]⟩), (ayAdd ⟨#[100]⟩), ayRem] v8 (HG.out.ext (HX.out.trans hv)) (HLQ.out.ext hv) (HM.out.ext hv) rfl rfl (by omega) (by omega) (by simp [HF.out.1, HF.out.2.1, HF.out.2.2]) (by simp [HF.out.1, HF.out.2.1, HF.out.2.2]))
  rw [ay_same] at HS1
  refine wpAnyH_one (i := 24) (by kernel_rfl) rfl (by kernel_rfl) ?_
  go_simp
  refine (HS1.out).mono ?_
  rintro e v9 ⟨rfl, hx0⟩
  clear HS1
  have hv2 := hv.trans hx0
  clear hv hx0
  have hv := hv2
  clear hv2
  refine ⟨hv, ?_⟩
  try simp only [Act.put, List.setIfInBounds_toArray, List.set_cons_zero, List.set_cons_succ]
  refine take_free (i := 25) (v := .bool true) rfl rfl (by kernel_rfl) (by kernel_rfl) (by kernel_rfl) (by kernel_rfl) (fun _ => rfl) hv ?_
  try simp only [Act.put, List.setIfInBounds_toArray, List.set_cons_zero, List.set_cons_succ]
  refine take_free (i := 26) (v := .bool true) rfl rfl (by kernel_rfl) (by kernel_rfl) (by kernel_rfl) (by kernel_rfl) (fun _ => rfl) hv ?_
  try simp only [Act.put, List.setIfInBounds_toArray, List.set_cons_zero, List.set_cons_succ]
  refine take_free (i := 27) (v := .slice (some ⟨gL, 0, none⟩) 3 3) rfl rfl (by kernel_rfl) (by kernel_rfl) (by kernel_rfl) (by kernel_rfl) (fun _ => rfl) hv ?_
  try simp only [Act.put, List.setIfInBounds_toArray, List.set_cons_zero, List.set_cons_succ]
  refine take_free (i := 28) (v := .slice (some ⟨gL, 0, none⟩) 3 3) rfl rfl (by kernel_rfl) (by kernel_rfl) (by kernel_rfl) (by kernel_rfl) (fun _ => rfl) hv ?_
  try simp only [Act.put, List.setIfInBounds_toArray, List.set_cons_zero, List.set_cons_succ]
  refine take_any (i := 29) (v := .slice (some ⟨gL, 0, none⟩) 2 3) rfl rfl (by kernel_rfl) (by kernel_rfl) (by kernel_rfl) (.inl ⟨(by kernel_rfl), fun W' hW' => ?sl⟩) hv ?_
  case sl => go_simp
  try simp only [Act.put, List.setIfInBounds_toArray, List.set_cons_zero, List.set_cons_succ]
  have HS2 := Lib.hid (seqsame_any (some ⟨gL, 0, none⟩) (some ⟨gL, 0, none⟩) 3 3 2 3 [(ayAdd ⟨#[100]⟩), (ayAdd ⟨#[101]⟩), ayRem] [(ayAdd ⟨#[100]⟩), (ayAdd ⟨#[101]⟩)] v9 (HG.out.ext (HX.out.trans hv)) (HLQ.out.ext hv) ((HLQ.out.ext hv).take 2) rfl rfl (by omega) (by omega) (by simp [HF.out.1, HF.out.2.1, HF.out.2.2]) (by simp [HF.out.1, HF.out.2.1, HF.out.2.2]))
  rw [ay_short] at HS2
  refine wpAnyH_one (i := 30) (by kernel_rfl) rfl (by kernel_rfl) ?_
  go_simp
  refine (HS2.out).mono ?_
  rintro e v10 ⟨rfl, hx0⟩
  clear HS2
  have hv2 := hv.trans hx0
  clear hv hx0
  have hv := hv2
  clear hv2
  refine ⟨hv, ?_⟩
  try simp only [Act.put, List.setIfInBounds_toArray, List.set_cons_zero, List.set_cons_succ]
  refine take_free (i := 31) (v := .bool true) rfl rfl (by kernel_rfl) (by kernel_rfl) (by kernel_rfl) (by kernel_rfl) (fun _ => rfl) hv ?_
  try simp only [Act.put, List.setIfInBounds_toArray, List.set_cons_zero, List.set_cons_succ]
  refine take_free (i := 32) (v := .bool true) rfl rfl (by kernel_rfl) (by kernel_rfl) (by kernel_rfl) (by kernel_rfl) (fun _ => rfl) hv ?_
  try simp only [Act.put, List.setIfInBounds_toArray, List.set_cons_zero, List.set_cons_succ]
  refine take_free (i := 33) (v := .bool true) rfl rfl (by kernel_rfl) (by kernel_rfl) (by kernel_rfl) (by kernel_rfl) (fun _ => rfl) hv ?_
  try simp only [Act.put, List.setIfInBounds_toArray, List.set_cons_zero, List.set_cons_succ]
  refine wpAnyH_done (by kernel_rfl) (NoPanic.normal ?_) _
  have hx := HX.out.trans hv
  clear HX hv
  go_wp2_with fail
  (go_ret; refine Ret.mk ?_ ?_; (focus (rfl; done)); (focus ((repeat (first | with_reducible exact hx | with_reducible exact Ext.refl _ | with_reducible refine Ext.alloc ?_ _ | with_reducible refine Ext.drewN ?_ _ | with_reducible refine Ext.drew1 ?_ | ((with_reducible refine Ext.setCell ?_ ?_ _); rotate_left; (focus (first | (dsimp only; omega) | (simp; done) | (simp; omega)))))); done)))
end Go.Proofs.YtgfiddlmeopebaaGreatDoor
