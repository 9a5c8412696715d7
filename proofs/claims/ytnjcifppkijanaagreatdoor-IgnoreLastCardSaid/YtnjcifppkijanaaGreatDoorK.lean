/- Walks: the check of a hunk of lines. -/
import Derived.Test.YtnjcifppkijanaaGreatDoorH
import Derived.Test.YtnjcifppkijanaaGreatDoorD
import Derived.Test.YtnjcifppkijanaaGreatDoorJ
set_option linter.unusedSimpArgs false
set_option linter.unusedVariables false
namespace Go.Proofs.YtnjcifppkijanaaGreatDoor
open Go.RowKit

def Pv.hunk (p : Pv) : Hv := ⟨p.at_, p.A1, p.n1, p.c1, p.A2, p.n2, p.c2⟩
def Pv.linesCheck (p : Pv) (o n : List ByteArray) : Int :=
  if p.hunk.check ≠ 0 then p.hunk.check else if 2000 < p.n1 ∨ 2000 < p.n2 then 4 else if (o ++ n).all Qm.validLine = false then 3 else if o = n then 1 else 0

set_option maxHeartbeats 4000000 in
set_option maxRecDepth 100000 in
theorem checkLines_any (p : Pv) (o n : List ByteArray) (w : World) (h1 : Sl w p.A1 p.n1 p.c1 o) (h2 : Sl w p.A2 p.n2 p.c2 n) (b1 : p.n1 ≤ 1152921504606846976) (b2 : p.n2 ≤ 1152921504606846976) :
    Calls Tryz.prog 212 #[p.v] w (Ret (.int .i64 (p.linesCheck o n)) w) := by
  have H1 := Lib.hid h1
  have H2 := Lib.hid h2
  clear h1 h2
  by_cases hc : p.hunk.check = 0
  · by_cases h4 : 2000 < p.n1 ∨ 2000 < p.n2
    · have hv : p.linesCheck o n = 4 := by rw [Pv.linesCheck, if_neg (by simp [hc]), if_pos h4]
      rw [hv]
      have Hc := Lib.hid hc
      clear hv hc
      go_enter Tryz.func212, Tryz.ntmps212
      have hx := Ext.refl w
      go_wp2_with (go_at_call 213; refine (hcheck_any p.hunk _ _ ⟨b1, b2⟩ (Blk.new' (by simp))).mono ?_; rintro e w1 ⟨rfl, hx0⟩; have hy := Ext.trans (a := w) EX hx0; clear hx; have hx := hy; clear hy; have hn0 := BB hx0 (w.heap.size); have hn1 := BB hx0 (w.heap.size + 1); (first | simp [↓heap_drew_at, ↓heap_drewN_at, ↓heap_alloc_at, ↓heap_set_at, ne_two, ne_three, ne_two_left, ne_three_left, ↓hb0.eq, hb0.lt, hb0.ne, ↓hb1.eq, hb1.lt, hb1.ne] at hn0 hn1 | simp [↓heap_drew_at, ↓heap_drewN_at, ↓heap_alloc_at, ↓heap_set_at, ne_two, ne_three, ne_two_left, ne_three_left] at hn0 hn1); (try clear hb0 hc0 hf0 hl0); (try clear hb1 hc1 hf1 hl1); have hb0 := Blk.mk hn0; clear hn0; obtain ⟨hc0, hf0, hl0⟩ := hb0.all; have hb1 := Blk.mk hn1; clear hn1; obtain ⟨hc1, hf1, hl1⟩ := hb1.all; (try clear hx0); rw [Hc.out])
      all_goals first
        | (go_ret; refine Ret.mk ?_ ?_; (focus (rfl; done)); (focus (exact EX; done)))
        | (exfalso; omega)
    · have hv : p.linesCheck o n = if (o ++ n).all Qm.validLine = false then 3 else if o = n then 1 else 0 := by rw [Pv.linesCheck, if_neg (by simp [hc]), if_neg h4]
      generalize p.linesCheck o n = R at hv ⊢
      have Hv := Lib.hid hv
      have Hc := Lib.hid hc
      have m1 : p.n1 ≤ 2000 := by omega
      have m2 : p.n2 ≤ 2000 := by omega
      clear hv hc h4
      go_enter Tryz.func212, Tryz.ntmps212
      have hx := Ext.refl w
      go_wp2_with fail
      go_at_call 213; refine (hcheck_any p.hunk _ _ ⟨b1, b2⟩ (Blk.new' (by simp))).mono ?_; rintro e w1 ⟨rfl, hx0⟩; have hy := Ext.trans (a := w) EX hx0; clear hx; have hx := hy; clear hy; have hn0 := BB hx0 (w.heap.size); have hn1 := BB hx0 (w.heap.size + 1); (first | simp [↓heap_drew_at, ↓heap_drewN_at, ↓heap_alloc_at, ↓heap_set_at, ne_two, ne_three, ne_two_left, ne_three_left, ↓hb0.eq, hb0.lt, hb0.ne, ↓hb1.eq, hb1.lt, hb1.ne] at hn0 hn1 | simp [↓heap_drew_at, ↓heap_drewN_at, ↓heap_alloc_at, ↓heap_set_at, ne_two, ne_three, ne_two_left, ne_three_left] at hn0 hn1); (try clear hb0 hc0 hf0 hl0); (try clear hb1 hc1 hf1 hl1); have hb0 := Blk.mk hn0; clear hn0; obtain ⟨hc0, hf0, hl0⟩ := hb0.all; have hb1 := Blk.mk hn1; clear hn1; obtain ⟨hc1, hf1, hl1⟩ := hb1.all; (try clear hx0)
      rw [Hc.out]
      go_wp2_with fail
      refine (concat_any _ _ _ _ _ _ _ o n _ (Blk.new' (by rfl)) (H1.out.ext EX) (H2.out.ext EX) (by omega) (by omega) (by omega)).mono ?_
      rintro e w1 ⟨A, c, rfl, hs, hx0⟩
      have hy := Ext.trans (a := w) EX hx0; clear hx; have hx := hy; clear hy; have hn0 := BB hx0 (w.heap.size); have hn1 := BB hx0 (w.heap.size + 1); (first | simp [↓heap_drew_at, ↓heap_drewN_at, ↓heap_alloc_at, ↓heap_set_at, ne_two, ne_three, ne_two_left, ne_three_left, ↓hb0.eq, hb0.lt, hb0.ne, ↓hb1.eq, hb1.lt, hb1.ne] at hn0 hn1 | simp [↓heap_drew_at, ↓heap_drewN_at, ↓heap_alloc_at, ↓heap_set_at, ne_two, ne_three, ne_two_left, ne_three_left] at hn0 hn1); (try clear hb0 hc0 hf0 hl0); (try clear hb1 hc1 hf1 hl1); have hb0 := Blk.mk hn0; clear hn0; obtain ⟨hc0, hf0, hl0⟩ := hb0.all; have hb1 := Blk.mk hn1; clear hn1; obtain ⟨hc1, hf1, hl1⟩ := hb1.all; (try clear hx0)
      have hlen : (o ++ n).length = p.n1 + p.n2 := hs.1.1
      generalize hL : o ++ n = L at *
      generalize hN : p.n1 + p.n2 = N at *
      have HL := Lib.hid hL
      have HN := Lib.hid hN
      have Hs := Lib.hid hs
      clear hL hN hs
      have hN2 : N ≤ 4000 := by have := HN.out; omega
      go_wp2_with fail
      go_loop [34] (fun i => ∃ k : Nat, k ≤ N ∧ i = .int .i64 k ∧ (L.take k).all Qm.validLine = true) (fun i => N - (intOf i).toNat)
      case atStart => exact ⟨0, Nat.zero_le _, rfl, rfl⟩
      case round =>
        obtain ⟨k, hk, rfl, hall⟩ := hrel
        have Hall := Lib.hid hall
        clear hall
        by_cases hlt : k < N
        · obtain ⟨bb, oo, rfl, _, hcl⟩ := Hs.out.1.2 (by omega)
          have hck := hcl k hlt
          have e1 : L[k]? = some (L.getD k ByteArray.empty) := by simp [List.getD, List.getElem?_eq_getElem (show k < L.length by omega)]
          generalize L.getD k ByteArray.empty = x at hck e1
          have HE := Lib.hid e1
          clear e1 hcl
          go_wp2_with (go_at_call 215; refine (lineValid_same _ _).mono ?_; rintro e w2 ⟨rfl, rfl⟩)
          all_goals rename_i hnm
          · have hnm2 : Qm.validLine x = false := by simpa using hnm
            have hall : L.all Qm.validLine = false := by
              rw [List.all_eq_false]
              exact ⟨x, List.mem_of_getElem? HE.out, by rw [hnm2]; exact Bool.false_ne_true⟩
            have hv := Hv.out
            rw [if_pos hall] at hv
            (go_ret; refine Ret.mk ?_ ?_; (focus (rw [hv]; rfl; done)); (focus (exact EX; done)))
          · have hnm2 : Qm.validLine x = true := by simpa using hnm
            refine ⟨⟨k + 1, hlt, rfl, ?_⟩, ?_⟩
            · rw [List.take_add_one, HE.out, List.all_append, Hall.out]
              simp [hnm2]
            · simp [intOf]
              omega
        · obtain rfl : k = N := by omega
          have hall : L.all Qm.validLine = true := by have h0 := Hall.out; rwa [List.take_of_length_le (by omega)] at h0
          have hv := Hv.out
          rw [if_neg (by rw [hall]; exact Bool.noConfusion)] at hv
          clear hall
          by_cases ho : o = n
          all_goals
            first | rw [if_pos ho] at hv | rw [if_neg ho] at hv
            have HV := Lib.hid hv
            have Ho := Lib.hid ho
            clear hv ho Hv
            go_wp2_with fail
            refine (sequal_any _ _ _ _ _ _ o n _ (H1.out.ext hx).1 (H2.out.ext hx).1 (by omega) (by omega)).mono ?_
            rintro e w2 ⟨rfl, hx0⟩
            have hy := Ext.trans (a := w) EX hx0; clear hx; have hx := hy; clear hy; have hn0 := BB hx0 (w.heap.size); have hn1 := BB hx0 (w.heap.size + 1); (first | simp [↓heap_drew_at, ↓heap_drewN_at, ↓heap_alloc_at, ↓heap_set_at, ne_two, ne_three, ne_two_left, ne_three_left, ↓hb0.eq, hb0.lt, hb0.ne, ↓hb1.eq, hb1.lt, hb1.ne] at hn0 hn1 | simp [↓heap_drew_at, ↓heap_drewN_at, ↓heap_alloc_at, ↓heap_set_at, ne_two, ne_three, ne_two_left, ne_three_left] at hn0 hn1); (try clear hb0 hc0 hf0 hl0); (try clear hb1 hc1 hf1 hl1); have hb0 := Blk.mk hn0; clear hn0; obtain ⟨hc0, hf0, hl0⟩ := hb0.all; have hb1 := Blk.mk hn1; clear hn1; obtain ⟨hc1, hf1, hl1⟩ := hb1.all; (try clear hx0)
            first | rw [decide_eq_true Ho.out] | rw [decide_eq_false Ho.out]
            go_wp2_with fail
          all_goals (go_ret; refine Ret.mk ?_ ?_; (focus (rw [HV.out]; rfl; done)); (focus (exact EX; done)))
  · have hv : p.linesCheck o n = p.hunk.check := by rw [Pv.linesCheck, if_pos hc]
    have hc2 : (p.hunk.check != 0) = true := by simpa using hc
    rw [hv]
    clear hv hc
    go_enter Tryz.func212, Tryz.ntmps212
    have hx := Ext.refl w
    go_wp2_with (go_at_call 213; refine (hcheck_any p.hunk _ _ ⟨b1, b2⟩ (Blk.new' (by simp))).mono ?_; rintro e w1 ⟨rfl, hx0⟩; have hy := Ext.trans (a := w) EX hx0; clear hx; have hx := hy; clear hy; have hn0 := BB hx0 (w.heap.size); have hn1 := BB hx0 (w.heap.size + 1); (first | simp [↓heap_drew_at, ↓heap_drewN_at, ↓heap_alloc_at, ↓heap_set_at, ne_two, ne_three, ne_two_left, ne_three_left, ↓hb0.eq, hb0.lt, hb0.ne, ↓hb1.eq, hb1.lt, hb1.ne] at hn0 hn1 | simp [↓heap_drew_at, ↓heap_drewN_at, ↓heap_alloc_at, ↓heap_set_at, ne_two, ne_three, ne_two_left, ne_three_left] at hn0 hn1); (try clear hb0 hc0 hf0 hl0); (try clear hb1 hc1 hf1 hl1); have hb0 := Blk.mk hn0; clear hn0; obtain ⟨hc0, hf0, hl0⟩ := hb0.all; have hb1 := Blk.mk hn1; clear hn1; obtain ⟨hc1, hf1, hl1⟩ := hb1.all; (try clear hx0))
    (go_ret; refine Ret.mk ?_ ?_; (focus (rfl; done)); (focus (exact EX; done)))
end Go.Proofs.YtnjcifppkijanaaGreatDoor
