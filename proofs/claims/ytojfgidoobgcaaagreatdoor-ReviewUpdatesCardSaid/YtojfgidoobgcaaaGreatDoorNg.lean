/- Walks: votes checked. -/
import Derived.Test.YtojfgidoobgcaaaGreatDoorNf
import Derived.Test.YtojfgidoobgcaaaGreatDoorNe
set_option linter.unusedSimpArgs false
set_option linter.unusedVariables false
namespace Go.Proofs.YtojfgidoobgcaaaGreatDoor
open Go Go.RowKit

theorem vsize_zero {s : ByteArray} (h : s.toList.isEmpty = true) : s.size = 0 := by
  rw [ByteArray.toList_eq] at h
  have := List.isEmpty_iff.1 h
  have h2 : s.data.toList.length = 0 := by rw [this]; rfl
  exact h2

set_option maxHeartbeats 4000000 in
theorem rname_same (s : ByteArray) (w : World) (hs : s.size ≤ 4611686018427387904) :
    Calls Tryz.prog 75 #[.string s] w (Same (.bool (Qm.isName s)) w) := by
  go_enter Tryz.func75, Tryz.ntmps75
  have hx := Ext.refl w
  go_wp2
  go_loop [3] (fun i => ∃ k : Nat, k ≤ s.size ∧ i = .int .i64 k ∧ (s.data.toList.take k).all Qm.nameChar = true) (fun i => s.size - (intOf i).toNat)
  case atStart => exact ⟨0, Nat.zero_le _, rfl, rfl⟩
  case round =>
    obtain ⟨k, hk, rfl, hall⟩ := hrel
    have Hall := Lib.hid hall
    clear hall
    by_cases hlt : k < s.size
    · cases hch : Qm.nameChar s[k]
      all_goals
        go_wp2
        all_goals first
          | (exfalso; simp [Qm.nameChar] at hch; omega)
          | (go_ret; refine Same.mk ?_; rw [Qm.not_all s k hlt hch]; exact rfl)
          | (refine ⟨⟨k + 1, hlt, rfl, Qm.all_snoc s k hlt Hall.out hch⟩, ?_⟩; simp [intOf]; omega)
          | (exfalso; simp [Qm.nameChar] at hch; simp only [Bool.not_eq_eq_eq_not, Bool.not_false, Bool.not_true, decide_eq_true_eq, decide_eq_false_iff_not, beq_iff_eq, bne_iff_ne, ne_eq, Bool.or_eq_true, Bool.and_eq_true, beq_eq_false_iff_ne] at *; omega)
    · obtain rfl : k = s.size := by omega
      have hall : s.data.toList.all Qm.nameChar = true := by have h0 := Hall.out; rwa [List.take_of_length_le (by simp)] at h0
      have Hall2 := Lib.hid hall
      clear hall
      go_wp2
      all_goals (go_ret; refine Same.mk ?_; refine congrArg Value.bool ?_)
      all_goals
        have hE : s.size < 1 → s.toList = [] := fun h => by rw [ByteArray.toList_eq]; exact List.length_eq_zero_iff.1 (by have : s.data.toList.length = s.size := rfl; omega)
        have hF : 1 ≤ s.size → s.toList.isEmpty = false := fun h => by
          cases e : s.toList.isEmpty
          · rfl
          · have := vsize_zero e; omega
        first
          | (have e1 := hE (by omega); simp [Qm.isName, Hall2.out, e1]; done)
          | (have e2 := hF (by omega); have e3 : decide (s.size ≤ 40) = true := decide_eq_true (by omega); simp [Qm.isName, Hall2.out, e2, e3, *]; done)
          | (have e2 := hF (by omega); have e3 : decide (s.size ≤ 40) = false := decide_eq_false (by omega); simp [Qm.isName, Hall2.out, e2, e3, *]; done)

/-- No length near memory's end. -/
structure Vt.Fits (v : Vt) : Prop where
  who : v.who.size ≤ 1000000000
  text : v.text.size ≤ 4611686018427387904
  ids : v.ids.length ≤ 1000000000

set_option maxHeartbeats 4000000 in
set_option maxRecDepth 100000 in
/-- quilt/review.checkVote. -/
theorem cvote_any (c : List Value) (v : Vt) (w : World) (hg : Glob w) {F : Nat → Prop} (h : Vot w F c v) (hf : v.Fits) :
    Calls Tryz.prog 70 #[.agg c.toArray] w (Ret (.int .i64 (Vw.vote v)) w) := by
  obtain ⟨A, n, m, rfl, hn, hm, hd⟩ := h
  have HN : Hid (∀ W, Ext w W → Calls Tryz.prog 66 #[.string v.who] W (Ret (.bool (Qm.isName v.who)) W)) := Lib.hid fun W hW => vname_any v.who W (hg.ext hW) hf.who
  have HD : Hid (∀ W, Ext w W → Calls Tryz.prog 61 #[.slice A n m] W (Ret (.int .i64 (Vw.ids v.ids)) W)) := Lib.hid fun W hW => vids_any A n m v.ids W (hd.ext hW) hn (by rw [← hn]; exact hf.ids)
  have ht := hf.text
  have HR : Hid (Vw.vote v = if Qm.isName v.who = false then 5 else if v.kind < 1 ∨ 3 < v.kind then 8 else if 1000 < v.text.size then 4 else Vw.ids v.ids) := Lib.hid rfl
  generalize Vw.vote v = R at HR ⊢
  generalize Vw.ids v.ids = E at HD HR
  generalize Qm.isName v.who = q at HN HR
  generalize v.kind = kd at HR ⊢
  clear hd hn hm hg hf
  go_enter Tryz.func70, Tryz.ntmps70
  have hx := Ext.refl w
  go_wp2_with fail
  refine (HN.out _ (hx.alloc _)).mono ?_
  rintro e w1 ⟨rfl, hx0⟩
  have hy := Ext.trans (a := w) EX hx0; clear hx; have hx := hy; clear hy; have hn0 := BB hx0 (w.heap.size); (first | simp [↓heap_drew_at, ↓heap_drewN_at, ↓heap_alloc_at, ↓heap_set_at, ne_two, ne_three, ne_two_left, ne_three_left, ↓hb0.eq, hb0.lt, hb0.ne] at hn0 | simp [↓heap_drew_at, ↓heap_drewN_at, ↓heap_alloc_at, ↓heap_set_at, ne_two, ne_three, ne_two_left, ne_three_left] at hn0); (try clear hb0 hc0 hf0 hl0); have hb0 := Blk.mk hn0; clear hn0; obtain ⟨hc0, hf0, hl0⟩ := hb0.all; (try clear hx0)
  cases q
  · have hv : R = 5 := by rw [HR.out]; rfl
    clear HR
    subst hv
    go_wp2_with fail
    (go_ret; refine Ret.mk ?_ ?_; (focus (rfl; done)); (focus (exact EX; done)))
  by_cases hk : kd < 1 ∨ 3 < kd
  · have hv : R = 8 := by rw [HR.out, if_neg (by decide), if_pos hk]
    clear HR
    subst hv
    by_cases k1 : kd < 1
    · have k2 : decide (kd < 1) = true := decide_eq_true k1
      go_wp2_with fail
      all_goals (go_ret; refine Ret.mk ?_ ?_; (focus (rfl; done)); (focus (exact EX; done)))
    · have k2 : decide (kd < 1) = false := decide_eq_false k1
      have k3 : decide (3 < kd) = true := decide_eq_true (by omega)
      go_wp2_with fail
      all_goals (go_ret; refine Ret.mk ?_ ?_; (focus (rfl; done)); (focus (exact EX; done)))
  have k2 : decide (kd < 1) = false := decide_eq_false (by omega)
  have k3 : decide (3 < kd) = false := decide_eq_false (by omega)
  by_cases hs : 1000 < v.text.size
  · have hv : R = 4 := by rw [HR.out, if_neg (by decide), if_neg hk, if_pos hs]
    clear HR
    subst hv
    have k4 : decide (1000 < (v.text.size : Int)) = true := by simp; omega
    go_wp2_with fail
    all_goals (go_ret; refine Ret.mk ?_ ?_; (focus (rfl; done)); (focus (exact EX; done)))
  have hv : R = E := by rw [HR.out, if_neg (by decide), if_neg hk, if_neg hs]
  clear HR
  subst hv
  have k4 : decide (1000 < (v.text.size : Int)) = false := by simp; omega
  have HX := Lib.hid hx
  go_wp2_with fail
  refine (HD.out _ HX.out).mono ?_
  rintro e w2 ⟨rfl, hx0⟩
  have hx := HX.out.trans hx0
  clear hx0
  go_wp2_with fail
  (go_ret; refine Ret.mk ?_ ?_; (focus (rfl; done)); (focus (exact EX; done)))

set_option maxHeartbeats 4000000 in
set_option maxRecDepth 100000 in
/-- quilt/quiltref55.vote. -/
theorem rvote_any (c : List Value) (v : Vt) (w : World) (hg : Glob w) {F : Nat → Prop} (h : Vot w F c v) (hf : v.Fits) :
    Calls Tryz.prog 77 #[.agg c.toArray] w (Ret (.int .i64 (Vw.vote v)) w) := by
  obtain ⟨A, n, m, rfl, hn, hm, hd⟩ := h
  have HN : Hid (∀ W, Ext w W → Calls Tryz.prog 75 #[.string v.who] W (Ret (.bool (Qm.isName v.who)) W)) := Lib.hid fun W hW => (rname_same v.who W (Nat.le_trans hf.who (by decide))).mono fun _ _ h => ⟨h.1, by rw [h.2]; exact Ext.refl _⟩
  have HD : Hid (∀ W, Ext w W → Calls Tryz.prog 76 #[.slice A n m] W (Ret (.int .i64 (Vw.ids v.ids)) W)) := Lib.hid fun W hW => rids_any A n m v.ids W (hd.ext hW) hn (by rw [← hn]; exact hf.ids)
  have ht := hf.text
  have HR : Hid (Vw.vote v = if Qm.isName v.who = false then 5 else if v.kind < 1 ∨ 3 < v.kind then 8 else if 1000 < v.text.size then 4 else Vw.ids v.ids) := Lib.hid rfl
  generalize Vw.vote v = R at HR ⊢
  generalize Vw.ids v.ids = E at HD HR
  generalize Qm.isName v.who = q at HN HR
  generalize v.kind = kd at HR ⊢
  clear hd hn hm hg hf
  go_enter Tryz.func77, Tryz.ntmps77
  have hx := Ext.refl w
  go_wp2_with fail
  refine (HN.out _ (hx.alloc _)).mono ?_
  rintro e w1 ⟨rfl, hx0⟩
  have hy := Ext.trans (a := w) EX hx0; clear hx; have hx := hy; clear hy; have hn0 := BB hx0 (w.heap.size); (first | simp [↓heap_drew_at, ↓heap_drewN_at, ↓heap_alloc_at, ↓heap_set_at, ne_two, ne_three, ne_two_left, ne_three_left, ↓hb0.eq, hb0.lt, hb0.ne] at hn0 | simp [↓heap_drew_at, ↓heap_drewN_at, ↓heap_alloc_at, ↓heap_set_at, ne_two, ne_three, ne_two_left, ne_three_left] at hn0); (try clear hb0 hc0 hf0 hl0); have hb0 := Blk.mk hn0; clear hn0; obtain ⟨hc0, hf0, hl0⟩ := hb0.all; (try clear hx0)
  cases q
  · have hv : R = 5 := by rw [HR.out]; rfl
    clear HR
    subst hv
    go_wp2_with fail
    (go_ret; refine Ret.mk ?_ ?_; (focus (rfl; done)); (focus (exact EX; done)))
  by_cases hk : kd < 1 ∨ 3 < kd
  · have hv : R = 8 := by rw [HR.out, if_neg (by decide), if_pos hk]
    clear HR
    subst hv
    by_cases k1 : kd < 1
    · have k2 : decide (kd < 1) = true := decide_eq_true k1
      go_wp2_with fail
      all_goals (go_ret; refine Ret.mk ?_ ?_; (focus (rfl; done)); (focus (exact EX; done)))
    · have k2 : decide (kd < 1) = false := decide_eq_false k1
      have k3 : decide (3 < kd) = true := decide_eq_true (by omega)
      go_wp2_with fail
      all_goals (go_ret; refine Ret.mk ?_ ?_; (focus (rfl; done)); (focus (exact EX; done)))
  have k2 : decide (kd < 1) = false := decide_eq_false (by omega)
  have k3 : decide (3 < kd) = false := decide_eq_false (by omega)
  by_cases hs : 1000 < v.text.size
  · have hv : R = 4 := by rw [HR.out, if_neg (by decide), if_neg hk, if_pos hs]
    clear HR
    subst hv
    have k4 : decide (1000 < (v.text.size : Int)) = true := by simp; omega
    go_wp2_with fail
    all_goals (go_ret; refine Ret.mk ?_ ?_; (focus (rfl; done)); (focus (exact EX; done)))
  have hv : R = E := by rw [HR.out, if_neg (by decide), if_neg hk, if_neg hs]
  clear HR
  subst hv
  have k4 : decide (1000 < (v.text.size : Int)) = false := by simp; omega
  have HX := Lib.hid hx
  go_wp2_with fail
  refine (HD.out _ HX.out).mono ?_
  rintro e w2 ⟨rfl, hx0⟩
  have hx := HX.out.trans hx0
  clear hx0
  go_wp2_with fail
  (go_ret; refine Ret.mk ?_ ?_; (focus (rfl; done)); (focus (exact EX; done)))
end Go.Proofs.YtojfgidoobgcaaaGreatDoor
