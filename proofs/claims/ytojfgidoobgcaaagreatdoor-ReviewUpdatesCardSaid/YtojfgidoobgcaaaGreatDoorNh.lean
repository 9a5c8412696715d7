/- Walks: reviews checked. -/
import Derived.Test.YtojfgidoobgcaaaGreatDoorNg
set_option linter.unusedSimpArgs false
set_option linter.unusedVariables false
namespace Go.Proofs.YtojfgidoobgcaaaGreatDoor
open Go Go.RowKit

/-- No length near memory's end. -/
structure Rv.Fits (r : Rv) : Prop where
  author : r.author.size ≤ 1000000000
  branch : r.branch.size ≤ 1000000000
  ids : r.ids.length ≤ 1000000000
  votes : r.votes.length ≤ 1000000000
  each : ∀ v ∈ r.votes, v.Fits
theorem votes_at : ∀ {l : List Vt} {k : Nat} {v : Vt}, (∀ x ∈ l.take k, Vw.vote x = 0) → l[k]? = some v → Vw.vote v ≠ 0 → Vw.votes l = Vw.vote v
  | [], _, _, _, h, _ => by simp at h
  | x :: l, 0, v, _, h, h1 => by
    obtain rfl : x = v := by simpa using h
    unfold Vw.votes
    rw [if_pos h1]
  | x :: l, k + 1, v, h0, h, h1 => by
    unfold Vw.votes
    rw [if_neg (by rw [h0 x (by simp)]; simp)]
    exact votes_at (fun y hy => h0 y (by rw [List.take_succ_cons]; exact List.mem_cons_of_mem _ hy)) (by simpa using h) h1
theorem votes_ok : ∀ {l : List Vt}, (∀ x ∈ l, Vw.vote x = 0) → Vw.votes l = 0
  | [], _ => rfl
  | x :: l, h => by
    unfold Vw.votes
    rw [if_neg (by rw [h x (by simp)]; simp)]
    exact votes_ok fun y hy => h y (List.mem_cons_of_mem _ hy)
theorem take_ok {l : List Vt} {k : Nat} {v : Vt} (h : ∀ x ∈ l.take k, Vw.vote x = 0) (e : l[k]? = some v) (hv : Vw.vote v = 0) : ∀ x ∈ l.take (k + 1), Vw.vote x = 0 := by
  intro x hx
  rw [List.take_add_one, e] at hx
  rcases List.mem_append.1 hx with hx | hx
  · exact h x hx
  · obtain rfl : x = v := by simpa using hx
    exact hv
/-- Four cells of a row. -/
theorem cells4 {W : World} {b o : Nat} {a c d e : Value} (h : W.rangeAt b o [a, c, d, e]) : W.cell? ⟨b, o, none⟩ = some a ∧ W.cell? ⟨b, o + 1, none⟩ = some c ∧ W.cell? ⟨b, o + 2, none⟩ = some d ∧ W.cell? ⟨b, o + 3, none⟩ = some e :=
  ⟨h 0 a rfl, h 1 c rfl, h 2 d rfl, h 3 e rfl⟩

set_option maxHeartbeats 8000000 in
set_option maxRecDepth 100000 in
/-- review.checkReview. -/
theorem creview_any (c : List Value) (r : Rv) (w : World) (hg : Glob w) {F : Nat → Prop} (h : Rev w F c r) (hf : r.Fits) :
    Calls Tryz.prog 45 #[.agg c.toArray] w (Ret (.int .i64 (Vw.body r)) w) := by
  obtain ⟨A, n, m, B, p, q, rfl, ⟨hn, hm, hd⟩, hp, hpq, hv⟩ := h
  have HN1 : Hid (∀ W, Ext w W → Calls Tryz.prog 66 #[.string r.author] W (Ret (.bool (Qm.isName r.author)) W)) := Lib.hid fun W hW => vname_any r.author W (hg.ext hW) hf.author
  have HN2 : Hid (∀ W, Ext w W → Calls Tryz.prog 66 #[.string r.branch] W (Ret (.bool (Qm.isName r.branch)) W)) := Lib.hid fun W hW => vname_any r.branch W (hg.ext hW) hf.branch
  have HD : Hid (∀ W, Ext w W → Calls Tryz.prog 61 #[.slice A n m] W (Ret (.int .i64 (Vw.ids r.ids)) W)) := Lib.hid fun W hW => vids_any A n m r.ids W (hd.ext hW) hn (by rw [← hn]; exact hf.ids)
  have HVs := Lib.hid hv
  have HG := Lib.hid hg
  have HF := Lib.hid hf.each
  have hpb : p ≤ 1000000000 := by rw [← hp]; exact hf.votes
  have HP := Lib.hid hp
  have HR : Hid (Vw.body r = if Qm.isName r.author = false ∨ Qm.isName r.branch = false then 5 else if Vw.ids r.ids ≠ 0 then Vw.ids r.ids else if r.state < 1 ∨ 5 < r.state then 8 else if 100 < p then 4 else Vw.votes r.votes) := Lib.hid (by rw [← hp]; rfl)
  generalize Vw.body r = R at HR ⊢
  generalize Vw.ids r.ids = E at HD HR
  generalize Qm.isName r.author = q1 at HN1 HR
  generalize Qm.isName r.branch = q2 at HN2 HR
  generalize r.state = st at HR ⊢
  generalize r.votes = l at HR HVs HF HP
  clear hd hn hm hg hf hv hp hpq
  go_enter Tryz.func45, Tryz.ntmps45
  have hx := Ext.refl w
  go_wp2_with fail
  refine (HN1.out _ (hx.alloc _)).mono ?_
  rintro e w1 ⟨rfl, hx0⟩
  have hy := Ext.trans (a := w) EX hx0; clear hx; have hx := hy; clear hy; have hn0 := BB hx0 (w.heap.size); (first | simp [↓heap_drew_at, ↓heap_drewN_at, ↓heap_alloc_at, ↓heap_set_at, ne_two, ne_three, ne_two_left, ne_three_left, ↓hb0.eq, hb0.lt, hb0.ne] at hn0 | simp [↓heap_drew_at, ↓heap_drewN_at, ↓heap_alloc_at, ↓heap_set_at, ne_two, ne_three, ne_two_left, ne_three_left] at hn0); (try clear hb0 hc0 hf0 hl0); have hb0 := Blk.mk hn0; clear hn0; obtain ⟨hc0, hf0, hl0⟩ := hb0.all; (try clear hx0)
  cases q1
  · have hv : R = 5 := by rw [HR.out]; rfl
    clear HR
    subst hv
    go_wp2_with fail
    (go_ret; refine Ret.mk ?_ ?_; (focus (rfl; done)); (focus (exact EX; done)))
  have HX := Lib.hid hx
  go_wp2_with fail
  refine (HN2.out _ HX.out).mono ?_
  rintro e w2 ⟨rfl, hx0⟩
  have hy := Ext.trans (a := w) EX hx0; clear hx; have hx := hy; clear hy; have hn0 := BB hx0 (w.heap.size); (first | simp [↓heap_drew_at, ↓heap_drewN_at, ↓heap_alloc_at, ↓heap_set_at, ne_two, ne_three, ne_two_left, ne_three_left, ↓hb0.eq, hb0.lt, hb0.ne] at hn0 | simp [↓heap_drew_at, ↓heap_drewN_at, ↓heap_alloc_at, ↓heap_set_at, ne_two, ne_three, ne_two_left, ne_three_left] at hn0); (try clear hb0 hc0 hf0 hl0); have hb0 := Blk.mk hn0; clear hn0; obtain ⟨hc0, hf0, hl0⟩ := hb0.all; (try clear hx0)
  cases q2
  · have hv : R = 5 := by rw [HR.out]; rfl
    clear HR
    subst hv
    go_wp2_with fail
    (go_ret; refine Ret.mk ?_ ?_; (focus (rfl; done)); (focus (exact EX; done)))
  clear HX
  have HX := Lib.hid hx
  go_wp2_with fail
  refine (HD.out _ HX.out).mono ?_
  rintro e w3 ⟨rfl, hx0⟩
  have hy := Ext.trans (a := w) EX hx0; clear hx; have hx := hy; clear hy; have hn0 := BB hx0 (w.heap.size); (first | simp [↓heap_drew_at, ↓heap_drewN_at, ↓heap_alloc_at, ↓heap_set_at, ne_two, ne_three, ne_two_left, ne_three_left, ↓hb0.eq, hb0.lt, hb0.ne] at hn0 | simp [↓heap_drew_at, ↓heap_drewN_at, ↓heap_alloc_at, ↓heap_set_at, ne_two, ne_three, ne_two_left, ne_three_left] at hn0); (try clear hb0 hc0 hf0 hl0); have hb0 := Blk.mk hn0; clear hn0; obtain ⟨hc0, hf0, hl0⟩ := hb0.all; (try clear hx0)
  by_cases hE : E = 0
  rotate_left
  · have hv : R = E := by rw [HR.out, if_neg (by decide), if_pos hE]
    have hk : (E == 0) = false := by simpa using hE
    clear HR
    subst hv
    go_wp2_with fail
    (go_ret; refine Ret.mk ?_ ?_; (focus (rfl; done)); (focus (exact EX; done)))
  subst hE
  by_cases hs : st < 1 ∨ 5 < st
  · have hv : R = 8 := by rw [HR.out, if_neg (by decide), if_neg (by simp), if_pos hs]
    clear HR
    subst hv
    by_cases k1 : st < 1
    · have k2 : decide (st < 1) = true := decide_eq_true k1
      go_wp2_with fail
      all_goals (go_ret; refine Ret.mk ?_ ?_; (focus (rfl; done)); (focus (exact EX; done)))
    · have k2 : decide (st < 1) = false := decide_eq_false k1
      have k3 : decide (5 < st) = true := decide_eq_true (by omega)
      go_wp2_with fail
      all_goals (go_ret; refine Ret.mk ?_ ?_; (focus (rfl; done)); (focus (exact EX; done)))
  have k2 : decide (st < 1) = false := decide_eq_false (by omega)
  have k3 : decide (5 < st) = false := decide_eq_false (by omega)
  by_cases hc : 100 < p
  · have hv : R = 4 := by rw [HR.out, if_neg (by decide), if_neg (by simp), if_neg hs, if_pos hc]
    have k4 : decide (100 < (p : Int)) = true := decide_eq_true (by omega)
    clear HR
    subst hv
    go_wp2_with fail
    all_goals (go_ret; refine Ret.mk ?_ ?_; (focus (rfl; done)); (focus (exact EX; done)))
  have k4 : decide (100 < (p : Int)) = false := decide_eq_false (by omega)
  have HV : Hid (R = Vw.votes l) := Lib.hid (by rw [HR.out, if_neg (by decide), if_neg (by simp), if_neg hs, if_neg hc])
  clear HR HX HD HN1 HN2
  go_wp2_with fail
  go_loopw [38] (fun i wr => ∃ k : Nat, k ≤ p ∧ i = .int .i64 k ∧ Ext w wr ∧ Hid (∀ x ∈ l.take k, Vw.vote x = 0)) (fun i wr => p - (intOf i).toNat)
  case atStart => exact ⟨0, Nat.zero_le _, rfl, hx, Lib.hid (by simp)⟩
  case round =>
    clear hx hb0 hc0 hf0 hl0
    obtain ⟨k, hk, rfl, hx, HO⟩ := hrel
    by_cases hlt : k < p
    · have hkl : k < l.length := by rw [HP.out]; exact hlt
      have e0 : l[k]? = some l[k] := List.getElem?_eq_getElem _
      have fv := HF.out _ (List.mem_of_getElem? e0)
      obtain ⟨b, o, cs, rfl, hbl, _, _, hr, hvt⟩ := (Vs.ext HVs.out hx).get e0
      generalize l[k] = v at e0 fv hvt
      have HC : Hid (∀ W, Ext wr W → Calls Tryz.prog 70 #[.agg cs.toArray] W (Ret (.int .i64 (Vw.vote v)) W)) := Lib.hid fun W hW => cvote_any cs v W (HG.out.ext (hx.trans hW)) (Vot.steadfast.ext hvt hW) fv
      obtain ⟨A', n', m', rfl, _, _, _⟩ := hvt
      obtain ⟨c0, c1, c2, c3⟩ := cells4 hr
      have E0 := Lib.hid e0
      clear hr e0 fv hkl
      obtain ⟨ev, hev⟩ : ∃ ev, ev = Vw.vote v := ⟨_, rfl⟩
      rw [← hev] at HC
      have HE := Lib.hid hev
      clear hev
      go_wp2_with fail
      refine (HC.out _ ((Ext.refl wr).alloc _)).mono ?_
      rintro e w1 ⟨rfl, hx0⟩
      have hx1 := (hx.alloc _).trans hx0
      clear hx
      have hx := hx1
      clear hx1
      by_cases h0 : ev = 0
      · subst h0
        have HO2 := Lib.hid (take_ok HO.out E0.out HE.out.symm)
        clear HO c0 c1 c2 c3 hx0
        go_wp2_with fail
        go_roundw
        case rel => exact ⟨k + 1, hlt, rfl, hx, HO2⟩
        case measure => simp [intOf]; omega
      · have hk0 : (ev == 0) = false := by simpa using h0
        have hv : R = ev := by rw [HV.out, votes_at HO.out E0.out (by rw [← HE.out]; exact h0), HE.out]
        clear HV c0 c1 c2 c3 hx0
        subst hv
        go_wp2_with fail
        (go_ret; refine Ret.mk ?_ ?_; (focus (rfl; done)); (focus (exact EX; done)))
    · obtain rfl : k = p := by omega
      have hv : R = 0 := by
        rw [HV.out]
        refine votes_ok ?_
        have := HO.out
        rwa [← HP.out, List.take_length] at this
      clear HV
      subst hv
      go_wp2_with fail
      (go_ret; refine Ret.mk ?_ ?_; (focus (rfl; done)); (focus (exact EX; done)))
set_option maxHeartbeats 8000000 in
set_option maxRecDepth 100000 in
/-- quiltref55.review. -/
theorem rreview_any (c : List Value) (r : Rv) (num : Int) (w : World) (hg : Glob w) {F : Nat → Prop} (h : Rev w F c r) (hf : r.Fits) :
    Calls Tryz.prog 46 #[.agg c.toArray, .int .i64 num] w (Ret (.int .i64 (if r.number ≠ num then 9 else Vw.body r)) w) := by
  obtain ⟨A, n, m, B, p, q, rfl, ⟨hn, hm, hd⟩, hp, hpq, hv⟩ := h
  have HN1 : Hid (∀ W, Ext w W → Calls Tryz.prog 75 #[.string r.author] W (Ret (.bool (Qm.isName r.author)) W)) := Lib.hid fun W hW => (rname_same r.author W (Nat.le_trans hf.author (by decide))).mono fun _ _ h => ⟨h.1, by rw [h.2]; exact Ext.refl _⟩
  have HN2 : Hid (∀ W, Ext w W → Calls Tryz.prog 75 #[.string r.branch] W (Ret (.bool (Qm.isName r.branch)) W)) := Lib.hid fun W hW => (rname_same r.branch W (Nat.le_trans hf.branch (by decide))).mono fun _ _ h => ⟨h.1, by rw [h.2]; exact Ext.refl _⟩
  have HD : Hid (∀ W, Ext w W → Calls Tryz.prog 76 #[.slice A n m] W (Ret (.int .i64 (Vw.ids r.ids)) W)) := Lib.hid fun W hW => rids_any A n m r.ids W (hd.ext hW) hn (by rw [← hn]; exact hf.ids)
  have HVs := Lib.hid hv
  have HG := Lib.hid hg
  have HF := Lib.hid hf.each
  have hpb : p ≤ 1000000000 := by rw [← hp]; exact hf.votes
  have HP := Lib.hid hp
  have HR : Hid (Vw.body r = if Qm.isName r.author = false ∨ Qm.isName r.branch = false then 5 else if Vw.ids r.ids ≠ 0 then Vw.ids r.ids else if r.state < 1 ∨ 5 < r.state then 8 else if 100 < p then 4 else Vw.votes r.votes) := Lib.hid (by rw [← hp]; rfl)
  by_cases hnum : r.number = num
  rotate_left
  · rw [if_pos hnum]
    have hq : (r.number == num) = false := by simpa using hnum
    generalize r.number = u at hq ⊢
    clear hd hn hm hg hf hv hp hpq HR
    go_enter Tryz.func46, Tryz.ntmps46
    have hx := Ext.refl w
    go_wp2_with fail
    (go_ret; refine Ret.mk ?_ ?_; (focus (rfl; done)); (focus (exact EX; done)))
  rw [if_neg (by simpa using hnum)]
  have hq : (r.number == num) = true := by simpa using hnum
  generalize r.number = u at hq hnum ⊢
  subst hnum
  generalize Vw.body r = R at HR ⊢
  generalize Vw.ids r.ids = E at HD HR
  generalize Qm.isName r.author = q1 at HN1 HR
  generalize Qm.isName r.branch = q2 at HN2 HR
  generalize r.state = st at HR ⊢
  generalize r.votes = l at HR HVs HF HP
  clear hd hn hm hg hf hv hp hpq
  go_enter Tryz.func46, Tryz.ntmps46
  have hx := Ext.refl w
  go_wp2_with fail
  refine (HN1.out _ (hx.alloc _)).mono ?_
  rintro e w1 ⟨rfl, hx0⟩
  have hy := Ext.trans (a := w) EX hx0; clear hx; have hx := hy; clear hy; have hn0 := BB hx0 (w.heap.size); (first | simp [↓heap_drew_at, ↓heap_drewN_at, ↓heap_alloc_at, ↓heap_set_at, ne_two, ne_three, ne_two_left, ne_three_left, ↓hb0.eq, hb0.lt, hb0.ne] at hn0 | simp [↓heap_drew_at, ↓heap_drewN_at, ↓heap_alloc_at, ↓heap_set_at, ne_two, ne_three, ne_two_left, ne_three_left] at hn0); (try clear hb0 hc0 hf0 hl0); have hb0 := Blk.mk hn0; clear hn0; obtain ⟨hc0, hf0, hl0⟩ := hb0.all; (try clear hx0)
  cases q1
  · have hv : R = 5 := by rw [HR.out]; rfl
    clear HR
    subst hv
    go_wp2_with fail
    (go_ret; refine Ret.mk ?_ ?_; (focus (rfl; done)); (focus (exact EX; done)))
  have HX := Lib.hid hx
  go_wp2_with fail
  refine (HN2.out _ HX.out).mono ?_
  rintro e w2 ⟨rfl, hx0⟩
  have hy := Ext.trans (a := w) EX hx0; clear hx; have hx := hy; clear hy; have hn0 := BB hx0 (w.heap.size); (first | simp [↓heap_drew_at, ↓heap_drewN_at, ↓heap_alloc_at, ↓heap_set_at, ne_two, ne_three, ne_two_left, ne_three_left, ↓hb0.eq, hb0.lt, hb0.ne] at hn0 | simp [↓heap_drew_at, ↓heap_drewN_at, ↓heap_alloc_at, ↓heap_set_at, ne_two, ne_three, ne_two_left, ne_three_left] at hn0); (try clear hb0 hc0 hf0 hl0); have hb0 := Blk.mk hn0; clear hn0; obtain ⟨hc0, hf0, hl0⟩ := hb0.all; (try clear hx0)
  cases q2
  · have hv : R = 5 := by rw [HR.out]; rfl
    clear HR
    subst hv
    go_wp2_with fail
    (go_ret; refine Ret.mk ?_ ?_; (focus (rfl; done)); (focus (exact EX; done)))
  clear HX
  have HX := Lib.hid hx
  go_wp2_with fail
  refine (HD.out _ HX.out).mono ?_
  rintro e w3 ⟨rfl, hx0⟩
  have hy := Ext.trans (a := w) EX hx0; clear hx; have hx := hy; clear hy; have hn0 := BB hx0 (w.heap.size); (first | simp [↓heap_drew_at, ↓heap_drewN_at, ↓heap_alloc_at, ↓heap_set_at, ne_two, ne_three, ne_two_left, ne_three_left, ↓hb0.eq, hb0.lt, hb0.ne] at hn0 | simp [↓heap_drew_at, ↓heap_drewN_at, ↓heap_alloc_at, ↓heap_set_at, ne_two, ne_three, ne_two_left, ne_three_left] at hn0); (try clear hb0 hc0 hf0 hl0); have hb0 := Blk.mk hn0; clear hn0; obtain ⟨hc0, hf0, hl0⟩ := hb0.all; (try clear hx0)
  by_cases hE : E = 0
  rotate_left
  · have hv : R = E := by rw [HR.out, if_neg (by decide), if_pos hE]
    have hk : (E == 0) = false := by simpa using hE
    clear HR
    subst hv
    go_wp2_with fail
    (go_ret; refine Ret.mk ?_ ?_; (focus (rfl; done)); (focus (exact EX; done)))
  subst hE
  by_cases hs : st < 1 ∨ 5 < st
  · have hv : R = 8 := by rw [HR.out, if_neg (by decide), if_neg (by simp), if_pos hs]
    clear HR
    subst hv
    by_cases k1 : st < 1
    · have k2 : decide (st < 1) = true := decide_eq_true k1
      go_wp2_with fail
      all_goals (go_ret; refine Ret.mk ?_ ?_; (focus (rfl; done)); (focus (exact EX; done)))
    · have k2 : decide (st < 1) = false := decide_eq_false k1
      have k3 : decide (5 < st) = true := decide_eq_true (by omega)
      go_wp2_with fail
      all_goals (go_ret; refine Ret.mk ?_ ?_; (focus (rfl; done)); (focus (exact EX; done)))
  have k2 : decide (st < 1) = false := decide_eq_false (by omega)
  have k3 : decide (5 < st) = false := decide_eq_false (by omega)
  by_cases hc : 100 < p
  · have hv : R = 4 := by rw [HR.out, if_neg (by decide), if_neg (by simp), if_neg hs, if_pos hc]
    have k4 : decide (100 < (p : Int)) = true := decide_eq_true (by omega)
    clear HR
    subst hv
    go_wp2_with fail
    all_goals (go_ret; refine Ret.mk ?_ ?_; (focus (rfl; done)); (focus (exact EX; done)))
  have k4 : decide (100 < (p : Int)) = false := decide_eq_false (by omega)
  have HV : Hid (R = Vw.votes l) := Lib.hid (by rw [HR.out, if_neg (by decide), if_neg (by simp), if_neg hs, if_neg hc])
  clear HR HX HD HN1 HN2
  go_wp2_with fail
  go_loopw [6] (fun i wr => ∃ k : Nat, k ≤ p ∧ i = .int .i64 k ∧ Ext w wr ∧ Blk wr w.heap.size 28 #[.int .i64 u, .string r.author, .string r.branch, .slice A n m, .int .i64 st, .slice B p q] ∧ Hid (∀ x ∈ l.take k, Vw.vote x = 0)) (fun i wr => p - (intOf i).toNat)
  case atStart => exact ⟨0, Nat.zero_le _, rfl, hx, hb0, Lib.hid (by simp)⟩
  case round =>
    clear hx hb0 hc0 hf0 hl0
    obtain ⟨k, hk, rfl, hx, hb0, HO⟩ := hrel
    obtain ⟨hc0, hf0, hl0⟩ := hb0.all
    by_cases hlt : k < p
    · have hkl : k < l.length := by rw [HP.out]; exact hlt
      have e0 : l[k]? = some l[k] := List.getElem?_eq_getElem _
      have fv := HF.out _ (List.mem_of_getElem? e0)
      obtain ⟨b, o, cs, rfl, hbl, _, _, hr, hvt⟩ := (Vs.ext HVs.out hx).get e0
      generalize l[k] = v at e0 fv hvt
      have HC : Hid (∀ W, Ext wr W → Calls Tryz.prog 77 #[.agg cs.toArray] W (Ret (.int .i64 (Vw.vote v)) W)) := Lib.hid fun W hW => rvote_any cs v W (HG.out.ext (hx.trans hW)) (Vot.steadfast.ext hvt hW) fv
      obtain ⟨A', n', m', rfl, _, _, _⟩ := hvt
      obtain ⟨c0, c1, c2, c3⟩ := cells4 hr
      have E0 := Lib.hid e0
      clear hr e0 fv hkl
      obtain ⟨ev, hev⟩ : ∃ ev, ev = Vw.vote v := ⟨_, rfl⟩
      rw [← hev] at HC
      have HE := Lib.hid hev
      clear hev
      go_wp2_with fail
      refine (HC.out _ (Ext.refl wr)).mono ?_
      rintro e w1 ⟨rfl, hx0⟩
      have hx1 := hx.trans hx0
      clear hx
      have hx := hx1
      clear hx1
      have hb1 := Blk.ext hx0 hb0
      clear hb0 hc0 hf0 hl0
      by_cases h0 : ev = 0
      · subst h0
        have HO2 := Lib.hid (take_ok HO.out E0.out HE.out.symm)
        clear HO c0 c1 c2 c3 hx0
        go_wp2_with fail
        go_roundw
        case rel => exact ⟨k + 1, hlt, rfl, hx, hb1, HO2⟩
        case measure => simp [intOf]; omega
      · have hk0 : (ev == 0) = false := by simpa using h0
        have hv : R = ev := by rw [HV.out, votes_at HO.out E0.out (by rw [← HE.out]; exact h0), HE.out]
        clear HV c0 c1 c2 c3 hx0
        subst hv
        go_wp2_with fail
        (go_ret; refine Ret.mk ?_ ?_; (focus (rfl; done)); (focus (exact EX; done)))
    · obtain rfl : k = p := by omega
      have hv : R = 0 := by
        rw [HV.out]
        refine votes_ok ?_
        have := HO.out
        rwa [← HP.out, List.take_length] at this
      clear HV
      subst hv
      go_wp2_with fail
      (go_ret; refine Ret.mk ?_ ?_; (focus (rfl; done)); (focus (exact EX; done)))
end Go.Proofs.YtojfgidoobgcaaaGreatDoor
