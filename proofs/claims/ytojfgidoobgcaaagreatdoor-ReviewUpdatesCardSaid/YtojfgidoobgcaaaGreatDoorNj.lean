/- Walks: ended reviews; reviews that are great. -/
import Derived.Test.YtojfgidoobgcaaaGreatDoorNi
set_option linter.unusedSimpArgs false
set_option linter.unusedVariables false
namespace Go.Proofs.YtojfgidoobgcaaaGreatDoor
open Go Go.RowKit

/-- No length that no machine has. -/
structure Vt.Wide (v : Vt) : Prop where
  who : v.who.size ≤ 4611686018427387904
  text : v.text.size ≤ 4611686018427387904
  ids : v.ids.length ≤ 4611686018427387904
structure Rv.Wide (r : Rv) : Prop where
  author : r.author.size ≤ 4611686018427387904
  branch : r.branch.size ≤ 4611686018427387904
  ids : r.ids.length ≤ 4611686018427387904
  votes : r.votes.length ≤ 4611686018427387904
  each : ∀ v ∈ r.votes, v.Wide
def Vt.great (v : Vt) : Bool := decide (60 < v.who.size) || (decide (1001 < v.text.size) || decide (10 < v.ids.length))
def Rv.great (r : Rv) : Bool := r.votes.any Vt.great || (decide (60 < r.author.size) || (decide (60 < r.branch.size) || (decide (10 < r.ids.length) || decide (12 < r.votes.length))))
def Vw.great (l : List Rv) : Bool := l.any Rv.great || decide (8 < l.length)
theorem Vt.great_fits {v : Vt} (h : v.great = false) : v.Fits := by
  unfold Vt.great at h
  simp only [Bool.or_eq_false_iff, decide_eq_false_iff_not] at h
  exact ⟨by omega, by omega, by omega⟩
theorem Rv.great_fits {r : Rv} (h : r.great = false) : r.Fits := by
  unfold Rv.great at h
  simp only [Bool.or_eq_false_iff, decide_eq_false_iff_not, List.any_eq_false, Bool.not_eq_true] at h
  exact ⟨by omega, by omega, by omega, by omega, fun v hv => Vt.great_fits (h.1 v hv)⟩

set_option maxHeartbeats 4000000 in
/-- quilt/review.ended. -/
theorem cended_any (c : List Value) (r : Rv) (w : World) {F : Nat → Prop} (h : Rev w F c r) :
    Calls Tryz.prog 47 #[.agg c.toArray] w (Ret (.bool (Vw.ended r)) w) := by
  obtain ⟨A, n, m, B, p, q, rfl, _, _⟩ := h
  have HR : Hid (Vw.ended r = (r.state == 4 || r.state == 5)) := Lib.hid rfl
  generalize Vw.ended r = R at HR ⊢
  generalize r.state = st at HR ⊢
  go_enter Tryz.func47, Tryz.ntmps47
  have hx := Ext.refl w
  by_cases h4 : st = 4
  · have hv : R = true := by rw [HR.out, h4]; rfl
    subst h4
    clear HR
    subst hv
    go_wp2_with fail
    (go_ret; refine Ret.mk ?_ ?_; (focus (rfl; done)); (focus (exact EX; done)))
  have k4 : (st == 4) = false := by simpa using h4
  by_cases h5 : st = 5
  · have hv : R = true := by rw [HR.out, h5]; rfl
    subst h5
    clear HR
    subst hv
    go_wp2_with fail
    (go_ret; refine Ret.mk ?_ ?_; (focus (rfl; done)); (focus (exact EX; done)))
  have k5 : (st == 5) = false := by simpa using h5
  have hv : R = false := by rw [HR.out, k4, k5]; rfl
  clear HR
  subst hv
  go_wp2_with fail
  (go_ret; refine Ret.mk ?_ ?_; (focus (rfl; done)); (focus (exact EX; done)))

set_option maxHeartbeats 4000000 in
/-- quilt/quiltref55.Ended. -/
theorem rended_any (c : List Value) (r : Rv) (w : World) {F : Nat → Prop} (h : Rev w F c r) :
    Calls Tryz.prog 32 #[.agg c.toArray] w (Ret (.bool (Vw.ended r)) w) := by
  obtain ⟨A, n, m, B, p, q, rfl, _, _⟩ := h
  have HR : Hid (Vw.ended r = (r.state == 4 || r.state == 5)) := Lib.hid rfl
  generalize Vw.ended r = R at HR ⊢
  generalize r.state = st at HR ⊢
  go_enter Tryz.func32, Tryz.ntmps32
  have hx := Ext.refl w
  by_cases h4 : st = 4
  · have hv : R = true := by rw [HR.out, h4]; rfl
    subst h4
    clear HR
    subst hv
    go_wp2_with fail
    (go_ret; refine Ret.mk ?_ ?_; (focus (rfl; done)); (focus (exact EX; done)))
  have k4 : (st == 4) = false := by simpa using h4
  by_cases h5 : st = 5
  · have hv : R = true := by rw [HR.out, h5]; rfl
    subst h5
    clear HR
    subst hv
    go_wp2_with fail
    (go_ret; refine Ret.mk ?_ ?_; (focus (rfl; done)); (focus (exact EX; done)))
  have k5 : (st == 5) = false := by simpa using h5
  have hv : R = false := by rw [HR.out, k4, k5]; rfl
  clear HR
  subst hv
  go_wp2_with fail
  (go_ret; refine Ret.mk ?_ ?_; (focus (rfl; done)); (focus (exact EX; done)))

theorem anygreat_snoc {l : List Vt} {k : Nat} {v : Vt} (h : (l.take k).any Vt.great = false) (e : l[k]? = some v) (h0 : v.great = false) : (l.take (k + 1)).any Vt.great = false := by
  rw [List.take_add_one, e, List.any_append, h]
  simp [h0]
theorem anygreat_at {l : List Vt} {k : Nat} {v : Vt} (e : l[k]? = some v) (h0 : v.great = true) : l.any Vt.great = true := List.any_eq_true.2 ⟨v, List.mem_of_getElem? e, h0⟩
set_option maxHeartbeats 8000000 in
set_option maxRecDepth 100000 in
/-- quiltref55.GreatReview. -/
theorem greatrev_any (c : List Value) (r : Rv) (w : World) {F : Nat → Prop} (h : Rev w F c r) (hf : r.Wide) :
    Calls Tryz.prog 19 #[.agg c.toArray] w (Ret (.bool r.great) w) := by
  obtain ⟨A, n, m, B, p, q, rfl, ⟨hn, hm, hd⟩, hp, hpq, hv⟩ := h
  have HVs := Lib.hid hv
  have HF := Lib.hid hf.each
  have hpb : p ≤ 4611686018427387904 := by rw [← hp]; exact hf.votes
  have hnb : n ≤ 4611686018427387904 := by rw [← hn]; exact hf.ids
  have ha := hf.author
  have hbr := hf.branch
  have HP := Lib.hid hp
  have HR : Hid (r.great = (r.votes.any Vt.great || (decide (60 < r.author.size) || (decide (60 < r.branch.size) || (decide (10 < n) || decide (12 < p)))))) := Lib.hid (by rw [← hp, ← hn]; rfl)
  generalize r.great = R at HR ⊢
  generalize r.votes = l at HR HVs HF HP
  clear hd hn hm hf hv hp hpq
  go_enter Tryz.func19, Tryz.ntmps19
  have hx := Ext.refl w
  go_wp2_with fail
  go_loopw [3] (fun i wr => ∃ k : Nat, k ≤ p ∧ i = .int .i64 k ∧ Ext w wr ∧ Blk wr w.heap.size 28 #[.int .i64 r.number, .string r.author, .string r.branch, .slice A n m, .int .i64 r.state, .slice B p q] ∧ Hid ((l.take k).any Vt.great = false)) (fun i wr => p - (intOf i).toNat)
  case atStart => exact ⟨0, Nat.zero_le _, rfl, hx.alloc _, Blk.new' rfl, Lib.hid rfl⟩
  case round =>
    clear hx
    obtain ⟨k, hk, rfl, hx, hb0, HO⟩ := hrel
    obtain ⟨hc0, hf0, hl0⟩ := hb0.all
    by_cases hlt : k < p
    · have hkl : k < l.length := by rw [HP.out]; exact hlt
      have e0 : l[k]? = some l[k] := List.getElem?_eq_getElem _
      have fv := HF.out _ (List.mem_of_getElem? e0)
      obtain ⟨b, o, cs, rfl, hbl, _, _, hr, hvt⟩ := (Vs.ext HVs.out hx).get e0
      generalize l[k] = v at e0 fv hvt
      obtain ⟨A', n', m', rfl, hn', _, _⟩ := hvt
      obtain ⟨c0, c1, c2, c3⟩ := cells4 hr
      have E0 := Lib.hid e0
      have f1 := fv.who
      have f2 := fv.text
      have f3 : n' ≤ 4611686018427387904 := by rw [← hn']; exact fv.ids
      have HQ : Hid (v.great = (decide (60 < v.who.size) || (decide (1001 < v.text.size) || decide (10 < n')))) := Lib.hid (by rw [← hn']; rfl)
      clear hr e0 fv hkl hn'
      by_cases hgv : 60 < v.who.size ∨ 1001 < v.text.size ∨ 10 < n'
      · have hv : R = true := by
          rw [HR.out, anygreat_at E0.out (by rw [HQ.out]; rcases hgv with h | h | h <;> simp [h])]
          rfl
        clear HR HQ
        subst hv
        by_cases g1 : 60 < v.who.size
        · have k1 : decide (60 < (v.who.size : Int)) = true := decide_eq_true (by omega)
          go_wp2_with fail
          (go_ret; refine Ret.mk ?_ ?_; (focus (rfl; done)); (focus (exact EX; done)))
        have k1 : decide (60 < (v.who.size : Int)) = false := decide_eq_false (by omega)
        by_cases g2 : 1001 < v.text.size
        · have k2 : decide (1001 < (v.text.size : Int)) = true := decide_eq_true (by omega)
          go_wp2_with fail
          (go_ret; refine Ret.mk ?_ ?_; (focus (rfl; done)); (focus (exact EX; done)))
        have k2 : decide (1001 < (v.text.size : Int)) = false := decide_eq_false (by omega)
        have k3 : decide (10 < (n' : Int)) = true := decide_eq_true (by omega)
        go_wp2_with fail
        (go_ret; refine Ret.mk ?_ ?_; (focus (rfl; done)); (focus (exact EX; done)))
      · have k1 : decide (60 < (v.who.size : Int)) = false := decide_eq_false (by omega)
        have k2 : decide (1001 < (v.text.size : Int)) = false := decide_eq_false (by omega)
        have k3 : decide (10 < (n' : Int)) = false := decide_eq_false (by omega)
        have HO2 := Lib.hid (anygreat_snoc HO.out E0.out (by rw [HQ.out]; simp; omega))
        have hb2 := hb0.alloc (.cells #[.string v.who, .int .i64 v.kind, .string v.text, .slice A' n' m'] 39)
        have hx2 := hx.alloc (.cells #[.string v.who, .int .i64 v.kind, .string v.text, .slice A' n' m'] 39)
        have HB2 := Lib.hid hb2
        have HX2 := Lib.hid hx2
        clear HO hb2 hx2 HQ
        go_wp2_with fail
        go_roundw
        case rel => exact ⟨k + 1, hlt, rfl, HX2.out, HB2.out, HO2⟩
        case measure => simp [intOf]; omega
    · obtain rfl : k = p := by omega
      have hno : l.any Vt.great = false := by
        have := HO.out
        rwa [← HP.out, List.take_length] at this
      have HV : Hid (R = (decide (60 < r.author.size) || (decide (60 < r.branch.size) || (decide (10 < n) || decide (12 < k))))) := Lib.hid (by rw [HR.out, hno]; rfl)
      clear HR hno HO
      by_cases g1 : 60 < r.author.size
      · have k1 : decide (60 < (r.author.size : Int)) = true := decide_eq_true (by omega)
        have hv : R = true := by rw [HV.out]; simp [g1]
        clear HV
        subst hv
        go_wp2_with fail
        (go_ret; refine Ret.mk ?_ ?_; (focus (rfl; done)); (focus (exact EX; done)))
      have k1 : decide (60 < (r.author.size : Int)) = false := decide_eq_false (by omega)
      by_cases g2 : 60 < r.branch.size
      · have k2 : decide (60 < (r.branch.size : Int)) = true := decide_eq_true (by omega)
        have hv : R = true := by rw [HV.out]; simp [g2]
        clear HV
        subst hv
        go_wp2_with fail
        (go_ret; refine Ret.mk ?_ ?_; (focus (rfl; done)); (focus (exact EX; done)))
      have k2 : decide (60 < (r.branch.size : Int)) = false := decide_eq_false (by omega)
      by_cases g3 : 10 < n
      · have k3 : decide (10 < (n : Int)) = true := decide_eq_true (by omega)
        have hv : R = true := by rw [HV.out]; simp [g3]
        clear HV
        subst hv
        go_wp2_with fail
        (go_ret; refine Ret.mk ?_ ?_; (focus (rfl; done)); (focus (exact EX; done)))
      have k3 : decide (10 < (n : Int)) = false := decide_eq_false (by omega)
      have hv : R = decide (12 < k) := by rw [HV.out]; simp [g1, g2, g3]
      by_cases g4 : 12 < k
      · have k4 : decide (12 < (k : Int)) = true := decide_eq_true (by omega)
        rw [decide_eq_true g4] at hv
        clear HV
        subst hv
        go_wp2_with fail
        (go_ret; refine Ret.mk ?_ ?_; (focus (rfl; done)); (focus (exact EX; done)))
      have k4 : decide (12 < (k : Int)) = false := decide_eq_false (by omega)
      rw [decide_eq_false g4] at hv
      clear HV
      subst hv
      go_wp2_with fail
      (go_ret; refine Ret.mk ?_ ?_; (focus (rfl; done)); (focus (exact EX; done)))
end Go.Proofs.YtojfgidoobgcaaaGreatDoor
