/- Walks: the state that follows from the votes. -/
import Derived.Test.YtojfgidoobgcaaaGreatDoorNo
set_option linter.unusedSimpArgs false
set_option linter.unusedVariables false
namespace Go.Proofs.YtojfgidoobgcaaaGreatDoor
open Go Go.RowKit Go.Maps Go.WideMaps

/-- Who has been met. -/
structure Met (D : Dat) (left : Lit → Bool) (S : List ByteArray) : Prop where
  nodup : S.Nodup
  mem : ∀ s, s ∈ S ↔ has D (pkey s) = true ∧ left (pkey s) = false
theorem Met.start (D : Dat) : Met D (has D) [] := ⟨List.nodup_nil, fun s => by simp⟩
theorem same_pkey (s t : ByteArray) : (pkey s).sameKey (pkey t) = decide (s = t) := by
  show (s.data.toList == t.data.toList) = _
  by_cases h : s = t
  · subst h; simp
  · rw [decide_eq_false h]
    exact beq_eq_false_iff_ne.2 fun e => h (ByteArray.ext (Array.toList_inj.1 e))
theorem Met.step {D : Dat} {left : Lit → Bool} {S : List ByteArray} (h : Met D left S) {s : ByteArray} (hd : has D (pkey s) = true) (hl : left (pkey s) = true) : Met D (fun z => left z && !z.sameKey (pkey s)) (S ++ [s]) := by
  refine ⟨?_, fun t => ?_⟩
  · rw [List.nodup_append]
    refine ⟨h.nodup, by simp, fun a ha b hb => ?_⟩
    obtain rfl : b = s := by simpa using hb
    intro e
    subst e
    have := ((h.mem a).1 ha).2
    rw [hl] at this
    cases this
  · rw [List.mem_append, h.mem t, List.mem_singleton]
    simp only [same_pkey]
    by_cases e : t = s
    · subst e
      simp [hd]
    · simp [e]
theorem Met.all {D : Dat} {left : Lit → Bool} {S : List ByteArray} (h : Met D left S) (hl : ∀ k, left k = false) (s : ByteArray) : s ∈ S ↔ has D (pkey s) = true := by
  rw [h.mem s, hl]
  simp
theorem keyOf_string_inv {key : Value} {kl : Lit} (h : keyOf Tryz.prog 9 key = some kl) : ∃ s, key = .string s ∧ kl = pkey s := by
  have hk := Tryz.underlying9
  cases key <;> simp [keyOf, hk, mapKey] at h
  exact ⟨_, rfl, h.2.symm⟩

set_option maxHeartbeats 8000000 in
set_option maxRecDepth 100000 in
/-- review.state. -/
theorem state_any (c : List Value) (r : Rv) (need : Int) (w : World) {F : Nat → Prop} (h : Rev w F c r) (hf : r.Fits) :
    Calls Tryz.prog 71 #[.agg c.toArray, .int .i64 need] w (Ret (.int .i64 (Vw.follows r need)) w) := by
  have HC : Hid (∀ W, Ext w W → Calls Tryz.prog 42 #[.agg c.toArray] W (fun e w' => e = .returned (.map (some (W.heap.size + 1))) ∧ Owns w' (W.heap.size + 1) r.votes.length (Vw.mapOf r) ∧ Ext W w')) := Lib.hid fun W hW => opinions_any c r W (Rev.steadfast.ext h hW) hf
  obtain ⟨A, n, m, B, p, q, rfl, z1, z2⟩ := h
  clear z1 z2
  obtain ⟨D, hD⟩ : ∃ D, D = Vw.mapOf r := ⟨_, rfl⟩
  rw [← hD] at HC
  have HH : Hid (Holds1 D (Vw.opin r)) := Lib.hid (by rw [hD]; exact mapOf_holds r)
  have hvl := hf.votes
  obtain ⟨R, hR⟩ : ∃ R, R = Vw.follows r need := ⟨_, rfl⟩
  have HR : Hid (R = if Vw.people r 2 ≠ [] then 3 else if need ≤ (Vw.people r 1).length then 2 else 1) := Lib.hid hR
  rw [← hR]
  clear hR hD hf
  go_enter Tryz.func71, Tryz.ntmps71
  have hx := Ext.refl w
  go_wp2_with fail
  refine (HC.out _ (hx.alloc _)).mono ?_
  rintro e w1 ⟨rfl, hown, hx0⟩
  have hy := Ext.trans (a := w) EX hx0; clear hx; have hx := hy; clear hy; have hn0 := BB hx0 (w.heap.size); (first | simp [↓heap_drew_at, ↓heap_drewN_at, ↓heap_alloc_at, ↓heap_set_at, ne_two, ne_three, ne_two_left, ne_three_left, ↓hb0.eq, hb0.lt, hb0.ne] at hn0 | simp [↓heap_drew_at, ↓heap_drewN_at, ↓heap_alloc_at, ↓heap_set_at, ne_two, ne_three, ne_two_left, ne_three_left] at hn0); (try clear hb0 hc0 hf0 hl0); have hb0 := Blk.mk hn0; clear hn0; obtain ⟨hc0, hf0, hl0⟩ := hb0.all; (try clear hx0)
  have hb0 := True.intro
  generalize hB : (w.alloc (.cells #[.int .i64 r.number, .string r.author, .string r.branch, .slice A n m, .int .i64 r.state, .slice B p q] 28)).heap.size + 1 = mb at hown
  have HB : Hid (w.heap.size ≤ mb) := Lib.hid (by rw [← hB]; simp; omega)
  go_wp2_with (at_range; refine wpList_range_own _ rfl _ 73 rfl 9 3 slaw Tryz.underlying73 _ mb r.votes.length D rfl hown ?_; intro w2 hrg0 hg0 hs0)
  go_frame
  have hsz := hown.size_le
  have HX2 : Hid (Ext w w2) := Lib.hid (Below.grown hx hg0 (Below.size hx) (fun j hj => by cases hj))
  have HB2 : Hid (w.heap.size ≤ w1.heap.size) := Lib.hid (Below.size hx)
  have hmb : mb < w1.heap.size := hown.lt
  generalize w1.heap.size = r0 at hrg0 hs0 HB2 hmb ⊢
  clear hx hc0 hf0 hl0 hb0 hown hg0 HC
  go_loopw [5] (fun u wr => ∃ (left : Lit → Bool) (cnt : Nat) (S : List ByteArray), u = .int .i64 S.length ∧ wr.ranges Tryz.prog 9 (plainElem Tryz.prog 3) mb r0 r.votes.length D left cnt ∧ S.length + cnt ≤ Maps.size D ∧ Hid (Met D left S) ∧ Hid (∀ s ∈ S, Vw.opin r s = 1) ∧ Hid (Ext w wr)) (fun u wr => wr.rangeLeft mb r0)
  case atStart => exact ⟨_, _, [], rfl, hrg0, by simp, Lib.hid (Met.start D), Lib.hid (by simp), HX2⟩
  case round =>
    clear hrg0 hs0 HX2
    obtain ⟨left, cnt, S, rfl, hrg, hcs, HM, HS, HX⟩ := hrel
    go_wp2_with (at_next; refine wpList_next_ranges _ rfl _ rfl 9 slaw (plainElem Tryz.prog 3) Value.string (Value.int .i64) (fun key kl hk => by obtain ⟨s, e, _⟩ := keyOf_string_inv hk; exact ⟨s, e⟩) (fun v y hv => by obtain ⟨c, e, _⟩ := plainElem_int_inv Tryz.underlying3 hv; exact ⟨c, e⟩) mb r0 r.votes.length D _ _ rfl hrg ?_ ?_)
    · intro hc0 hl0
      have hperm : ∀ s, s ∈ S ↔ Vw.opin r s = 1 := fun s => by
        constructor
        · exact HS.out s
        · intro h1
          exact (HM.out.all hl0 s).2 (((HH.out.2 s).1).2 (by rw [h1]; decide))
      have hno : Vw.people r 2 = [] := by
        refine List.eq_nil_iff_forall_not_mem.2 fun s hs => ?_
        have h2 := (Vw.people_mem (by decide)).1 hs
        have h3 := (HM.out.all hl0 s).2 (((HH.out.2 s).1).2 (by rw [h2]; decide))
        rw [HS.out s h3] at h2
        cases h2
      have hlen : (Vw.people r 1).length = S.length := (people_count (by decide) HM.out.nodup hperm).length_eq.symm
      have hv : R = if need ≤ (S.length : Int) then 2 else 1 := by rw [HR.out, if_neg (by simp [hno]), hlen]
      clear HR HM HS HH hno hlen hperm
      by_cases hn : need ≤ (S.length : Int)
      · have k1 : decide (need ≤ (S.length : Int)) = true := decide_eq_true hn
        rw [if_pos hn] at hv
        subst hv
        go_wp2_with fail
        go_ret
        exact Ret.mk rfl HX.out
      · have k1 : decide (need ≤ (S.length : Int)) = false := decide_eq_false hn
        rw [if_neg hn] at hv
        subst hv
        go_wp2_with fail
        go_ret
        exact Ret.mk rfl HX.out
    · intro s c kl y yp w3 cnt1 hkey hlk hv hat hrg1 hlt hgr hsz3 hen
      obtain ⟨s', e', rfl⟩ := keyOf_string_inv hkey
      cases e'
      have hhas : has D (pkey s) = true := has_true_of_atKey hat
      have hop : Vw.opin r s ≠ 0 := ((HH.out.2 s).1).1 hhas
      have hc : c = Vw.opin r s := by
        obtain ⟨c', e2, e3, _⟩ := plainElem_int_inv Tryz.underlying3 hv
        cases e2
        obtain ⟨rfl, rfl⟩ := Prod.mk.inj e3
        have h1 := hat .nil
        rw [(HH.out.2 s).2 hop] at h1
        simp only [DataW.lit.injEq, Lit.int.injEq, true_and] at h1
        exact h1.symm
      have HX3 : Hid (Ext w w3) := Lib.hid (Below.grown HX.out hgr (Below.size HX.out) (fun j hj => by cases hj; exact HB2.out))
      have hml := hrg1.left_eq
      have hml0 := hrg.left_eq
      have HRG := Lib.hid hrg1
      have HLT := Lib.hid hlt
      have hS : S.length < 1000000000 := by omega
      by_cases h2 : c = 2
      · have hv3 : R = 3 := by
          rw [HR.out, if_pos]
          intro e
          have := (Vw.people_mem (r := r) (k := 2) (by decide)).2 (by rw [← hc, h2])
          rw [e] at this
          cases this
        clear HR HM HS HH hv hat hrg1 hrg
        subst hv3
        subst h2
        go_wp2_with fail
        go_ret
        exact Ret.mk rfl HX3.out
      · have h1 : c = 1 := by
          rcases opin_kind r s with h | h | h
          · exact absurd h hop
          · rw [hc, h]
          · exact absurd (hc.trans h) h2
        have HM2 := Lib.hid (HM.out.step hhas hlk)
        have HS2 : Hid (∀ t ∈ S ++ [s], Vw.opin r t = 1) := Lib.hid fun t ht => by
          rcases List.mem_append.1 ht with ht | ht
          · exact HS.out t ht
          · obtain rfl : t = s := by simpa using ht
            rw [← hc, h1]
        have hcl : (c == 2) = false := by rw [h1]; decide
        clear HM HS hv hat hrg1 h2 hc hop hhas
        subst h1
        go_wp2_with fail
        go_roundw
        case rel => exact ⟨_, cnt1, S ++ [s], by simp, HRG.out, by simp; omega, HM2, HS2, HX3⟩
        case measure => rw [hml, hml0]; exact HLT.out
end Go.Proofs.YtojfgidoobgcaaaGreatDoor
