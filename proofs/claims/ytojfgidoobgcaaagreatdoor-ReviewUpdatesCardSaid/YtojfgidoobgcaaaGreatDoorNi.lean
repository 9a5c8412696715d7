/- Walks: lists of reviews checked. -/
import Derived.Test.YtojfgidoobgcaaaGreatDoorNh
set_option linter.unusedSimpArgs false
set_option linter.unusedVariables false
namespace Go.Proofs.YtojfgidoobgcaaaGreatDoor
open Go Go.RowKit

/-- The error of the review at a place. -/
def Vw.chk (i : Nat) (r : Rv) : Int := if r.number ≠ ((i + 1 : Nat) : Int) then 9 else Vw.body r
theorem checkFrom_cons (i : Nat) (r : Rv) (l : List Rv) : Vw.checkFrom i (r :: l) = if Vw.chk i r ≠ 0 then Vw.chk i r else Vw.checkFrom (i + 1) l := by
  conv => lhs; unfold Vw.checkFrom
  unfold Vw.chk
  by_cases h : r.number ≠ ((i + 1 : Nat) : Int)
  · rw [if_pos h, if_pos h, if_pos (by decide)]
  · rw [if_neg h, if_neg h]
theorem checkFrom_at : ∀ {l : List Rv} {i k : Nat} {r : Rv}, (∀ (j : Nat) x, j < k → l[j]? = some x → Vw.chk (i + j) x = 0) → l[k]? = some r → Vw.chk (i + k) r ≠ 0 → Vw.checkFrom i l = Vw.chk (i + k) r
  | [], _, _, _, _, h, _ => by simp at h
  | x :: l, i, 0, r, _, h, h1 => by
    obtain rfl : x = r := by simpa using h
    rw [checkFrom_cons, if_pos (by simpa using h1)]
    rfl
  | x :: l, i, k + 1, r, h0, h, h1 => by
    have hx := h0 0 x (Nat.zero_lt_succ _) rfl
    rw [Nat.add_zero] at hx
    rw [checkFrom_cons, if_neg (by rw [hx]; simp), show i + (k + 1) = i + 1 + k by omega]
    refine checkFrom_at (fun j y hj hy => ?_) (by simpa using h) (by rw [show i + 1 + k = i + (k + 1) by omega]; exact h1)
    have := h0 (j + 1) y (by omega) (by simpa using hy)
    rwa [show i + 1 + j = i + (j + 1) by omega]
theorem checkFrom_ok : ∀ {l : List Rv} {i : Nat}, (∀ (j : Nat) x, l[j]? = some x → Vw.chk (i + j) x = 0) → Vw.checkFrom i l = 0
  | [], _, _ => rfl
  | x :: l, i, h => by
    have hx := h 0 x rfl
    rw [Nat.add_zero] at hx
    rw [checkFrom_cons, if_neg (by rw [hx]; simp)]
    refine checkFrom_ok fun j y hy => ?_
    have := h (j + 1) y (by simpa using hy)
    rwa [show i + 1 + j = i + (j + 1) by omega]
/-- Six cells of a row. -/
theorem cells6 {W : World} {b o : Nat} {a c d e f g : Value} (h : W.rangeAt b o [a, c, d, e, f, g]) : W.cell? ⟨b, o, none⟩ = some a ∧ W.cell? ⟨b, o + 1, none⟩ = some c ∧ W.cell? ⟨b, o + 2, none⟩ = some d ∧ W.cell? ⟨b, o + 3, none⟩ = some e ∧ W.cell? ⟨b, o + 4, none⟩ = some f ∧ W.cell? ⟨b, o + 5, none⟩ = some g :=
  ⟨h 0 a rfl, h 1 c rfl, h 2 d rfl, h 3 e rfl, h 4 f rfl, h 5 g rfl⟩
theorem chk_snoc {l : List Rv} {k : Nat} {r : Rv} (h : ∀ (j : Nat) x, j < k → l[j]? = some x → Vw.chk j x = 0) (e : l[k]? = some r) (h0 : Vw.chk k r = 0) : ∀ (j : Nat) x, j < k + 1 → l[j]? = some x → Vw.chk j x = 0 := by
  intro j x hj hx
  rcases Nat.lt_or_ge j k with h1 | h1
  · exact h j x h1 hx
  · obtain rfl : j = k := by omega
    rw [e] at hx
    obtain rfl := Option.some.inj hx
    exact h0

set_option maxHeartbeats 8000000 in
set_option maxRecDepth 100000 in
/-- review.Check. -/
theorem ccheck_any (A : Option Addr) (n c : Nat) (l : List Rv) (w : World) (hg : Glob w) {F : Nat → Prop} (h : Rs w F A l) (hn : l.length = n) (hb : n ≤ 1000000000) (hf : ∀ r ∈ l, r.Fits) :
    Calls Tryz.prog 14 #[.slice A n c] w (Ret (.int .i64 (Vw.check l)) w) := by
  by_cases h0 : 100 < n
  · have hv : Vw.check l = 4 := by unfold Vw.check; rw [hn, if_pos h0]
    rw [hv]
    have k1 : decide (100 < (n : Int)) = true := decide_eq_true (by omega)
    clear h hn hf hg hv
    go_enter Tryz.func14, Tryz.ntmps14
    have hx := Ext.refl w
    go_wp2_with fail
    (go_ret; refine Ret.mk ?_ ?_; (focus (rfl; done)); (focus (exact EX; done)))
  have HV : Hid (Vw.check l = Vw.checkFrom 0 l) := Lib.hid (by unfold Vw.check; rw [hn, if_neg h0])
  have k1 : decide (100 < (n : Int)) = false := decide_eq_false (by omega)
  have HL := Lib.hid h
  have HG := Lib.hid hg
  have HF := Lib.hid hf
  have HN := Lib.hid hn
  clear h hn hf hg
  generalize Vw.check l = R at HV ⊢
  go_enter Tryz.func14, Tryz.ntmps14
  have hx := Ext.refl w
  go_wp2_with fail
  go_loopw [11] (fun i wr => ∃ k : Nat, k ≤ n ∧ i = .int .i64 k ∧ Ext w wr ∧ Hid (∀ (j : Nat) x, j < k → l[j]? = some x → Vw.chk j x = 0)) (fun i wr => n - (intOf i).toNat)
  case atStart => exact ⟨0, Nat.zero_le _, rfl, hx, Lib.hid fun j x h => absurd h (Nat.not_lt_zero _)⟩
  case round =>
    clear hx
    obtain ⟨k, hk, rfl, hx, HO⟩ := hrel
    by_cases hlt : k < n
    · have hkl : k < l.length := by rw [HN.out]; exact hlt
      have e0 : l[k]? = some l[k] := List.getElem?_eq_getElem _
      have fv := HF.out _ (List.mem_of_getElem? e0)
      obtain ⟨b, o, cs, rfl, hbl, _, _, hr, hvt⟩ := (Rs.ext HL.out hx).get e0
      generalize l[k] = r at e0 fv hvt
      have HC : Hid (∀ W, Ext wr W → Calls Tryz.prog 45 #[.agg cs.toArray] W (Ret (.int .i64 (Vw.body r)) W)) := Lib.hid fun W hW => creview_any cs r W (HG.out.ext (hx.trans hW)) (Rev.steadfast.ext hvt hW) fv
      obtain ⟨A', n', m', B', p', q', rfl, _, _, _, _⟩ := hvt
      obtain ⟨c0, c1, c2, c3, c4, c5⟩ := cells6 hr
      have E0 := Lib.hid e0
      have HK : Hid (Vw.chk k r = if r.number ≠ ((k + 1 : Nat) : Int) then 9 else Vw.body r) := Lib.hid rfl
      clear hr e0 fv hkl
      by_cases hnum : r.number = ((k + 1 : Nat) : Int)
      rotate_left
      · have hv : R = 9 := by
          have h9 : Vw.chk k r = 9 := by rw [HK.out, if_pos hnum]
          rw [HV.out, checkFrom_at (k := k) (r := r) (fun j x hj hx => by rw [Nat.zero_add]; exact HO.out j x hj hx) E0.out (by rw [Nat.zero_add, h9]; decide), Nat.zero_add, h9]
        have hq : (r.number == (k : Int) + 1) = false := by simp at hnum ⊢; exact hnum
        clear HV HC HK
        subst hv
        go_wp2_with fail
        (go_ret; refine Ret.mk ?_ ?_; (focus (rfl; done)); (focus (exact EX; done)))
      have hq : (r.number == (k : Int) + 1) = true := by simp at hnum ⊢; exact hnum
      have HNU := Lib.hid hnum
      clear hnum
      obtain ⟨ev, hev⟩ : ∃ ev, ev = Vw.body r := ⟨_, rfl⟩
      rw [← hev] at HC
      have HE := Lib.hid hev
      clear hev
      go_wp2_with fail
      refine (HC.out _ ((Ext.refl wr).alloc _)).mono ?_
      rintro e w1 ⟨rfl, hx0⟩
      have hx1 := (hx.alloc _).trans hx0
      clear hx
      have hx := hx1
      clear hx1
      have HQ : Hid (Vw.chk k r = ev) := Lib.hid (by rw [HK.out, if_neg (by rw [HNU.out]; simp), HE.out])
      by_cases h0 : ev = 0
      · subst h0
        have HO2 := Lib.hid (chk_snoc HO.out E0.out HQ.out)
        clear HO c0 c1 c2 c3 c4 c5 hx0 HQ HK
        go_wp2_with fail
        go_roundw
        case rel => exact ⟨k + 1, hlt, rfl, hx, HO2⟩
        case measure => simp [intOf]; omega
      · have hk0 : (ev == 0) = false := by simpa using h0
        have hv : R = ev := by
          rw [HV.out, checkFrom_at (k := k) (r := r) (fun j x hj hx => by rw [Nat.zero_add]; exact HO.out j x hj hx) E0.out (by rw [Nat.zero_add, HQ.out]; exact h0), Nat.zero_add, HQ.out]
        clear HV c0 c1 c2 c3 c4 c5 hx0 HQ HK
        subst hv
        go_wp2_with fail
        (go_ret; refine Ret.mk ?_ ?_; (focus (rfl; done)); (focus (exact EX; done)))

    · obtain rfl : k = n := by omega
      have hv : R = 0 := by
        rw [HV.out]
        refine checkFrom_ok fun j x hx => ?_
        rw [Nat.zero_add]
        exact HO.out j x (by have := (List.getElem?_eq_some_iff.1 hx).1; rw [HN.out] at this; exact this) hx
      clear HV
      subst hv
      go_wp2_with fail
      (go_ret; refine Ret.mk ?_ ?_; (focus (rfl; done)); (focus (exact EX; done)))

set_option maxHeartbeats 8000000 in
set_option maxRecDepth 100000 in
/-- quiltref55.Check. -/
theorem rcheck_any (A : Option Addr) (n c : Nat) (l : List Rv) (w : World) (hg : Glob w) {F : Nat → Prop} (h : Rs w F A l) (hn : l.length = n) (hb : n ≤ 1000000000) (hf : ∀ r ∈ l, r.Fits) :
    Calls Tryz.prog 15 #[.slice A n c] w (Ret (.int .i64 (Vw.check l)) w) := by
  by_cases h0 : 100 < n
  · have hv : Vw.check l = 4 := by unfold Vw.check; rw [hn, if_pos h0]
    rw [hv]
    have k1 : decide (100 < (n : Int)) = true := decide_eq_true (by omega)
    clear h hn hf hg hv
    go_enter Tryz.func15, Tryz.ntmps15
    have hx := Ext.refl w
    go_wp2_with fail
    (go_ret; refine Ret.mk ?_ ?_; (focus (rfl; done)); (focus (exact EX; done)))
  have HV : Hid (Vw.check l = Vw.checkFrom 0 l) := Lib.hid (by unfold Vw.check; rw [hn, if_neg h0])
  have k1 : decide (100 < (n : Int)) = false := decide_eq_false (by omega)
  have HL := Lib.hid h
  have HG := Lib.hid hg
  have HF := Lib.hid hf
  have HN := Lib.hid hn
  clear h hn hf hg
  generalize Vw.check l = R at HV ⊢
  go_enter Tryz.func15, Tryz.ntmps15
  have hx := Ext.refl w
  go_wp2_with fail
  go_loopw [3] (fun i wr => ∃ k : Nat, k ≤ n ∧ i = .int .i64 k ∧ Ext w wr ∧ Hid (∀ (j : Nat) x, j < k → l[j]? = some x → Vw.chk j x = 0)) (fun i wr => n - (intOf i).toNat)
  case atStart => exact ⟨0, Nat.zero_le _, rfl, hx, Lib.hid fun j x h => absurd h (Nat.not_lt_zero _)⟩
  case round =>
    clear hx
    obtain ⟨k, hk, rfl, hx, HO⟩ := hrel
    by_cases hlt : k < n
    · have hkl : k < l.length := by rw [HN.out]; exact hlt
      have e0 : l[k]? = some l[k] := List.getElem?_eq_getElem _
      have fv := HF.out _ (List.mem_of_getElem? e0)
      obtain ⟨b, o, cs, rfl, hbl, _, _, hr, hvt⟩ := (Rs.ext HL.out hx).get e0
      generalize l[k] = r at e0 fv hvt
      have HC : Hid (∀ W, Ext wr W → Calls Tryz.prog 46 #[.agg cs.toArray, .int .i64 ((k + 1 : Nat) : Int)] W (Ret (.int .i64 (if r.number ≠ ((k + 1 : Nat) : Int) then 9 else Vw.body r)) W)) := Lib.hid fun W hW => rreview_any cs r _ W (HG.out.ext (hx.trans hW)) (Rev.steadfast.ext hvt hW) fv
      obtain ⟨A', n', m', B', p', q', rfl, _, _, _, _⟩ := hvt
      obtain ⟨c0, c1, c2, c3, c4, c5⟩ := cells6 hr
      have E0 := Lib.hid e0
      have HK : Hid (Vw.chk k r = if r.number ≠ ((k + 1 : Nat) : Int) then 9 else Vw.body r) := Lib.hid rfl
      clear hr e0 fv hkl
      obtain ⟨ev, hev⟩ : ∃ ev, ev = if r.number ≠ ((k + 1 : Nat) : Int) then 9 else Vw.body r := ⟨_, rfl⟩
      rw [← hev] at HC
      have HE := Lib.hid hev
      clear hev
      go_wp2_with fail
      refine (HC.out _ (Ext.refl wr)).mono ?_
      rintro e w1 ⟨rfl, hx0⟩
      have hx1 := (hx).trans hx0
      clear hx
      have hx := hx1
      clear hx1
      have HQ : Hid (Vw.chk k r = ev) := Lib.hid (by rw [HK.out, HE.out])
      by_cases h0 : ev = 0
      · subst h0
        have HO2 := Lib.hid (chk_snoc HO.out E0.out HQ.out)
        clear HO c0 c1 c2 c3 c4 c5 hx0 HQ HK
        go_wp2_with fail
        go_roundw
        case rel => exact ⟨k + 1, hlt, rfl, hx, HO2⟩
        case measure => simp [intOf]; omega
      · have hk0 : (ev == 0) = false := by simpa using h0
        have hv : R = ev := by
          rw [HV.out, checkFrom_at (k := k) (r := r) (fun j x hj hx => by rw [Nat.zero_add]; exact HO.out j x hj hx) E0.out (by rw [Nat.zero_add, HQ.out]; exact h0), Nat.zero_add, HQ.out]
        clear HV c0 c1 c2 c3 c4 c5 hx0 HQ HK
        subst hv
        go_wp2_with fail
        (go_ret; refine Ret.mk ?_ ?_; (focus (rfl; done)); (focus (exact EX; done)))

    · obtain rfl : k = n := by omega
      have hv : R = 0 := by
        rw [HV.out]
        refine checkFrom_ok fun j x hx => ?_
        rw [Nat.zero_add]
        exact HO.out j x (by have := (List.getElem?_eq_some_iff.1 hx).1; rw [HN.out] at this; exact this) hx
      clear HV
      subst hv
      go_wp2_with fail
      (go_ret; refine Ret.mk ?_ ?_; (focus (rfl; done)); (focus (exact EX; done)))
end Go.Proofs.YtojfgidoobgcaaaGreatDoor
