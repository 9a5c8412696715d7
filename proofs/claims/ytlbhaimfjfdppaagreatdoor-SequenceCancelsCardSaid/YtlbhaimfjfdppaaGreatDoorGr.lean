/- Walks: whether a sequence is large. Walks: whether one of some sequences is large. Walks: the reference's Join: two sequences one after the other. A merge of sequences, told apart by what comes of it. -/
import Derived.Test.YtlbhaimfjfdppaaGreatDoorZ
import Derived.Test.YtlbhaimfjfdppaaGreatDoorCl
import Derived.Test.YtlbhaimfjfdppaaGreatDoorUe
set_option linter.unusedSimpArgs false
set_option linter.unusedVariables false
namespace Go.Proofs.YtlbhaimfjfdppaaGreatDoor
open Go.RowKit
attribute [local go_sem ↓] Go.wp_at_zero Go.wp_at_succ

set_option maxHeartbeats 4000000 in
set_option maxRecDepth 100000 in
theorem lgreat_any (A : Option Addr) (c : Nat) (l : List Qp) (w : World) {F : Nat → Prop} (h : Qs w F A l) (hn : l.length ≤ 1152921504606846976) (hs : ∀ q ∈ l, q.old.length ≤ 1152921504606846976 ∧ q.new.length ≤ 1152921504606846976) :
    Calls Tryz.prog 37 #[.slice A l.length c] w (Tells (∀ q ∈ l, q.Mild) w) := by
  have H := Lib.hid h
  have HS := Lib.hid hs
  clear h hs
  obtain ⟨n, Hn⟩ : ∃ n, Hid (n = l.length) := ⟨_, Lib.hid rfl⟩
  have hn' : n ≤ 1152921504606846976 := by rw [Hn.out]; exact hn
  rw [← Hn.out]
  clear hn
  go_enter Tryz.func37, Tryz.ntmps37
  have hx := Ext.refl w
  go_wp2_with fail
  go_loopw [3] (fun i wr => ∃ k : Nat, k ≤ n ∧ i = .int .i64 k ∧ Ext w wr ∧ Hid (∀ q ∈ l.take k, q.Mild)) (fun i wr => n - (intOf i).toNat)
  case atStart => exact ⟨0, Nat.zero_le _, rfl, hx, Lib.hid (by simp)⟩
  case round =>
    obtain ⟨k, hk, rfl, hx, Hall⟩ := hrel
    by_cases hlt : k < n
    · have e1 : l[k]? = some l[k] := List.getElem?_eq_getElem (by rw [← Hn.out]; exact hlt)
      obtain ⟨b, o, p, rfl, hb, hc, hi⟩ := (H.out.ext hx).get e1
      have Hc := Lib.hid hc
      have Hi := Lib.hid hi
      have E1 := Lib.hid e1
      generalize l[k] = q at Hi E1
      clear hc hi e1
      obtain ⟨d0, d1, d2, d3, d4, d5, d6, d7, d8, d9, d10, d11⟩ := cells12 Hc.out
      clear Hc
      go_wp2_with fail
      clear d0 d1 d2 d3 d4 d5 d6 d7 d8 d9 d10 d11
      refine (pgreat_any p q _ Hi.out (HS.out q (List.mem_of_getElem? E1.out)).1 (HS.out q (List.mem_of_getElem? E1.out)).2).mono ?_
      rintro e w1 ⟨v1, rfl, k1, hx0⟩
      have K1 := Lib.hid k1
      clear k1
      have hx1 := hx.trans hx0
      clear hx hx0
      have hx := hx1
      clear hx1
      cases v1
      · go_wp2_with fail
        go_roundw
        case rel =>
          refine ⟨k + 1, hlt, rfl, hx, Lib.hid fun y hy => ?_⟩
          rw [List.take_add_one, E1.out] at hy
          rcases List.mem_append.1 hy with m | m
          · exact Hall.out y m
          · obtain rfl : y = q := by simpa using m
            exact K1.out trivial
        case measure => simp [intOf]; omega
      · go_wp2_with fail
        refine bodyPost_ret (v := .bool true) (by simp only [results, Tryz.results37]; go_simp) rfl ?_
        exact ⟨_, rfl, (fun h => nomatch h), hx⟩
    · obtain rfl : k = n := by omega
      have HX : Hid (∀ q ∈ l, q.Mild) := Lib.hid (by have := Hall.out; rwa [List.take_of_length_le (by rw [← Hn.out]; exact Nat.le_refl _)] at this)
      clear Hall
      go_wp2_with fail
      refine bodyPost_ret (v := .bool false) (by simp only [results, Tryz.results37]; go_simp) rfl ?_
      exact ⟨_, rfl, (fun _ => HX.out), hx⟩
end Go.Proofs.YtlbhaimfjfdppaaGreatDoor
namespace Go.Proofs.YtlbhaimfjfdppaaGreatDoor
open Go Go.RowKit
attribute [local go_sem ↓] Go.wp_at_zero Go.wp_at_succ

/-- No larger than the statements of layer 15 examine. -/
def Small (l : List Qp) : Prop := l.length ≤ 8 ∧ ∀ q ∈ l, q.Mild
end Go.Proofs.YtlbhaimfjfdppaaGreatDoor
namespace Go.Proofs.YtlbhaimfjfdppaaGreatDoor
open Go Go.RowKit
attribute [local go_sem ↓] Go.wp_at_zero Go.wp_at_succ

end Go.Proofs.YtlbhaimfjfdppaaGreatDoor
namespace Go.Proofs.YtlbhaimfjfdppaaGreatDoor
open Go Go.RowKit
theorem Small.fits {l : List Qp} (h : Small l) : ∀ q ∈ l, q.Fits := fun q hq => (h.2 q hq).fits
theorem Qs.some {w : World} {F : Nat → Prop} {A : Option Addr} {l : List Qp} (h : Qs w F A l) (h0 : 0 < l.length) : ∃ b o, A = .some ⟨b, o, .none⟩ := by
  obtain ⟨ps, h1, h2, h3⟩ := h
  obtain ⟨b, o, e, _⟩ := h2 (by omega)
  exact ⟨b, o, e⟩

/-- Behind a call: the list may lie among new memory too. -/
theorem Qs.all {w : World} {F : Nat → Prop} {A : Option Addr} {l : List Qp} (h : Qs w F A l) : Qs w (fun _ => True) A l := h.mono fun _ _ => trivial
end Go.Proofs.YtlbhaimfjfdppaaGreatDoor
