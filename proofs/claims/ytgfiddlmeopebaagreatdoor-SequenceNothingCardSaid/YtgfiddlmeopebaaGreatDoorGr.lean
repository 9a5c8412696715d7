/- Walks: whether a sequence is large. Walks: whether one of some sequences is large. Walks: the reference's Join: two sequences one after the other. A merge of sequences, told apart by what comes of it. -/
import Derived.Test.YtgfiddlmeopebaaGreatDoorZ
import Derived.Test.YtgfiddlmeopebaaGreatDoorCl
import Derived.Test.YtgfiddlmeopebaaGreatDoorCd
import Derived.Test.YtgfiddlmeopebaaGreatDoorMs
set_option linter.unusedSimpArgs false
set_option linter.unusedVariables false
namespace Go.Proofs.YtgfiddlmeopebaaGreatDoor
open Go.RowKit
attribute [local go_sem ↓] Go.wp_at_zero Go.wp_at_succ

set_option maxHeartbeats 4000000 in
set_option maxRecDepth 100000 in
theorem lgreat_any (A : Option Addr) (c : Nat) (l : List Qp) (w : World) {F : Nat → Prop} (h : Qs w F A l) (hn : l.length ≤ 1152921504606846976) (hs : ∀ q ∈ l, q.old.length ≤ 1152921504606846976 ∧ q.new.length ≤ 1152921504606846976) :
    Calls Tryz.prog 54 #[.slice A l.length c] w (Tells (∀ q ∈ l, q.Mild) w) := by
  have H := Lib.hid h
  have HS := Lib.hid hs
  clear h hs
  obtain ⟨n, Hn⟩ : ∃ n, Hid (n = l.length) := ⟨_, Lib.hid rfl⟩
  have hn' : n ≤ 1152921504606846976 := by rw [Hn.out]; exact hn
  rw [← Hn.out]
  clear hn
  go_enter Tryz.func54, Tryz.ntmps54
  have hx := Ext.refl w
  go_wp2_with fail
  go_loopw [3] (fun i wr => ∃ k : Nat, k ≤ n ∧ i = .int .i64 k ∧ Ext w wr ∧ Hid (∀ q ∈ l.take k, q.Mild)) (fun i wr => n - (intOf i).toNat)
  case atStart => exact ⟨0, Nat.zero_le _, rfl, hx, Lib.hid (by simp)⟩
  case round =>
    obtain ⟨k, hk, rfl, hx, Hall⟩ := hrel
    by_cases hlt : k < n
    · have e1 : l[k]? = some l[k] := List.getElem?_eq_getElem (by rw [← Hn.out]; exact hlt)
      obtain ⟨b, o, p, rfl, hb, hc, hi⟩ := (H.out.ext hx).get e1
      have Hc := Lib.hid hc
      have Hi := Lib.hid hi
      have E1 := Lib.hid e1
      generalize l[k] = q at Hi E1
      clear hc hi e1
      obtain ⟨d0, d1, d2, d3, d4, d5, d6, d7, d8, d9, d10, d11⟩ := cells12 Hc.out
      clear Hc
      go_wp2_with fail
      clear d0 d1 d2 d3 d4 d5 d6 d7 d8 d9 d10 d11
      refine (pgreat_any p q _ Hi.out (HS.out q (List.mem_of_getElem? E1.out)).1 (HS.out q (List.mem_of_getElem? E1.out)).2).mono ?_
      rintro e w1 ⟨v1, rfl, k1, hx0⟩
      have K1 := Lib.hid k1
      clear k1
      have hx1 := hx.trans hx0
      clear hx hx0
      have hx := hx1
      clear hx1
      cases v1
      · go_wp2_with fail
        go_roundw
        case rel =>
          refine ⟨k + 1, hlt, rfl, hx, Lib.hid fun y hy => ?_⟩
          rw [List.take_add_one, E1.out] at hy
          rcases List.mem_append.1 hy with m | m
          · exact Hall.out y m
          · obtain rfl : y = q := by simpa using m
            exact K1.out trivial
        case measure => simp [intOf]; omega
      · go_wp2_with fail
        refine bodyPost_ret (v := .bool true) (by simp only [results, Tryz.results54]; go_simp) rfl ?_
        exact ⟨_, rfl, (fun h => nomatch h), hx⟩
    · obtain rfl : k = n := by omega
      have HX : Hid (∀ q ∈ l, q.Mild) := Lib.hid (by have := Hall.out; rwa [List.take_of_length_le (by rw [← Hn.out]; exact Nat.le_refl _)] at this)
      clear Hall
      go_wp2_with fail
      refine bodyPost_ret (v := .bool false) (by simp only [results, Tryz.results54]; go_simp) rfl ?_
      exact ⟨_, rfl, (fun _ => HX.out), hx⟩
end Go.Proofs.YtgfiddlmeopebaaGreatDoor
namespace Go.Proofs.YtgfiddlmeopebaaGreatDoor
open Go Go.RowKit
attribute [local go_sem ↓] Go.wp_at_zero Go.wp_at_succ

/-- No larger than the statements of layer 15 examine. -/
def Small (l : List Qp) : Prop := l.length ≤ 8 ∧ ∀ q ∈ l, q.Mild
set_option maxHeartbeats 4000000 in
set_option maxRecDepth 100000 in
theorem g15_any (A : Option Addr) (c : Nat) (l : List Qp) (w : World) {F : Nat → Prop} (h : Qs w F A l) (hn : l.length ≤ 1152921504606846976) (hs : ∀ q ∈ l, q.old.length ≤ 1152921504606846976 ∧ q.new.length ≤ 1152921504606846976) :
    Calls Tryz.prog 33 #[.slice A l.length c] w (Tells (Small l) w) := by
  have H := Lib.hid (lgreat_any A c l w h hn hs)
  obtain ⟨n, Hn⟩ : ∃ n, Hid (n = l.length) := ⟨_, Lib.hid rfl⟩
  rw [← Hn.out] at H ⊢
  clear h hs hn
  by_cases h8 : 8 < n
  · have h8' : (8 : Int) < (n : Int) := by omega
    go_enter Tryz.func33, Tryz.ntmps33
    have hx := Ext.refl w
    go_wp2_with fail
    refine bodyPost_ret (v := .bool true) (by simp only [results, Tryz.results33]; go_simp) rfl ?_
    exact ⟨_, rfl, (fun h => nomatch h), hx⟩
  · have h8' : ¬ (8 : Int) < (n : Int) := by omega
    go_enter Tryz.func33, Tryz.ntmps33
    have hx := Ext.refl w
    go_wp2_with fail
    refine H.out.mono ?_
    rintro e w1 ⟨v1, rfl, k1, hx0⟩
    go_wp2_with fail
    refine bodyPost_ret (v := .bool v1) (by simp only [results, Tryz.results33]; go_simp) rfl ?_
    exact ⟨_, rfl, (fun h => ⟨by rw [← Hn.out]; omega, k1 h⟩), hx0⟩

/-- Sequences that lie somewhere, and how they are handed on. -/
abbrev Seqs := List (Option Addr × List Qp × Nat)
def Seqs.lie (w : World) (ls : Seqs) : Prop := ∀ x ∈ ls, (∃ F, Qs w F x.1 x.2.1) ∧ x.2.1.length ≤ 1152921504606846976 ∧ ∀ q ∈ x.2.1, q.old.length ≤ 1152921504606846976 ∧ q.new.length ≤ 1152921504606846976
theorem Seqs.lie.ext {w w' : World} {ls : Seqs} (h : ls.lie w) (hx : Ext w w') : ls.lie w' := fun x hm => by
  obtain ⟨⟨F, h1⟩, h2⟩ := h x hm
  exact ⟨⟨F, h1.ext hx⟩, h2⟩
def Seqs.cells (ls : Seqs) : Array Value := (ls.map fun x => Value.slice x.1 x.2.1.length x.2.2).toArray
def Seqs.small (ls : Seqs) : Prop := ∀ x ∈ ls, Small x.2.1

set_option maxHeartbeats 4000000 in
set_option maxRecDepth 100000 in
theorem indexfunc_any (g : Nat) (t : TypeId) (ls : Seqs) (n : Nat) (w : World) (hb : Blk w g t ls.cells) (hn : ls.length = n) (hl : ls.lie w) (h8 : n ≤ 8) :
    Calls Tryz.prog 53 #[.slice (some ⟨g, 0, none⟩) n n, .func (.func 33) #[] #[]] w (fun e w' => ∃ i : Int, e = .returned (.int .i64 i) ∧ (i < 0 → ls.small) ∧ Ext w w') := by
  have HB := Lib.hid hb
  have HL := Lib.hid hl
  have HN := Lib.hid hn
  clear hb hl hn
  go_enter Tryz.func53, Tryz.ntmps53
  have hx := Ext.refl w
  go_wp2_with fail
  go_loopw [8] (fun u8 wr => ∃ k : Nat, k ≤ n ∧ u8 = .int .i64 k ∧ Ext w wr ∧ Hid (∀ x ∈ ls.take k, Small x.2.1)) (fun u8 wr => n - (intOf u8).toNat)
  case atStart => exact ⟨0, Nat.zero_le _, rfl, hx, Lib.hid (by simp)⟩
  case round =>
    clear hx
    obtain ⟨k, hk, rfl, hx, HS⟩ := hrel
    by_cases hlt : k < n
    · have hkl : k < ls.length := by rw [HN.out]; exact hlt
      have e1 : ls[k]? = some (ls[k]'hkl) := List.getElem?_eq_getElem hkl
      generalize ls[k]'hkl = x at e1
      have hm := HL.out x (List.mem_of_getElem? e1)
      obtain ⟨⟨F, hq⟩, hl1, hl2⟩ := hm
      have HG := Lib.hid (g15_any x.1 x.2.2 x.2.1 wr (hq.ext hx) hl1 hl2)
      have hcell : wr.cell? ⟨g, k, none⟩ = some (.slice x.1 x.2.1.length x.2.2) := by
        rw [(HB.out.ext hx).cell k]
        unfold Seqs.cells
        rw [List.getElem?_toArray, List.getElem?_map, e1]
        rfl
      have E1 := Lib.hid e1
      obtain ⟨xA, xl, xc⟩ := x
      dsimp only at HG hcell
      clear e1 hq hl1 hl2 hkl
      go_wp2_with fail
      clear hcell
      refine HG.out.mono ?_
      rintro e w1 ⟨v1, rfl, k1, hx0⟩
      have hx1 := hx.trans hx0
      clear hx hx0 HG
      have hx := hx1
      clear hx1
      have K1 := Lib.hid k1
      clear k1
      cases v1
      · go_wp2_with fail
        go_roundw
        case rel =>
          refine ⟨k + 1, hlt, rfl, hx, Lib.hid fun y hy => ?_⟩
          rw [List.take_add_one, E1.out] at hy
          rcases List.mem_append.1 hy with m | m
          · exact HS.out y m
          · obtain rfl : y = (xA, xl, xc) := by simpa using m
            exact K1.out trivial
        case measure => simp [intOf]; omega
      · go_wp2_with fail
        refine bodyPost_ret (v := .int .i64 k) (by simp only [results, Tryz.results53]; go_simp) rfl ?_
        exact ⟨_, rfl, (fun h => absurd h (by omega)), hx⟩
    · obtain rfl : k = n := by omega
      have HX : Hid ls.small := Lib.hid (by have := HS.out; rwa [List.take_of_length_le (by rw [HN.out]; exact Nat.le_refl _)] at this)
      clear HS
      go_wp2_with fail
      refine bodyPost_ret (v := .int .i64 (-1)) (by simp only [results, Tryz.results53]; go_simp) rfl ?_
      exact ⟨_, rfl, (fun _ => HX.out), hx⟩
set_option maxHeartbeats 4000000 in
set_option maxRecDepth 100000 in
theorem lawgreat15_any (g : Nat) (t : TypeId) (ls : Seqs) (n : Nat) (w : World) (hb : Blk w g t ls.cells) (hn : ls.length = n) (hl : ls.lie w) (h8 : n ≤ 8) :
    Calls Tryz.prog 11 #[.slice (some ⟨g, 0, none⟩) n n] w (Tells ls.small w) := by
  have H := Lib.hid (indexfunc_any g t ls n w hb hn hl h8)
  clear hb hl hn
  have HC : Calls Tryz.prog 32 #[.slice (some ⟨g, 0, none⟩) n n, .func (.func 33) #[] #[]] w (Tells ls.small w) := by
    go_enter Tryz.func32, Tryz.ntmps32
    have hx := Ext.refl w
    go_wp2_with fail
    refine H.out.mono ?_
    rintro e w1 ⟨i, rfl, k1, hx0⟩
    have K1 := Lib.hid k1
    clear k1
    go_wp2_with fail
    refine bodyPost_ret (v := .bool (decide (0 ≤ i))) (by simp only [results, Tryz.results32]; go_simp) rfl ?_
    exact ⟨_, rfl, (fun h => K1.out (by simpa using h)), hx0⟩
  have HC := Lib.hid HC
  clear H
  go_enter Tryz.func11, Tryz.ntmps11
  have hx := Ext.refl w
  go_wp2_with fail
  refine HC.out.mono ?_
  rintro e w1 ⟨v1, rfl, k1, hx0⟩
  go_wp2_with fail
  refine bodyPost_ret (v := .bool v1) (by simp only [results, Tryz.results11]; go_simp) rfl ?_
  exact ⟨_, rfl, k1, hx0⟩
end Go.Proofs.YtgfiddlmeopebaaGreatDoor
namespace Go.Proofs.YtgfiddlmeopebaaGreatDoor
open Go Go.RowKit
attribute [local go_sem ↓] Go.wp_at_zero Go.wp_at_succ

set_option maxHeartbeats 4000000 in
set_option maxRecDepth 100000 in
theorem join_any (A B : Option Addr) (n c m d : Nat) (a b : List Qp) (w : World) {F : Nat → Prop} (ha : Qs w F A a) (hb : Qs w F B b) (hn : a.length = n) (hm : b.length = m) (b1 : n ≤ 100000000000) (b2 : m ≤ 100000000000) :
    Calls Tryz.prog 27 #[.slice A n c, .slice B m d] w (fun e w' => ∃ C cc, e = .returned (.slice C (n + m : Nat) cc) ∧ Hid (Qs w' (fun b => F b ∧ b < w.heap.size) C (a ++ b)) ∧ (C = none → n + m = 0 ∧ cc = 0) ∧ Ext w w') := by
  have HA := Lib.hid ha.in
  have HB := Lib.hid hb.in
  have HN := Lib.hid hn
  have HM := Lib.hid hm
  clear ha hb hn hm
  go_enter Tryz.func27, Tryz.ntmps27
  have hx := Ext.refl w
  go_wp2_with (first
    | (at_builtin; refine wpList_grows _ rfl _ _ 22 rfl Tryz.underlying22 (by kernel_rfl) w.heap.size _ [] a rfl (Grows.empty (fun b => F b ∧ b < w.heap.size) (Nat.le_refl _)) A n c rfl HN.out (HA.out.ext ((Ext.refl w).alloc _)) (fun b hb => ⟨by have := hb.2; simp; omega, hb, own_ne hb.2⟩) (by simp; omega) (by simp) ?_; intro v1 w1 hgr hgrow; have hx1 : Ext w w1 := Ext.grownBy ((Ext.refl w).alloc _) hgrow (fun k e => Nat.le_of_eq (Option.some.inj (show some w.heap.size = some k from e))); have HO := Lib.hid hgr.own; have hz := hx1.size_le; have HG := Lib.hid hgr; have HX1 := Lib.hid hx1; clear HA hx hgr hgrow hx1)
    | (at_builtin; refine wpList_grows _ rfl _ _ 22 rfl Tryz.underlying22 (by kernel_rfl) w.heap.size v1 ([] ++ a) b rfl HG.out B m d rfl HM.out (HB.out.ext HX1.out) (fun b hb => ⟨by have := hb.2; omega, hb, fun e => by have := (HO.out b e.symm).1; have := hb.2; omega⟩) (by have := HN.out; simp; omega) hz ?_; intro v2 w2 hgr2 hgrow2; clear HB))
  have hx2 : Ext w w2 := Ext.grownBy HX1.out hgrow2 (fun k e => (HO.out k e).1)
  obtain ⟨C, cc, rfl, hqs, hle, hnone⟩ := hgr2.qs
  rw [List.nil_append] at hqs hle
  have hl : ([] ++ a ++ b).length = n + m := by have := HN.out; have := HM.out; simp; omega
  refine bodyPost_ret (v := .slice C ([] ++ a ++ b).length cc) (by simp only [results, Tryz.results27]; go_simp) rfl ?_
  refine ⟨C, cc, by rw [hl], Lib.hid (hqs.mono fun b hb => hb.1), fun e => ?_, hx2⟩
  have h0 := hnone e
  have : (a ++ b).length = n + m := by simpa using hl
  omega
end Go.Proofs.YtgfiddlmeopebaaGreatDoor
namespace Go.Proofs.YtgfiddlmeopebaaGreatDoor
open Go Go.RowKit
theorem Small.fits {l : List Qp} (h : Small l) : ∀ q ∈ l, q.Fits := fun q hq => (h.2 q hq).fits
/-- Merge, told apart by what comes of it. -/
theorem seqmerge_ok {A B : Option Addr} {n cA m cB : Nat} {a b : List Qp} {w : World} (hg : Glob w) {F : Nat → Prop} (ha : Qs w F A a) (hb : Qs w F B b) (hn : a.length = n) (hm : b.length = m) (hB : B = none → m = 0 ∧ cB = 0)
    (b1 : n ≤ 100000000000) (b2 : m ≤ 100000000000) (fa : ∀ q ∈ a, q.Fits) (fb : ∀ q ∈ b, q.Fits) {t : List Qp × List Qp} (ht : Sq.merge a b = .ok t) :
    Calls Tryz.prog 13 #[.slice A n cA, .slice B m cB] w (fun e w' => ∃ A1 c1 A2 c2, e = .returned (.tuple #[.slice A1 m c1, .slice A2 n c2, .agg #[.int .i64 0, .int .i64 0], .bool true]) ∧ Hid (Qs w' (Fresh F w) A1 t.1 ∧ Qs w' (Fresh F w) A2 t.2 ∧ (A1 = none → c1 = 0) ∧ (A2 = none → c2 = 0)) ∧ Ext w w') := by
  refine (seqmerge_any A B n cA m cB a b w hg ha hb hn hm hB b1 b2 fa fb).mono ?_
  rintro e w' ⟨h, hx⟩
  rw [ht] at h
  obtain ⟨A1, c1, A2, c2, rfl, hq⟩ := h
  obtain ⟨l1, l2⟩ := Sq.merge_length ht
  exact ⟨A1, c1, A2, c2, by rw [l1, l2, hn, hm], hq, hx⟩
theorem seqmerge_bad {A B : Option Addr} {n cA m cB : Nat} {a b : List Qp} {w : World} (hg : Glob w) {F : Nat → Prop} (ha : Qs w F A a) (hb : Qs w F B b) (hn : a.length = n) (hm : b.length = m) (hB : B = none → m = 0 ∧ cB = 0)
    (b1 : n ≤ 100000000000) (b2 : m ≤ 100000000000) (fa : ∀ q ∈ a, q.Fits) (fb : ∀ q ∈ b, q.Fits) {i k : Nat} (ht : Sq.merge a b = .error (i, k)) :
    Calls Tryz.prog 13 #[.slice A n cA, .slice B m cB] w (Ret (.tuple #[.slice none 0 0, .slice none 0 0, .agg #[.int .i64 i, .int .i64 k], .bool false]) w) := by
  refine (seqmerge_any A B n cA m cB a b w hg ha hb hn hm hB b1 b2 fa fb).mono ?_
  rintro e w' ⟨h, hx⟩
  rw [ht] at h
  exact ⟨h, hx⟩
theorem Qs.some {w : World} {F : Nat → Prop} {A : Option Addr} {l : List Qp} (h : Qs w F A l) (h0 : 0 < l.length) : ∃ b o, A = .some ⟨b, o, .none⟩ := by
  obtain ⟨ps, h1, h2, h3⟩ := h
  obtain ⟨b, o, e, _⟩ := h2 (by omega)
  exact ⟨b, o, e⟩

theorem wrap_small (n : Nat) (h : n ≤ 1000) : IntKind.i64.wrap ((n : Int) + 1) = (n : Int) + 1 := by
  simp [IntKind.wrap, IntKind.signed, IntKind.bits]
  omega
/-- Behind a call: the list may lie among new memory too. -/
theorem Qs.all {w : World} {F : Nat → Prop} {A : Option Addr} {l : List Qp} (h : Qs w F A l) : Qs w (fun _ => True) A l := h.mono fun _ _ => trivial
/-- A merge that goes through, the strings anywhere. -/
theorem seqmerge_go {A B : Option Addr} {n cA m cB : Nat} {a b : List Qp} {w : World} (hg : Glob w) (ha : Qs w (fun _ => True) A a) (hb : Qs w (fun _ => True) B b) (hn : a.length = n) (hm : b.length = m) (hB : B = none → m = 0 ∧ cB = 0)
    (b1 : n ≤ 100000000000) (b2 : m ≤ 100000000000) (fa : ∀ q ∈ a, q.Fits) (fb : ∀ q ∈ b, q.Fits) {t : List Qp × List Qp} (ht : Sq.merge a b = .ok t) :
    Calls Tryz.prog 13 #[.slice A n cA, .slice B m cB] w (fun e w' => ∃ A1 c1 A2 c2, e = .returned (.tuple #[.slice A1 m c1, .slice A2 n c2, .agg #[.int .i64 0, .int .i64 0], .bool true]) ∧ Hid (Qs w' (fun _ => True) A1 t.1) ∧ Hid (Qs w' (fun _ => True) A2 t.2) ∧ Hid ((A1 = none → c1 = 0) ∧ (A2 = none → c2 = 0)) ∧ Ext w w') := by
  refine (seqmerge_ok hg ha hb hn hm hB b1 b2 fa fb ht).mono ?_
  rintro e w' ⟨A1, c1, A2, c2, rfl, hq, hx⟩
  exact ⟨A1, c1, A2, c2, rfl, Lib.hid hq.out.1.all, Lib.hid hq.out.2.1.all, Lib.hid ⟨hq.out.2.2.1, hq.out.2.2.2⟩, hx⟩
theorem join_go {A B : Option Addr} {n c m d : Nat} {a b : List Qp} {w : World} (ha : Qs w (fun _ => True) A a) (hb : Qs w (fun _ => True) B b) (hn : a.length = n) (hm : b.length = m) (b1 : n ≤ 100000000000) (b2 : m ≤ 100000000000) :
    Calls Tryz.prog 27 #[.slice A n c, .slice B m d] w (fun e w' => ∃ C cc, e = .returned (.slice C (n + m : Nat) cc) ∧ Hid (Qs w' (fun _ => True) C (a ++ b)) ∧ Ext w w') := by
  refine (join_any A B n c m d a b w ha hb hn hm b1 b2).mono ?_
  rintro e w' ⟨C, cc, rfl, hq, _, hx⟩
  exact ⟨C, cc, rfl, Lib.hid hq.out.all, hx⟩
theorem merge_fitting {a b : List Qp} {t : List Qp × List Qp} (ht : Sq.merge a b = .ok t) (fa : ∀ q ∈ a, q.Fits) (fb : ∀ q ∈ b, q.Fits) : (∀ q ∈ t.1, q.Fits) ∧ ∀ q ∈ t.2, q.Fits := by
  induction a generalizing b t with
  | nil =>
    obtain rfl := Except.ok.inj ht
    exact ⟨fb, fun q hq => by cases hq⟩
  | cons x a ih =>
    unfold Sq.merge at ht
    split at ht
    · cases ht
    · rename_i r hr
      split at ht
      · rename_i u hu
        obtain rfl := Except.ok.inj ht
        obtain ⟨f1, f2⟩ := carried_fits hr (fa x (List.mem_cons_self ..))
        obtain ⟨g1, g2⟩ := ih hu (fun q hq => fa q (List.mem_cons_of_mem _ hq)) f2
        refine ⟨g1, fun q hq => ?_⟩
        rcases List.mem_cons.1 hq with rfl | hq
        · exact f1
        · exact g2 q hq
      · cases ht

end Go.Proofs.YtgfiddlmeopebaaGreatDoor
