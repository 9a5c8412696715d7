/- Walks: the states that are reached by leaving out. Walks: the states of component patterns; does a path match. Walks: does a path match a glob; is it a glob. -/
import Derived.Test.YtnjcifppkijanaaGreatDoorPE
import Derived.Test.YtnjcifppkijanaaGreatDoorPD
set_option linter.unusedSimpArgs false
set_option linter.unusedVariables false
namespace Go.Proofs.YtnjcifppkijanaaGreatDoor
open Go Go.RowKit

namespace Gl
/-- One more state and what is reached from it. -/
theorem Clo.more {α : Type} {l : List (Option α)} {S left : Nat → Prop} {i k : Nat} (hi : S i) (hik : i ≤ k) (hm : ∀ m, i ≤ m → m < k → l[m]? = some none) (hk : l[k]? ≠ some none) {T : Nat → Prop} (hT : ∀ j, T j ↔ Clo l (fun i => S i ∧ ¬ left i) j) (j : Nat) :
    (T j ∨ (i ≤ j ∧ j ≤ k)) ↔ Clo l (fun i' => S i' ∧ ¬ (left i' ∧ i' ≠ i)) j := by
  rw [hT j]
  constructor
  · rintro (⟨a, ⟨h1, h2⟩, h3, h4⟩ | ⟨h1, h2⟩)
    · exact ⟨a, ⟨h1, fun h => h2 h.1⟩, h3, h4⟩
    · exact ⟨i, ⟨hi, fun h => h.2 rfl⟩, h1, fun m h3 h4 => hm m h3 (by omega)⟩
  · rintro ⟨a, ⟨h1, h2⟩, h3, h4⟩
    by_cases e : a = i
    · subst e
      refine .inr ⟨h3, ?_⟩
      rcases Nat.lt_or_ge k j with h5 | h5
      · exact (hk (h4 k hik h5)).elim
      · exact h5
    · exact .inl ⟨a, ⟨h1, fun h => h2 ⟨h, e⟩⟩, h3, h4⟩
end Gl
set_option maxHeartbeats 8000000 in
set_option maxRecDepth 100000 in
theorem closure_any (A : Option Addr) (n cp mb : Nat) (l : List Gl.Cp) (S : Nat → Prop) (w : World) {F : Nat → Prop} (h : Cps w F A l) (hn : l.length = n) (hb : n ≤ 1000) (hS : Num w mb n S) :
    Calls Tryz.prog 158 #[.slice A n cp, .map (some mb)] w (fun e w' => ∃ ob, e = .returned (.map (some ob)) ∧ Num w' ob n (Gl.Clo l S) ∧ Ext w w') := by
  have HL := Lib.hid h
  have HN := Lib.hid hn
  have HS := Lib.hid hS
  have hmb := hS.lt
  clear h hn hS
  have hmm := @run_makeMap Tryz.prog
  have HNS := Lib.hid (HS.out.ext ((Ext.refl w).alloc (.map #[] 0)))
  have HT0 := Lib.hid (Num.made w n)
  go_enter Tryz.func158, Tryz.ntmps158
  go_wp2_with (at_range; refine wp_range_num rfl _ rfl mb n S rfl HNS.out ?_; intro w2 cnt hrg hg2 hsz2)
  go_frame
  have hx2 : Ext (w.alloc (.map #[] 0)) w2 := Below.grown (Ext.refl _) hg2 (Nat.le_refl _) (fun b e => by cases e)
  have HRG := Lib.hid hrg
  have HT2 := Lib.hid (HT0.out.ext hx2)
  have HX2 : Hid (Ext w w2) := Lib.hid (((Ext.refl w).alloc _).trans hx2)
  clear hrg hg2 hsz2 hx2 HT0 HNS HS
  generalize hrr : (w.alloc (.map #[] 0)).heap.size = rr at HRG ⊢
  simp only [World.size_alloc] at hrr
  have HRR := Lib.hid hrr
  clear hrr
  go_loopw [6] (fun _ wr => ∃ (left T : Nat → Prop) (cnt : Nat), Hid (NumR wr mb rr n S left cnt) ∧ Hid (Num wr w.heap.size n T) ∧ Hid (∀ j, T j ↔ Gl.Clo l (fun i => S i ∧ ¬ left i) j) ∧ Hid (Ext w wr)) (fun _ wr => wr.rangeLeft mb rr)
  case atStart => exact ⟨S, _, cnt, HRG, HT2, Lib.hid (fun j => ⟨fun h => h.elim, fun ⟨a, ⟨h1, h2⟩, _⟩ => (h2 h1).elim⟩), HX2⟩
  case round =>
    clear HRG HT2 HX2
    rename World => wo
    obtain ⟨left, T, cnt, HRG, HT, HTA, HX⟩ := hrel
    have hle := HRG.out.eq
    go_wp2_with (at_next; refine wp_next_num rfl _ rfl mb rr n S left cnt rfl HRG.out ?_ ?_)
    focus
      intro hdone
      have HTF : Hid (Num wo w.heap.size n (Gl.Clo l S)) := Lib.hid (HT.out.congr fun j => (HTA.out j).trans ⟨fun ⟨a, ⟨h1, _⟩, h3⟩ => ⟨a, h1, h3⟩, fun ⟨a, h1, h3⟩ => ⟨a, ⟨h1, hdone a⟩, h3⟩⟩)
      clear HT HTA HRG
      go_wp2_with fail
      go_ret
      exact ⟨_, rfl, HTF.out, HX.out⟩
    intro i w3 cnt1 hli hSi hrg1 hltc hg3 hsz3 hen
    have hml := hrg1.eq
    have HX3 := Lib.hid (show Ext w w3 from Below.grown HX.out hg3 HX.out.size_le (fun b e => by cases e; have := HRR.out; omega))
    have HRG1 := Lib.hid hrg1
    have HTW : Hid (Num w3 w.heap.size n T) := Lib.hid (HT.out.kept hg3 (fun e => by have := Option.some.inj e; have := HRR.out; omega))
    have hin : i ≤ n := HRG1.out.owns.le hSi
    have hrr2 : w.heap.size ≠ rr := by have := HRR.out; omega
    clear hrg1 hg3 hsz3 HRG HT HX
    go_wp2_with (at_mapUpdate; refine wp_put_num rfl _ _ _ rfl w.heap.size n T rfl HTW.out (by omega) i i rfl hin rfl rfl ?_; intro w4 hnum hgrow)
    have HX4 := Lib.hid (show Ext w w4 from Below.grown HX3.out hgrow HX3.out.size_le (fun b e => by cases e; exact Nat.le_refl _))
    have HRG4 := Lib.hid (HRG1.out.kept hgrow (fun e => by have := Option.some.inj e; omega) (fun e => hrr2 (Option.some.inj e).symm))
    have HT4 : Hid (Num w4 w.heap.size n (fun j => T j ∨ (i ≤ j ∧ j ≤ i))) := Lib.hid (hnum.congr fun j => or_congr Iff.rfl ⟨fun h => by omega, fun h => by omega⟩)
    clear hnum hgrow HX3 HRG1 HTW
    go_frame
    go_loopw [6] (fun u wq => ∃ k : Nat, u = .int .i64 k ∧ i ≤ k ∧ k ≤ n ∧ Hid (∀ m, i ≤ m → m < k → l[m]? = some none) ∧ Hid (NumR wq mb rr n S (fun j => left j ∧ j ≠ i) cnt1) ∧ Hid (Num wq w.heap.size n (fun j => T j ∨ (i ≤ j ∧ j ≤ k))) ∧ Hid (Ext w wq)) (fun u _ => n - (intOf u).toNat)
    case atStart => exact ⟨i, rfl, Nat.le_refl _, hin, Lib.hid (fun m h1 h2 => by omega), HRG4, HT4, HX4⟩
    case round =>
      clear HRG4 HT4 HX4
      obtain ⟨k, rfl, hik, hkn, HMM, HRG, HT, HX⟩ := hrel
      by_cases hlt : k < n
      · have hkl : k < l.length := by rw [HN.out]; exact hlt
        have e0 : l[k]? = some l[k] := List.getElem?_eq_getElem _
        obtain ⟨b, o, cs, rfl, hbl, -, -, hr, A', n', m', rfl, -⟩ := HL.out.get e0
        have c0 := (HX.out.cell (p := ⟨b, o + k * 2, none⟩) hbl).trans (hr 0 _ rfl)
        have E0 := Lib.hid e0
        clear hr e0
        generalize l[k] = x at c0 E0
        clear hkl
        cases x with
        | none =>
          go_wp2_with (at_mapUpdate; refine wp_put_num rfl _ _ _ rfl w.heap.size n _ rfl HT.out (by omega) _ (k + 1) rfl hlt rfl rfl ?_; intro w5 hnum hgrow)
          have HX5 := Lib.hid (show Ext w w5 from Below.grown HX.out hgrow HX.out.size_le (fun b e => by cases e; exact Nat.le_refl _))
          have HRG5 := Lib.hid (HRG.out.kept hgrow (fun e => by have := Option.some.inj e; omega) (fun e => hrr2 (Option.some.inj e).symm))
          have HT5 : Hid (Num w5 w.heap.size n (fun j => T j ∨ (i ≤ j ∧ j ≤ k + 1))) := Lib.hid (hnum.congr fun j => by
            constructor
            · rintro ((h | h) | h)
              · exact .inl h
              · exact .inr (by omega)
              · exact .inr (by omega)
            · rintro (h | h)
              · exact .inl (.inl h)
              · by_cases e : j = k + 1
                · exact .inr e
                · exact .inl (.inr (by omega)))
          have HM5 : Hid (∀ m, i ≤ m → m < k + 1 → l[m]? = some none) := Lib.hid fun m h1 h2 => by
            by_cases e : m = k
            · rw [e, E0.out]
            · exact HMM.out m h1 (by omega)
          clear hnum hgrow HX HRG HT HMM
          go_wp2_with fail
          go_roundw
          case rel => exact ⟨k + 1, rfl, by omega, hlt, HM5, HRG5, HT5, HX5⟩
          case measure => simp [intOf]; omega
        | some a =>
          have HTA2 := Lib.hid (Gl.Clo.more hSi hik HMM.out (by rw [E0.out]; simp) HTA.out)
          have hml5 := HRG.out.eq
          clear HMM
          go_wp2_with fail
          go_roundw
          case rel => exact ⟨_, _, cnt1, HRG, HT, HTA2, HX⟩
          case measure => rw [hml5, hle]; exact hltc
      · obtain rfl : k = n := by omega
        have HTA2 := Lib.hid (Gl.Clo.more hSi hik HMM.out (by rw [List.getElem?_eq_none (by rw [HN.out]; exact Nat.le_refl _)]; simp) HTA.out)
        have hml5 := HRG.out.eq
        have hkb : decide ((k : Int) < (k : Int)) = false := decide_eq_false (by omega)
        clear HMM
        go_wp2_with fail
        go_roundw
        case rel => exact ⟨_, _, cnt1, HRG, HT, HTA2, HX⟩
        case measure => rw [hml5, hle]; exact hltc
end Go.Proofs.YtnjcifppkijanaaGreatDoor
namespace Go.Proofs.YtnjcifppkijanaaGreatDoor
open Go Go.RowKit Go.Shelf

/-- Components in memory. -/
def Strs (w : World) (A : Option Addr) (n : Nat) (l : List (List UInt8)) : Prop := l.length = n ∧ ∀ k x, l[k]? = some x → ∃ b o, A = some ⟨b, o, none⟩ ∧ b < w.heap.size ∧ w.cell? ⟨b, o + k, none⟩ = some (.string (Ig.bs x))
theorem Strs.ext {w w' : World} {A : Option Addr} {n : Nat} {l : List (List UInt8)} (h : Strs w A n l) (hx : Ext w w') : Strs w' A n l :=
  ⟨h.1, fun k x hk => let ⟨b, o, h1, h2, h3⟩ := h.2 k x hk; ⟨b, o, h1, Nat.lt_of_lt_of_le h2 hx.size_le, (hx.cell (p := ⟨b, o + k, none⟩) h2).trans h3⟩⟩
namespace Gl
theorem Clo.closed {α : Type} {l : List (Option α)} {S : Nat → Prop} : ∀ i, Clo l S i → l[i]? = some none → Clo l S (i + 1) := fun i h1 h2 => h1.next h2
theorem Nxt.more {α β : Type} {f : α → β → Bool} {l : List (Option α)} {S left : Nat → Prop} {i : Nat} {x : β} (hi : S i) (j : Nat) :
    Nxt f l (fun i' => S i' ∧ ¬ (left i' ∧ i' ≠ i)) x j ↔ Nxt f l (fun i' => S i' ∧ ¬ left i') x j ∨ ((j = i ∧ l[i]? = some none) ∨ ∃ a, j = i + 1 ∧ l[i]? = some (some a) ∧ f a x = true) := by
  constructor
  · rintro (⟨⟨h1, h2⟩, h3⟩ | ⟨k, a, rfl, ⟨h1, h2⟩, h3, h4⟩)
    · by_cases e : j = i
      · subst e
        exact .inr (.inl ⟨rfl, h3⟩)
      · exact .inl (.inl ⟨⟨h1, fun h => h2 ⟨h, e⟩⟩, h3⟩)
    · by_cases e : k = i
      · subst e
        exact .inr (.inr ⟨a, rfl, h3, h4⟩)
      · exact .inl (.inr ⟨k, a, rfl, ⟨h1, fun h => h2 ⟨h, e⟩⟩, h3, h4⟩)
  · rintro ((⟨⟨h1, h2⟩, h3⟩ | ⟨k, a, rfl, ⟨h1, h2⟩, h3, h4⟩) | (⟨rfl, h3⟩ | ⟨a, rfl, h3, h4⟩))
    · exact .inl ⟨⟨h1, fun h => h2 h.1⟩, h3⟩
    · exact .inr ⟨k, a, rfl, ⟨h1, fun h => h2 h.1⟩, h3, h4⟩
    · exact .inl ⟨⟨hi, fun h => h.2 rfl⟩, h3⟩
    · exact .inr ⟨i, a, rfl, ⟨hi, fun h => h.2 rfl⟩, h3, h4⟩
end Gl
set_option maxHeartbeats 16000000 in
set_option maxRecDepth 100000 in
theorem walk_any (A B : Option Addr) (n cp m cp2 : Nat) (l : List Gl.Cp) (ps : List (List UInt8)) (w : World) (h : Cps w All A l) (hn : l.length = n) (hb : n ≤ 1000) (hsm : ∀ x ∈ l, (x.getD []).length ≤ 1000) (hps : Strs w B m ps) (hm : m ≤ 1000000) (hpz : ∀ x ∈ ps, x.length ≤ 1000000) :
    Calls Tryz.prog 147 #[.slice A n cp, .slice B m cp2] w (fun e w' => ∃ ob S, e = .returned (.map (some ob)) ∧ Num w' ob n S ∧ (S n ↔ Gl.fitG l ps = true) ∧ Ext w w') := by
  have HL := Lib.hid h
  have HN := Lib.hid hn
  have HSM := Lib.hid hsm
  have HPS := Lib.hid hps
  have HPZ := Lib.hid hpz
  clear h hn hsm hps hpz
  have hmm := @run_makeMap Tryz.prog
  have HM := Lib.hid (Num.made w n)
  go_enter Tryz.func147, Tryz.ntmps147
  go_wp2_with (refine wp_ins_num rfl _ _ _ rfl w.heap.size n (fun _ => False) rfl HM.out (by omega) 0 0 rfl (Nat.zero_le _) rfl rfl ?_; intro w1 hnum hgrow)
  have HX1 := Lib.hid (show Ext w w1 from Below.grown ((Ext.refl w).alloc _) hgrow (by simp) (fun b e => by cases e; exact Nat.le_refl _))
  have HN1 : Hid (Num w1 w.heap.size n fun i => i = 0) := Lib.hid (hnum.congr fun i => by simp)
  clear hnum hgrow HM
  go_wp2_with fail
  refine (closure_any A n cp w.heap.size l (fun i => i = 0) w1 (Sls.ext Cpt.steadfast HL.out HX1.out) HN.out hb HN1.out).mono ?_
  rintro e w2 ⟨ob, rfl, hnum2, hx2⟩
  have HX2 := Lib.hid (HX1.out.trans hx2)
  have HN2 := Lib.hid hnum2
  have HC0 : Hid (∀ i, Gl.Clo l (fun i => i = 0) i → l[i]? = some none → Gl.Clo l (fun i => i = 0) (i + 1)) := Lib.hid Gl.Clo.closed
  have HA0 : Hid (Gl.Any Gl.fitE l (Gl.Clo l fun i => i = 0) (ps.drop 0) ↔ Gl.fitG l ps = true) := Lib.hid (by
    rw [List.drop_zero]
    exact (Gl.Any.clo (fun i h => by rw [h]; exact Nat.zero_le _)).trans (Gl.Any.start l ps).symm)
  clear hx2 hnum2 HX1 HN1
  go_wp2_with fail
  go_loopw [16, 5] (fun u v wr => ∃ (k mb : Nat) (S : Nat → Prop), u = .int .i64 k ∧ v = .map (some mb) ∧ k ≤ m ∧ Hid (Num wr mb n S) ∧ Hid (∀ i, S i → l[i]? = some none → S (i + 1)) ∧ Hid (Gl.Any Gl.fitE l S (ps.drop k) ↔ Gl.fitG l ps = true) ∧ Hid (Ext w wr)) (fun u _ _ => m - (intOf u).toNat)
  case atStart => exact ⟨0, ob, _, rfl, rfl, Nat.zero_le _, HN2, HC0, HA0, HX2⟩
  case round =>
    clear HN2 HC0 HA0 HX2
    rename World => wo
    obtain ⟨k, mb, S, rfl, rfl, hk, HNM, HCL, HAN, HX⟩ := hrel
    have hmb : mb < wo.heap.size := HNM.out.lt
    have hwo : w.heap.size ≤ wo.heap.size := HX.out.size_le
    by_cases hlt : k < m
    · have hkl : k < ps.length := by rw [HPS.out.1]; exact hlt
      have e0 : ps[k]? = some ps[k] := List.getElem?_eq_getElem _
      obtain ⟨b, o, rfl, hbl, hc⟩ := HPS.out.2 k _ e0
      have c0 := (HX.out.cell (p := ⟨b, o + k, none⟩) hbl).trans hc
      have hdr : ps.drop k = ps[k] :: ps.drop (k + 1) := List.drop_eq_getElem_cons hkl
      have hsz := HPZ.out _ (List.getElem_mem hkl)
      have HDR := Lib.hid hdr
      clear hc e0 hdr
      generalize ps[k] = x at c0 hsz HDR
      clear hkl
      have HNS := Lib.hid (HNM.out.ext ((Ext.refl wo).alloc (.map #[] 0)))
      have HT0 := Lib.hid (Num.made wo n)
      go_wp2_with (at_range; refine wp_range_num rfl _ rfl mb n S rfl HNS.out ?_; intro w3 cnt hrg hg2 hsz2)
      go_frame
      have hx2 : Ext (wo.alloc (.map #[] 0)) w3 := Below.grown (Ext.refl _) hg2 (Nat.le_refl _) (fun b e => by cases e)
      have HRG := Lib.hid hrg
      have HT2 := Lib.hid (HT0.out.ext hx2)
      have HX3 : Hid (Ext w w3) := Lib.hid (HX.out.trans (((Ext.refl wo).alloc _).trans hx2))
      clear hrg hg2 hsz2 hx2 HT0 HNS HNM HX c0
      generalize hrr : (wo.alloc (.map #[] 0)).heap.size = rr at HRG ⊢
      simp only [World.size_alloc] at hrr
      have HRR := Lib.hid hrr
      have hrr2 : wo.heap.size ≠ rr := by omega
      have hrr3 : w.heap.size ≤ rr := by omega
      clear hrr
      go_loopw [9] (fun _ wr => ∃ (left T : Nat → Prop) (cnt : Nat), Hid (NumR wr mb rr n S left cnt) ∧ Hid (Num wr wo.heap.size n T) ∧ Hid (∀ j, T j ↔ Gl.Nxt Gl.fitE l (fun i => S i ∧ ¬ left i) x j) ∧ Hid (Ext w wr)) (fun _ wr => wr.rangeLeft mb rr)
      case atStart => exact ⟨S, _, cnt, HRG, HT2, Lib.hid (fun j => ⟨fun h => h.elim, fun h => h.elim (fun h => (h.1.2 h.1.1).elim) (fun ⟨_, _, _, h, _⟩ => (h.2 h.1).elim)⟩), HX3⟩
      case round =>
        clear HRG HT2 HX3
        rename World => wi
        obtain ⟨left, T, cnt, HRG, HT, HTA, HX⟩ := hrel
        have hle := HRG.out.eq
        go_wp2_with (at_next; refine wp_next_num rfl _ rfl mb rr n S left cnt rfl HRG.out ?_ ?_)
        focus
          intro hdone
          have HTF : Hid (Num wi wo.heap.size n (Gl.Nxt Gl.fitE l S x)) := Lib.hid (HT.out.congr fun j => (HTA.out j).trans (by
            have : (fun i => S i ∧ ¬ left i) = S := funext fun i => propext ⟨fun h => h.1, fun h => ⟨h, hdone i⟩⟩
            rw [this]))
          clear HT HTA HRG
          go_wp2_with fail
          refine (closure_any A n cp wo.heap.size l (Gl.Nxt Gl.fitE l S x) wi (Sls.ext Cpt.steadfast HL.out HX.out) HN.out hb HTF.out).mono ?_
          rintro e w5 ⟨ob5, rfl, hnum5, hx5⟩
          have HX5 := Lib.hid (HX.out.trans hx5)
          have HN5 := Lib.hid hnum5
          have HC5 : Hid (∀ i, Gl.Clo l (Gl.Nxt Gl.fitE l S x) i → l[i]? = some none → Gl.Clo l (Gl.Nxt Gl.fitE l S x) (i + 1)) := Lib.hid Gl.Clo.closed
          have HA5 : Hid (Gl.Any Gl.fitE l (Gl.Clo l (Gl.Nxt Gl.fitE l S x)) (ps.drop (k + 1)) ↔ Gl.fitG l ps = true) := Lib.hid (by
            rw [← HAN.out, HDR.out]
            exact (Gl.Any.clo (fun i h => h.le)).trans (Gl.Any.nxt HCL.out).symm)
          clear hx5 hnum5 HTF HX HAN HCL HDR
          go_wp2_with fail
          go_roundw
          case rel => exact ⟨k + 1, ob5, _, rfl, rfl, hlt, HN5, HC5, HA5, HX5⟩
          case measure => simp [intOf]; omega
        intro i w4 cnt1 hli hSi hrg1 hltc hg3 hsz3 hen
        have hml := hrg1.eq
        have HX4 := Lib.hid (show Ext w w4 from Below.grown HX.out hg3 HX.out.size_le (fun b e => by cases e; exact hrr3))
        have HRG1 := Lib.hid hrg1
        have HTW : Hid (Num w4 wo.heap.size n T) := Lib.hid (HT.out.kept hg3 (fun e => hrr2 (Option.some.inj e)))
        have hin : i ≤ n := HRG1.out.owns.le hSi
        have HNX : Hid (∀ j, Gl.Nxt Gl.fitE l (fun i' => S i' ∧ ¬ (left i' ∧ i' ≠ i)) x j ↔ T j ∨ ((j = i ∧ l[i]? = some none) ∨ ∃ a, j = i + 1 ∧ l[i]? = some (some a) ∧ Gl.fitE a x = true)) := Lib.hid fun j => by
          rw [HTA.out j]
          exact Gl.Nxt.more hSi j
        clear hrg1 hg3 hsz3 HRG HT HX
        by_cases hil : i = n
        · have hib : (((i : Nat) : Int) == ((n : Nat) : Int)) = true := by rw [hil]; simp
          have HT5 : Hid (∀ j, T j ↔ Gl.Nxt Gl.fitE l (fun i' => S i' ∧ ¬ (left i' ∧ i' ≠ i)) x j) := Lib.hid fun j => by
            rw [HNX.out j]
            have : l[i]? = none := List.getElem?_eq_none (by rw [HN.out, hil]; exact Nat.le_refl _)
            rw [this]
            exact ⟨.inl, fun h => h.elim id fun h => h.elim (fun h => by cases h.2) (fun ⟨_, _, h, _⟩ => by cases h)⟩
          have hml5 := HRG1.out.eq
          clear HNX
          go_wp2_with fail
          go_roundw
          case rel => exact ⟨_, T, cnt1, HRG1, HTW, HT5, HX4⟩
          case measure => rw [hml5, hle]; exact hltc
        have hib : (((i : Nat) : Int) == ((n : Nat) : Int)) = false := beq_eq_false_iff_ne.2 (by omega)
        have hil2 : i < l.length := by rw [HN.out]; omega
        have e1 : l[i]? = some l[i] := List.getElem?_eq_getElem _
        obtain ⟨b2, o2, cs, rfl, hbl2, -, -, hr, A', n', m', rfl, hn', hnm', hel'⟩ := HL.out.get e1
        have hsm' := HSM.out _ (List.getElem_mem hil2)
        have c0 := (HX4.out.cell (p := ⟨b2, o2 + i * 2, none⟩) hbl2).trans (hr 0 _ rfl)
        have c1 := (HX4.out.cell (p := ⟨b2, o2 + i * 2 + 1, none⟩) hbl2).trans (hr 1 _ rfl)
        have E1 := Lib.hid e1
        have hilb : (i : Int) < (n : Int) := by omega
        clear hr e1
        generalize l[i] = y at c0 c1 E1 hn' hel' hsm'
        clear hil2
        cases y with
        | none =>
          go_wp2_with (at_mapUpdate; refine wp_put_num rfl _ _ _ rfl wo.heap.size n T rfl HTW.out (by omega) _ i rfl hin rfl rfl ?_; intro w5 hnum hgrow)
          have HX5 := Lib.hid (show Ext w w5 from Below.grown HX4.out hgrow HX4.out.size_le (fun b e => by cases e; exact hwo))
          have HRG5 := Lib.hid (HRG1.out.kept hgrow (fun e => by have := Option.some.inj e; omega) (fun e => hrr2 (Option.some.inj e).symm))
          have HT5 : Hid (Num w5 wo.heap.size n (fun j => T j ∨ j = i)) := Lib.hid hnum
          have HTA5 : Hid (∀ j, (T j ∨ j = i) ↔ Gl.Nxt Gl.fitE l (fun i' => S i' ∧ ¬ (left i' ∧ i' ≠ i)) x j) := Lib.hid fun j => by
            rw [HNX.out j, E1.out]
            simp
          have hml5 := HRG5.out.eq
          clear hnum hgrow HX4 HRG1 HTW HNX
          go_frame
          go_roundw
          case rel => exact ⟨_, _, cnt1, HRG5, HT5, HTA5, HX5⟩
          case measure => rw [hml5, hle]; exact hltc
        | some a =>
          have HF : Hid (∀ W, Ext w W → Calls Tryz.prog 159 #[.agg #[.bool false, .slice A' n' m'], .string (Ig.bs x)] W (Ret (.bool (Gl.fitE a x)) W)) := Lib.hid fun W hW =>
            fits_any false A' n' m' a (Ig.bs x) W (Sls.ext Elt.steadfast hel' hW) hn' (by rw [← hn']; exact hsm') hsz
          clear hel' hn' hsm'
          go_wp2_with fail
          refine (HF.out _ HX4.out).mono ?_
          rintro e w5 ⟨rfl, hx5⟩
          have HX5 := Lib.hid (HX4.out.trans hx5)
          have HRG5 := Lib.hid (HRG1.out.ext hx5)
          have HT5 := Lib.hid (HTW.out.ext hx5)
          have hml5 := HRG5.out.eq
          clear hx5 HX4 HRG1 HTW c0 c1
          cases hfit : Gl.fitE a x with
          | false =>
            have HTA5 : Hid (∀ j, T j ↔ Gl.Nxt Gl.fitE l (fun i' => S i' ∧ ¬ (left i' ∧ i' ≠ i)) x j) := Lib.hid fun j => by
              rw [HNX.out j, E1.out]
              simp [hfit]
            clear HNX
            go_wp2_with fail
            go_roundw
            case rel => exact ⟨_, T, cnt1, HRG5, HT5, HTA5, HX5⟩
            case measure => rw [hml5, hle]; exact hltc
          | true =>
            go_wp2_with (at_mapUpdate; refine wp_put_num rfl _ _ _ rfl wo.heap.size n T rfl HT5.out (by omega) _ (i + 1) rfl (by omega) rfl rfl ?_; intro w6 hnum hgrow)
            have HX6 := Lib.hid (show Ext w w6 from Below.grown HX5.out hgrow HX5.out.size_le (fun b e => by cases e; exact hwo))
            have HRG6 := Lib.hid (HRG5.out.kept hgrow (fun e => by have := Option.some.inj e; omega) (fun e => hrr2 (Option.some.inj e).symm))
            have HT6 : Hid (Num w6 wo.heap.size n (fun j => T j ∨ j = i + 1)) := Lib.hid hnum
            have HTA6 : Hid (∀ j, (T j ∨ j = i + 1) ↔ Gl.Nxt Gl.fitE l (fun i' => S i' ∧ ¬ (left i' ∧ i' ≠ i)) x j) := Lib.hid fun j => by
              rw [HNX.out j, E1.out]
              simp [hfit]
            have hml6 := HRG6.out.eq
            clear hnum hgrow HX5 HRG5 HT5 HNX
            go_frame
            go_roundw
            case rel => exact ⟨_, _, cnt1, HRG6, HT6, HTA6, HX6⟩
            case measure => rw [hml6, hle]; exact hltc
    · obtain rfl : k = m := by omega
      have HRS : Hid (S n ↔ Gl.fitG l ps = true) := Lib.hid (by
        rw [← HAN.out, List.drop_eq_nil_iff.2 (by rw [HPS.out.1]; exact Nat.le_refl _), ← HN.out]
        exact (Gl.Any.last HCL.out).symm)
      clear HAN HCL
      go_wp2_with fail
      go_ret
      exact ⟨mb, S, rfl, HNM.out, HRS.out, HX.out⟩
end Go.Proofs.YtnjcifppkijanaaGreatDoor
namespace Go.Proofs.YtnjcifppkijanaaGreatDoor
open Go Go.RowKit Go.Shelf

set_option maxHeartbeats 2000000 in
theorem gcheck_any (g : ByteArray) (w : World) (hgl : Glob w) : Calls Tryz.prog 40 #[.string g] w (Ret (.int .i64 (Ig.gcheck g.data.toList)) w) := by
  go_enter Tryz.func40, Tryz.ntmps40
  go_wp2_with fail
  refine (parse_any g w hgl).mono ?_
  rintro e w1 ⟨A, n, c, rfl, hx, -⟩
  go_wp2_with fail
  go_ret
  exact ⟨rfl, hx⟩
set_option maxHeartbeats 2000000 in
theorem gsplit_any (s : ByteArray) (w : World) (hs : s.size ≤ 200) (hgl : Glob w) :
    Calls Tryz.prog 148 #[.string s] w (fun e w' => ∃ A n c, e = .returned (.slice A n c) ∧ Strs w' A n (if s.data.toList = [] then [] else Ig.cut 47 s.data.toList) ∧ n ≤ 201 ∧ (∀ x ∈ (if s.data.toList = [] then [] else Ig.cut 47 s.data.toList), x.length ≤ 200) ∧ Ext w w') := by
  have hx := Ext.refl w
  by_cases hem : s.data.toList = []
  · have h1 : s.toList.isEmpty = true := (toList_nil_iff s).2 hem
    rw [if_pos hem]
    go_enter Tryz.func148, Tryz.ntmps148
    go_wp2_with fail
    go_ret
    exact ⟨none, 0, 0, rfl, ⟨rfl, fun k x h => by cases h⟩, by omega, (fun x h => by cases h), hx⟩
  have h1 : s.toList.isEmpty = false := by
    cases h : s.toList.isEmpty
    · rfl
    · exact (hem ((toList_nil_iff s).1 h)).elim
  rw [if_neg hem]
  have HPC : Hid (pieces s = (Ig.cut 47 s.data.toList).map Ig.bs) := Lib.hid (Ig.pieces_cut s.size s (Nat.le_refl _))
  go_enter Tryz.func148, Tryz.ntmps148
  go_wp2_with fail
  refine (split_path _ _ hs hgl).mono ?_
  rintro e w1 ⟨n, hn, hn2, rfl, hx1, hcl⟩
  have HN := Lib.hid hn
  clear hn
  go_wp2_with fail
  go_ret
  have hlen : (Ig.cut 47 s.data.toList).length = n := by rw [HN.out, HPC.out, List.length_map]
  refine ⟨_, n, n, rfl, ⟨hlen, fun k x hk => ?_⟩, hn2, fun x hx => ?_, hx1⟩
  · have hkn : k < n := by rw [← hlen]; exact (List.getElem?_eq_some_iff.1 hk).1
    have h2 := hcl k hkn
    refine ⟨w.heap.size, 0, rfl, cell_lt h2, ?_⟩
    rw [Nat.zero_add, h2, HPC.out]
    simp [List.getD, hk]
  · have h3 := pieces_small ⟨#[47]⟩ (by decide) (Lib.countB s ⟨#[47]⟩) s (Ig.bs x) (by show _ ∈ pieces s; rw [HPC.out]; exact List.mem_map_of_mem hx)
    have h4 : (Ig.bs x).size = x.length := rfl
    omega
set_option maxHeartbeats 4000000 in
theorem match_any (g s : ByteArray) (w : World) (hs : s.size ≤ 200) (hgl : Glob w) : Calls Tryz.prog 132 #[.string g, .string s] w (Ret (.bool (Ig.gmatch g.data.toList s.data.toList)) w) := by
  have hx := Ext.refl w
  have HG := Lib.hid hgl
  clear hgl
  go_enter Tryz.func132, Tryz.ntmps132
  go_wp2_with fail
  refine (parse_any g w HG.out).mono ?_
  rintro e w1 ⟨A, n, c, rfl, hx1, hl⟩
  have HX1 := Lib.hid hx1
  have HLL := Lib.hid hl
  have HG1 := Lib.hid (HG.out.ext hx1)
  clear hx1 hl hx
  cases hz : (Ig.gcheck g.data.toList == 0) with
  | false =>
    have hv : Ig.gmatch g.data.toList s.data.toList = false := by
      unfold Ig.gmatch
      unfold Ig.gcheck at hz
      split
      · rfl
      · rename_i h
        rw [if_neg h] at hz
        cases hc : Gl.comps (Ig.cut 47 g.data.toList) with
        | none => rfl
        | some l => rw [hc] at hz; cases hz
    have HV := Lib.hid hv
    clear hv
    go_wp2_with fail
    go_ret
    exact ⟨by rw [HV.out]; rfl, HX1.out⟩
  | true =>
    have hz0 : Ig.gcheck g.data.toList = 0 := by simpa using hz
    obtain ⟨l, hc, hln, hnc, hn2, hsm, hcp⟩ := HLL.out hz0
    have hv : Ig.gmatch g.data.toList s.data.toList = Gl.fitG l (if s.data.toList = [] then [] else Ig.cut 47 s.data.toList) := by
      unfold Ig.gmatch
      unfold Ig.gcheck at hz0
      split
      · rename_i h
        rw [if_pos h] at hz0
        cases hz0
      · rw [hc]
    have HV := Lib.hid hv
    have HCP := Lib.hid hcp
    have HSM := Lib.hid hsm
    have HLN := Lib.hid hln
    clear hv hz hc hsm hcp HLL hln
    rw [hz0]
    clear hz0
    go_wp2_with fail
    refine (gsplit_any s w1 hs HG1.out).mono ?_
    rintro e w2 ⟨B, m, c2, rfl, hst, hm2, hsz, hx2⟩
    have HX2 := Lib.hid (HX1.out.trans hx2)
    have HST := Lib.hid hst
    have HSZ := Lib.hid hsz
    have HCP2 := Lib.hid (Sls.ext Cpt.steadfast HCP.out hx2)
    clear hst hsz hx2
    generalize (if s.data.toList = [] then [] else Ig.cut 47 s.data.toList) = ps at HST HSZ HV
    go_wp2_with fail
    refine (walk_any A B n c m c2 l ps w2 HCP2.out HLN.out (by omega) (fun x hx => by have := HSM.out x hx; omega) HST.out (by omega) (fun x hx => by have := HSZ.out x hx; omega)).mono ?_
    rintro e w3 ⟨ob, S, rfl, hnum, hS, hx3⟩
    have HX3 := Lib.hid (HX2.out.trans hx3)
    have HNU := Lib.hid hnum
    have HSS := Lib.hid hS
    clear hnum hS hx3
    obtain ⟨cc, hlk, hcc⟩ := HNU.out.look (k := n) (by omega)
    have HFI : Hid (cc = Ig.gmatch g.data.toList s.data.toList) := Lib.hid (by rw [HV.out, Bool.eq_iff_iff, hcc, HSS.out])
    clear hcc HV
    go_wp2_with fail
    go_ret
    exact ⟨by rw [← HFI.out]; rfl, HX3.out⟩
end Go.Proofs.YtnjcifppkijanaaGreatDoor
