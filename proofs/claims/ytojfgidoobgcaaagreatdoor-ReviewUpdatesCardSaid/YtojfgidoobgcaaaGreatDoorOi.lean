/- Walks: ReviewStory. -/
import Derived.Test.YtojfgidoobgcaaaGreatDoorOh
set_option linter.unusedSimpArgs false
set_option linter.unusedVariables false
namespace Go.Proofs.YtojfgidoobgcaaaGreatDoor
open Go Go.RowKit

theorem name_size {s : ByteArray} (h : Qm.isName s = true) : s.size ≤ 40 := by
  unfold Qm.isName at h
  simp only [Bool.and_eq_true, decide_eq_true_eq] at h
  exact h.2.1.1.2
theorem ids_size {l : List Dg} (h : Vw.ids l = 0) : l.length ≤ 400 := by
  unfold Vw.ids at h
  split at h
  · cases h
  · omega
theorem vote_fits {v : Vt} (h : Vw.vote v = 0) : v.Fits := by
  unfold Vw.vote at h
  split at h
  · cases h
  rename_i h1
  split at h
  · cases h
  split at h
  · cases h
  rename_i h3
  have := name_size (s := v.who) (by simpa using h1)
  have := ids_size h
  exact ⟨by omega, by omega, by omega⟩
/-- Valid reviews are of no great size. -/
theorem check_fits {l : List Rv} (h : Vw.check l = 0) : l.length ≤ 100 ∧ ∀ r ∈ l, r.Fits ∧ r.votes.length ≤ 100 := by
  obtain ⟨h1, h2⟩ := Vw.check_zero.1 h
  refine ⟨h1, fun r hr => ?_⟩
  obtain ⟨i, hi⟩ := List.getElem?_of_mem hr
  obtain ⟨⟨g1, g2⟩, g3, _, g4, g5⟩ := Vw.body_zero.1 (h2 i r hi).2
  have := name_size g1
  have := name_size g2
  have := ids_size g3
  exact ⟨⟨by omega, by omega, by omega, by omega, fun v hv => vote_fits (g5 v hv)⟩, g4⟩
/-- Eleven cells of a row. -/
theorem cells11 {W : World} {b o : Nat} {v0 v1 v2 v3 v4 v5 v6 v7 v8 v9 va : Value} (h : W.rangeAt b o [v0, v1, v2, v3, v4, v5, v6, v7, v8, v9, va]) :
    W.cell? ⟨b, o, none⟩ = some v0 ∧ W.cell? ⟨b, o + 1, none⟩ = some v1 ∧ W.cell? ⟨b, o + 2, none⟩ = some v2 ∧ W.cell? ⟨b, o + 3, none⟩ = some v3 ∧ W.cell? ⟨b, o + 4, none⟩ = some v4 ∧ W.cell? ⟨b, o + 5, none⟩ = some v5 ∧ W.cell? ⟨b, o + 6, none⟩ = some v6 ∧ W.cell? ⟨b, o + 7, none⟩ = some v7 ∧ W.cell? ⟨b, o + 8, none⟩ = some v8 ∧ W.cell? ⟨b, o + 9, none⟩ = some v9 ∧ W.cell? ⟨b, o + 10, none⟩ = some va :=
  ⟨h 0 v0 rfl, h 1 v1 rfl, h 2 v2 rfl, h 3 v3 rfl, h 4 v4 rfl, h 5 v5 rfl, h 6 v6 rfl, h 7 v7 rfl, h 8 v8 rfl, h 9 v9 rfl, h 10 va rfl⟩
theorem check_nil : Vw.check [] = 0 := rfl
set_option maxHeartbeats 16000000 in
set_option maxRecDepth 100000 in
theorem story_walk (A : Option Addr) (n c : Nat) (l : List Vw.Ac) (w : World) (hg : Glob w) (h : As w All A l) (hn : l.length = n) (hb : n ≤ 4611686018427387904) (hw : ∀ a ∈ l, a.Wide) :
    Calls Tryz.prog 6 #[.slice A n c] w (Ret (.bool true) w) := by
  have HG := Lib.hid hg
  have HL := Lib.hid h
  have HN := Lib.hid hn
  have HS := Lib.hid (small_any A n c l w h hn hb hw)
  obtain ⟨sm, hsm⟩ : ∃ sm, sm = Vw.small l := ⟨_, rfl⟩
  rw [← hsm] at HS
  have HE := Lib.hid hsm
  clear h hn hg hw hsm
  go_enter Tryz.func6, Tryz.ntmps6
  have hx := Ext.refl w
  go_wp2_with fail
  refine HS.out.mono ?_
  rintro e w1 ⟨rfl, hx0⟩
  have HX := Lib.hid (hx.trans hx0)
  clear hx hx0 HS
  cases sm
  · go_wp2_with fail
    refine (awake55_any _ (HG.out.ext HX.out)).mono ?_
    rintro e w2 ⟨rfl, hx0⟩
    have HX2 := Lib.hid (HX.out.trans hx0)
    clear hx0
    go_wp2_with fail
    go_ret
    exact Ret.mk rfl HX2.out
  have HSF := Lib.hid (small_fits HE.out.symm)
  have hn12 : n ≤ 12 := by have := HSF.out.1; rw [HN.out] at this; exact this
  clear HE
  go_wp2_with fail
  go_loopw [3, 17] (fun u i wr => ∃ (k : Nat) (B : Option Addr) (bn bc : Nat) (L : List Rv), k ≤ n ∧ i = .int .i64 k ∧ u = .slice B bn bc ∧ Hid (Revs wr B bn bc L) ∧ Hid (Vw.check L = 0) ∧ bn ≤ 100 ∧ Ext w wr) (fun u i wr => n - (intOf i).toNat)
  case atStart => exact ⟨0, none, 0, 0, [], Nat.zero_le _, rfl, rfl, Lib.hid (Revs.nil _), Lib.hid check_nil, Nat.zero_le _, HX.out⟩
  case round =>
    clear HX
    obtain ⟨k, B, bn, bc, L, hk, rfl, rfl, HR, HK, hbn, hx⟩ := hrel
    by_cases hlt : k < n
    · have hkl : k < l.length := by rw [HN.out]; exact hlt
      have e0 : l[k]? = some l[k] := List.getElem?_eq_getElem _
      have fa := HSF.out.2 _ (List.mem_of_getElem? e0)
      obtain ⟨b, o, cs, rfl, hbl, _, _, hr, hvt⟩ := (Sls.ext ActR.steadfast HL.out hx).get e0
      generalize l[k] = a at e0 hvt fa
      have HAF : Hid (∀ W, Ext wr W → Calls Tryz.prog 31 #[.slice B bn bc, .agg cs.toArray] W (GivesB W (Vw.after L a))) := Lib.hid fun W hW =>
        after_any B bn bc L cs a W (HG.out.ext (hx.trans hW)) (HR.out.ext hW) (by omega) (fun r hr => ((check_fits HK.out).2 r hr).1) (ActR.steadfast.ext hvt hW) fa
      obtain ⟨A', n', m', X', p', q', rfl, _, _, _, _⟩ := hvt
      obtain ⟨c0, c1, c2, c3, c4, c5, c6, c7, c8, c9, ca⟩ := cells11 hr
      have HX := Lib.hid hx
      have HKE := Lib.hid (Vw.story HK.out a)
      clear hr e0 fa hkl hx hk
      generalize Vw.after L a = Z at HAF HKE
      obtain ⟨next, zb⟩ := Z
      go_wp2_with fail
      refine (HAF.out _ ((Ext.refl wr).alloc _)).mono ?_
      rintro e w2 ⟨B2, n2, c2', rfl, hrv, hx0⟩
      have HX2 := Lib.hid ((HX.out.alloc _).trans hx0)
      have HR2 := Lib.hid hrv
      replace HR := Lib.hid (HR.out.ext (((Ext.refl wr).alloc _).trans hx0))
      have HCN := Lib.hid (check_fits HKE.out.ok)
      have hn2 : n2 ≤ 100 := by have := HCN.out.1; rw [HR2.out.len] at this; exact this
      have hle : bn ≤ n2 := by have := HKE.out.le; rw [HR2.out.len, HR.out.len] at this; exact this
      have hge : n2 ≤ bn + 1 := by have := HKE.out.ge; rw [HR2.out.len, HR.out.len] at this; exact this
      clear hrv hx0 HAF HX c0 c1 c2 c3 c4 c5 c6 c7 c8 c9 ca
      dsimp only
      go_wp2_with fail
      refine (ccheck_any B2 n2 c2' next _ (HG.out.ext HX2.out) HR2.out.reads HR2.out.len (by omega) (fun r hr => (HCN.out.2 r hr).1)).mono ?_
      rw [HKE.out.ok]
      rintro e w3 ⟨rfl, hx0⟩
      have HX3 := Lib.hid (HX2.out.trans hx0)
      replace HR := Lib.hid (HR.out.ext hx0)
      replace HR2 := Lib.hid (HR2.out.ext hx0)
      clear hx0 HX2
      have k1 : decide (n2 < bn) = false := decide_eq_false (by omega)
      have k2 : decide ((bn : Int) + 1 < (n2 : Int)) = false := decide_eq_false (by omega)
      go_wp2_with fail
      go_loopw [47] (fun u wi => ∃ j : Nat, j ≤ bn ∧ u = .int .i64 j ∧ Ext w3 wi) (fun u wi => bn - (intOf u).toNat)
      case atStart => exact ⟨0, Nat.zero_le _, rfl, Ext.refl _⟩
      case round =>
        obtain ⟨j, hj, rfl, hxi⟩ := hrel
        by_cases hjl : j < bn
        · have hjL : j < L.length := by rw [HR.out.len]; exact hjl
          have e0 : L[j]? = some L[j] := List.getElem?_eq_getElem _
          obtain ⟨x, e1, g1, g2, g3, g4⟩ := HKE.out.at_ j _ e0
          have fr := ((check_fits HK.out).2 _ (List.mem_of_getElem? e0)).1
          obtain ⟨b9, o9, cr, rfl, hb9, _, _, hr9, hv9⟩ := (Rs.ext HR.out.reads hxi).get e0
          obtain ⟨b8, o8, cx, rfl, hb8, _, _, hr8, hv8⟩ := (Rs.ext HR2.out.reads hxi).get e1
          generalize L[j] = r at e0 g1 g2 g3 g4 fr hv9
          have HEN : Hid (∀ W, Ext wr W → Calls Tryz.prog 32 #[.agg cr.toArray] W (Ret (.bool (Vw.ended r)) W)) := Lib.hid fun W hW => rended_any cr r W (Rev.steadfast.ext hv9 hW)
          have HSR : Hid (Vw.ended r = true → ∀ W, Ext wr W → Calls Tryz.prog 33 #[.agg cx.toArray, .agg cr.toArray] W (Ret (.bool true) W)) := Lib.hid fun he W hW => by
            have := g4 he
            subst this
            exact samereview_true cx cr x W (Rev.steadfast.ext hv8 hW) (Rev.steadfast.ext hv9 hW) fr
          obtain ⟨P1, i1, j1, Q1, i2, j2, rfl, _, _, _, _⟩ := hv9
          obtain ⟨P3, i3, j3, Q3, i4, j4, rfl, _, _, _, _⟩ := hv8
          obtain ⟨d0, d1, d2, d3, d4, d5⟩ := cells6 hr9
          rw [g1, g2, g3] at hr8 HSR
          obtain ⟨f0, f1, f2, f3, f4, f5⟩ := cells6 hr8
          obtain ⟨en, hen⟩ : ∃ en, en = Vw.ended r := ⟨_, rfl⟩
          rw [← hen] at HEN HSR
          have HXI := Lib.hid (HX3.out.trans hxi)
          have HXJ := Lib.hid hxi
          clear hr9 hr8 e0 e1 g1 g2 g3 g4 fr hen hjL hxi hj
          go_wp2_with fail
          refine (HEN.out _ (((Ext.refl wr).alloc _).alloc _)).mono ?_
          rintro e w4 ⟨rfl, hx0⟩
          have hy0 := ((Ext.refl wr).alloc (.cells #[.int .i64 r.number, .string r.author, .string r.branch, .slice P1 i1 j1, .int .i64 r.state, .slice Q1 i2 j2] 28)).alloc (.cells #[.int .i64 r.number, .string r.author, .string r.branch, .slice P3 i3 j3, .int .i64 x.state, .slice Q3 i4 j4] 28)
          have HY := Lib.hid (hy0.trans hx0)
          have hb0 := Blk.ext hx0 (Blk.alloc (Blk.new' (w := wr) (g := wr.heap.size) (cs := #[.int .i64 r.number, .string r.author, .string r.branch, .slice P1 i1 j1, .int .i64 r.state, .slice Q1 i2 j2]) (t := 28) rfl) (.cells #[.int .i64 r.number, .string r.author, .string r.branch, .slice P3 i3 j3, .int .i64 x.state, .slice Q3 i4 j4] 28))
          have hb1 := Blk.ext hx0 (Blk.new' (w := wr.alloc (.cells #[.int .i64 r.number, .string r.author, .string r.branch, .slice P1 i1 j1, .int .i64 r.state, .slice Q1 i2 j2] 28)) (g := wr.heap.size + 1) (cs := #[.int .i64 r.number, .string r.author, .string r.branch, .slice P3 i3 j3, .int .i64 x.state, .slice Q3 i4 j4]) (t := 28) (by simp))
          obtain ⟨hc0, hf0, hl0⟩ := hb0.all
          obtain ⟨hc1, hf1, hl1⟩ := hb1.all
          clear hx0 hy0 hb0 hb1 HEN d0 d1 d2 d3 d4 d5 f0 f1 f2 f3 f4 f5
          cases en
          · clear HSR
            go_wp2_with fail
            go_roundw
            case rel => exact ⟨j + 1, hjl, rfl, HXJ.out.trans HY.out⟩
            case measure => simp [intOf]; omega
          · have HS2 := Lib.hid (HSR.out rfl w4 HY.out)
            clear HSR
            go_wp2_with fail
            refine HS2.out.mono ?_
            rintro e w5 ⟨rfl, hx0⟩
            have HY2 := Lib.hid (HY.out.trans hx0)
            clear hx0 HS2 hc0 hf0 hl0 hc1 hf1 hl1
            go_wp2_with fail
            go_roundw
            case rel => exact ⟨j + 1, hjl, rfl, HXJ.out.trans HY2.out⟩
            case measure => simp [intOf]; omega
        · obtain rfl : j = bn := by omega
          have HXI := Lib.hid (HX3.out.trans hxi)
          have HR3 := Lib.hid (HR2.out.ext hxi)
          have HKO := Lib.hid HKE.out.ok
          go_wp2_with fail
          refine ⟨⟨k + 1, B2, n2, c2', next, hlt, rfl, rfl, HR3, HKO, hn2, HXI.out⟩, ?_⟩
          simp [intOf]
          omega
    · obtain rfl : k = n := by omega
      have HX := Lib.hid hx
      clear hx HR HK
      go_wp2_with fail
      refine (awake55_any _ (HG.out.ext HX.out)).mono ?_
      rintro e w2 ⟨rfl, hx0⟩
      have HX2 := Lib.hid (HX.out.trans hx0)
      clear hx0
      go_wp2_with fail
      go_ret
      exact Ret.mk rfl HX2.out
end Go.Proofs.YtojfgidoobgcaaaGreatDoor
