/- Walks: the opinions as a map. -/
import Derived.Test.YtojfgidoobgcaaaGreatDoorNk
import Derived.Maps.Own
import Derived.Maps.OwnSet
set_option linter.unusedSimpArgs false
set_option linter.unusedVariables false
namespace Go.Proofs.YtojfgidoobgcaaaGreatDoor
open Go Go.RowKit Go.Maps Go.WideMaps

theorem slaw : Keyed Tryz.prog 9 := string_keyed Tryz.underlying9
/-- The key of a person. -/
abbrev pkey (s : ByteArray) : Lit := .string s.data.toList
abbrev Dat := DataW Unit
/-- One vote into the map. -/
def Vw.mapStep (r : Rv) (D : Dat) (v : Vt) : Dat := if Vw.counts r v = true then D.put (pkey v.who) (.lit (.int .i64 v.kind)) else D
def Vw.mapOf (r : Rv) : Dat := r.votes.foldl (Vw.mapStep r) (.map [])
abbrev Owns (w : World) (b n : Nat) (D : Dat) : Prop := w.ownsMap Tryz.prog 9 (plainElem Tryz.prog 3) b n D
theorem Owns.ext {w w' : World} {b n : Nat} {D : Dat} (h : Owns w b n D) (hx : Ext w w') : Owns w' b n D := by
  have hl := h.lt
  obtain ⟨es, clock, hb, F, hs, hD⟩ := h
  exact ⟨es, clock, (Below.block hx b hl).trans hb, F, hs, hD⟩
theorem mfold_snoc {r : Rv} {l : List Vt} {k : Nat} {v : Vt} {D : Dat} (h : D = (l.take k).foldl (Vw.mapStep r) (.map [])) (e : l[k]? = some v) : Vw.mapStep r D v = (l.take (k + 1)).foldl (Vw.mapStep r) (.map []) := by
  rw [List.take_add_one, e, List.foldl_append, ← h]
  rfl
theorem pkey_of {s : ByteArray} (h : s.size ≤ 1000000000) : keyOf Tryz.prog 9 (.string s) = some (pkey s) := keyOf_string_mk Tryz.underlying9 (Nat.le_trans h (by unfold maxLen; decide))
set_option maxHeartbeats 8000000 in
set_option maxRecDepth 100000 in
/-- review.opinions. -/
theorem opinions_any (c : List Value) (r : Rv) (w : World) {F : Nat → Prop} (h : Rev w F c r) (hf : r.Fits) :
    Calls Tryz.prog 42 #[.agg c.toArray] w (fun e w' => e = .returned (.map (some (w.heap.size + 1))) ∧ Owns w' (w.heap.size + 1) r.votes.length (Vw.mapOf r) ∧ Ext w w') := by
  obtain ⟨A, n, m, B, p, q, rfl, ⟨hn, hm, hd⟩, hp, hpq, hv⟩ := h
  have HVs := Lib.hid hv
  have HD := Lib.hid hd
  have hpb : p ≤ 1000000000 := by rw [← hp]; exact hf.votes
  have hnb : n ≤ 1000000000 := by rw [← hn]; exact hf.ids
  have HP := Lib.hid hp
  have HN := Lib.hid hn
  have HF := Lib.hid hf.each
  obtain ⟨R, hR⟩ : ∃ R, R = Vw.mapOf r := ⟨_, rfl⟩
  have HR : Hid (R = r.votes.foldl (Vw.mapStep r) (.map [])) := Lib.hid hR
  rw [← hR, hp]
  clear hR
  have HS : Hid (∀ v, Vw.counts r v = (!Qm.eqB v.who r.author && ((v.kind == 1 || v.kind == 2) && decide (v.ids = r.ids)))) := Lib.hid fun v => rfl
  have hmm := @run_makeMap Tryz.prog
  clear hd hn hm hf hv hp hpq
  go_enter Tryz.func42, Tryz.ntmps42
  have hx := Ext.refl w
  go_wp2_with fail
  go_loopw [10] (fun i wr => ∃ (k : Nat) (D : Dat), k ≤ p ∧ i = .int .i64 k ∧ Ext w wr ∧ Blk wr w.heap.size 28 #[.int .i64 r.number, .string r.author, .string r.branch, .slice A n m, .int .i64 r.state, .slice B p q] ∧ Hid (Owns wr (w.heap.size + 1) k D) ∧ Hid (D = (r.votes.take k).foldl (Vw.mapStep r) (.map []))) (fun i wr => p - (intOf i).toNat)
  case atStart =>
    refine ⟨0, .map [], Nat.zero_le _, rfl, (hx.alloc _).alloc _, (Blk.new' rfl).alloc _, Lib.hid ?_, Lib.hid rfl⟩
    have := World.ownsMap_made (H := Unit) (w.alloc (.cells #[.int .i64 r.number, .string r.author, .string r.branch, .slice A n m, .int .i64 r.state, .slice B p q] 28)) Tryz.prog 9 (plainElem Tryz.prog 3)
    have e1 : (w.alloc (.cells #[.int .i64 r.number, .string r.author, .string r.branch, .slice A n m, .int .i64 r.state, .slice B p q] 28)).heap.size = w.heap.size + 1 := by simp
    rw [e1] at this
    exact this
  case round =>
    clear hx
    obtain ⟨k, D, hk, rfl, hx, hb0, HW, HO⟩ := hrel
    obtain ⟨hc0, hf0, hl0⟩ := hb0.all
    by_cases hlt : k < p
    · have hkl : k < r.votes.length := by rw [HP.out]; exact hlt
      have e0 : r.votes[k]? = some r.votes[k] := List.getElem?_eq_getElem _
      have fv := HF.out _ (List.mem_of_getElem? e0)
      obtain ⟨b, ob, cs, rfl, hbl, _, _, hr, hvt⟩ := (Vs.ext HVs.out hx).get e0
      generalize r.votes[k] = v at e0 fv hvt
      obtain ⟨A', n', m', rfl, hn', _, hd'⟩ := hvt
      obtain ⟨c0, c1, c2, c3⟩ := cells4 hr
      have E0 := Lib.hid e0
      have HST := Lib.hid (mfold_snoc HO.out E0.out)
      have f3 : n' ≤ 1000000000 := by rw [← hn']; exact fv.ids
      obtain ⟨s, hs⟩ : ∃ s, s = decide (v.ids = r.ids) := ⟨_, rfl⟩
      have HC : Hid (∀ W, Ext wr W → Calls Tryz.prog 65 #[.slice A' n' m', .slice A n m] W (Ret (.bool s) W)) := Lib.hid fun W hW => by rw [hs]; exact dequal_any A' A n' m' n m v.ids r.ids W (hd'.ext hW) (HD.out.ext (hx.trans hW)) hn' HN.out f3 hnb
      have HSV : Hid (Vw.counts r v = (!Qm.eqB v.who r.author && ((v.kind == 1 || v.kind == 2) && s))) := Lib.hid (by rw [hs]; exact HS.out v)
      have hb2 := hb0.alloc (.cells #[.string v.who, .int .i64 v.kind, .string v.text, .slice A' n' m'] 39)
      have hx2 := hx.alloc (.cells #[.string v.who, .int .i64 v.kind, .string v.text, .slice A' n' m'] 39)
      have HB2 := Lib.hid hb2
      have HX2 := Lib.hid hx2
      have HXA : Hid (Ext wr (wr.alloc (.cells #[.string v.who, .int .i64 v.kind, .string v.text, .slice A' n' m'] 39))) := Lib.hid ((Ext.refl wr).alloc _)
      have HOP : Hid (∀ x, Vw.counts r v = x → Vw.mapStep r D v = if x = true then D.put (pkey v.who) (.lit (.int .i64 v.kind)) else D) := Lib.hid fun x hx => by unfold Vw.mapStep; rw [hx]
      have hkey := pkey_of fv.who
      have HW2 : Hid (Owns (wr.alloc (.cells #[.string v.who, .int .i64 v.kind, .string v.text, .slice A' n' m'] 39)) (w.heap.size + 1) k D) := Lib.hid (HW.out.ext ((Ext.refl wr).alloc _))
      have HKEY := Lib.hid hkey
      clear hr e0 fv hkl hn' hd' hs hb2 hx2 hkey
      generalize v.kind = kd at c1 HSV HOP HB2 HX2 HXA HW2
      cases k2 : Qm.eqB v.who r.author
      rotate_left
      · have j2 : (v.who.toList == r.author.toList) = true := k2
        have HO2 : Hid (D = (r.votes.take (k + 1)).foldl (Vw.mapStep r) (.map [])) := Lib.hid (by rw [← HST.out, HOP.out false (by rw [HSV.out]; simp only [k2, Bool.false_and, Bool.and_false, Bool.not_true, Bool.true_and, Bool.or_self, Bool.false_or])]; rfl)
        clear HO HST HSV HOP
        go_wp2_with fail
        go_roundw
        case rel => exact ⟨k + 1, D, hlt, rfl, HX2.out, HB2.out, Lib.hid (HW2.out.mono (Nat.le_succ _)), HO2⟩
        case measure => simp [intOf]; omega
      have j2 : (v.who.toList == r.author.toList) = false := k2
      cases k3 : (kd == 1)
      rotate_left
      · obtain rfl : kd = 1 := by simpa using k3
        go_wp2_with fail
        refine (HC.out _ HXA.out).mono ?_
        rintro e w1 ⟨rfl, hx0⟩
        have hx1 := HX2.out.trans hx0
        have hb1 := Blk.ext hx0 HB2.out
        have HW3 := Lib.hid (HW2.out.ext hx0)
        clear hx hb0 hc0 hf0 hl0
        cases s
        · have HO2 : Hid (D = (r.votes.take (k + 1)).foldl (Vw.mapStep r) (.map [])) := Lib.hid (by rw [← HST.out, HOP.out false (by rw [HSV.out]; simp only [Bool.and_false])]; rfl)
          clear HO HST HSV HOP hx0 c0 c1 c2 c3
          go_wp2_with fail
          go_roundw
          case rel => exact ⟨k + 1, D, hlt, rfl, hx1, hb1, Lib.hid (HW3.out.mono (Nat.le_succ _)), HO2⟩
          case measure => simp [intOf]; omega
        · have HO2 : Hid (D.put (pkey v.who) (.lit (.int .i64 1)) = (r.votes.take (k + 1)).foldl (Vw.mapStep r) (.map [])) := Lib.hid (by rw [← HST.out, HOP.out true (by rw [HSV.out]; simp only [k2, beq_self_eq_true, Bool.true_and, Bool.not_false, Bool.and_true, Bool.true_or, Bool.or_true])]; rfl)
          have hbv := Blk.ext hx0 (Blk.new' (w := wr) (g := wr.heap.size) (cs := #[.string v.who, .int .i64 1, .string v.text, .slice A' n' m']) (t := 39) rfl)
          obtain ⟨hcv, hfv, hlv⟩ := hbv.all
          clear HO HST HSV HOP hx0 c0 c1 c2 c3
          have HX1 := Lib.hid hx1
          have HB1 := Lib.hid hb1
          go_wp2_with (at_mapUpdate; refine wpList_mapUpdate_own _ rfl _ _ _ 73 rfl 9 3 slaw Tryz.underlying73 _ (w.heap.size + 1) k _ rfl HW3.out (by unfold maxLen; omega) _ _ _ rfl rfl HKEY.out _ [] (plainElem_int Tryz.underlying3 (by decide)) ?_; intro w2 hown2 hgrow2)
          have HX4 : Hid (Ext w w2) := Lib.hid (Below.grown HX1.out hgrow2 (Below.size HX1.out) (fun j hj => by cases hj; exact Nat.le_succ _))
          have HB4 : Hid (Blk w2 w.heap.size 28 #[.int .i64 r.number, .string r.author, .string r.branch, .slice A n m, .int .i64 r.state, .slice (some ⟨b, ob, none⟩) p q]) := Lib.hid (Blk.mk ((hgrow2.block w.heap.size HB1.out.lt (by simp)).trans HB1.out.eq))
          go_wp2_with fail
          go_roundw
          case rel => exact ⟨k + 1, _, hlt, rfl, HX4.out, HB4.out, Lib.hid hown2, HO2⟩
          case measure => simp [intOf]; omega
      cases k4 : (kd == 2)
      · have HO2 : Hid (D = (r.votes.take (k + 1)).foldl (Vw.mapStep r) (.map [])) := Lib.hid (by rw [← HST.out, HOP.out false (by rw [HSV.out]; simp only [k2, k3, k4, Bool.false_and, Bool.and_false, Bool.not_true, Bool.true_and, Bool.or_self, Bool.false_or])]; rfl)
        clear HO HST HSV HOP
        go_wp2_with fail
        go_roundw
        case rel => exact ⟨k + 1, D, hlt, rfl, HX2.out, HB2.out, Lib.hid (HW2.out.mono (Nat.le_succ _)), HO2⟩
        case measure => simp [intOf]; omega
      · obtain rfl : kd = 2 := by simpa using k4
        go_wp2_with fail
        refine (HC.out _ HXA.out).mono ?_
        rintro e w1 ⟨rfl, hx0⟩
        have hx1 := HX2.out.trans hx0
        have hb1 := Blk.ext hx0 HB2.out
        have HW3 := Lib.hid (HW2.out.ext hx0)
        clear hx hb0 hc0 hf0 hl0
        cases s
        · have HO2 : Hid (D = (r.votes.take (k + 1)).foldl (Vw.mapStep r) (.map [])) := Lib.hid (by rw [← HST.out, HOP.out false (by rw [HSV.out]; simp only [Bool.and_false])]; rfl)
          clear HO HST HSV HOP hx0 c0 c1 c2 c3
          go_wp2_with fail
          go_roundw
          case rel => exact ⟨k + 1, D, hlt, rfl, hx1, hb1, Lib.hid (HW3.out.mono (Nat.le_succ _)), HO2⟩
          case measure => simp [intOf]; omega
        · have HO2 : Hid (D.put (pkey v.who) (.lit (.int .i64 2)) = (r.votes.take (k + 1)).foldl (Vw.mapStep r) (.map [])) := Lib.hid (by rw [← HST.out, HOP.out true (by rw [HSV.out]; simp only [k2, beq_self_eq_true, Bool.true_and, Bool.not_false, Bool.and_true, Bool.true_or, Bool.or_true])]; rfl)
          have hbv := Blk.ext hx0 (Blk.new' (w := wr) (g := wr.heap.size) (cs := #[.string v.who, .int .i64 2, .string v.text, .slice A' n' m']) (t := 39) rfl)
          obtain ⟨hcv, hfv, hlv⟩ := hbv.all
          clear HO HST HSV HOP hx0 c0 c1 c2 c3
          have HX1 := Lib.hid hx1
          have HB1 := Lib.hid hb1
          go_wp2_with (at_mapUpdate; refine wpList_mapUpdate_own _ rfl _ _ _ 73 rfl 9 3 slaw Tryz.underlying73 _ (w.heap.size + 1) k _ rfl HW3.out (by unfold maxLen; omega) _ _ _ rfl rfl HKEY.out _ [] (plainElem_int Tryz.underlying3 (by decide)) ?_; intro w2 hown2 hgrow2)
          have HX4 : Hid (Ext w w2) := Lib.hid (Below.grown HX1.out hgrow2 (Below.size HX1.out) (fun j hj => by cases hj; exact Nat.le_succ _))
          have HB4 : Hid (Blk w2 w.heap.size 28 #[.int .i64 r.number, .string r.author, .string r.branch, .slice A n m, .int .i64 r.state, .slice (some ⟨b, ob, none⟩) p q]) := Lib.hid (Blk.mk ((hgrow2.block w.heap.size HB1.out.lt (by simp)).trans HB1.out.eq))
          go_wp2_with fail
          go_roundw
          case rel => exact ⟨k + 1, _, hlt, rfl, HX4.out, HB4.out, Lib.hid hown2, HO2⟩
          case measure => simp [intOf]; omega
    · obtain rfl : k = p := by omega
      have hv : R = D := by
        rw [HR.out, HO.out, ← HP.out, List.take_length]
      clear HR
      subst hv
      have HX := Lib.hid hx
      go_wp2_with fail
      go_ret
      exact ⟨rfl, HW.out, HX.out⟩
end Go.Proofs.YtojfgidoobgcaaaGreatDoor
