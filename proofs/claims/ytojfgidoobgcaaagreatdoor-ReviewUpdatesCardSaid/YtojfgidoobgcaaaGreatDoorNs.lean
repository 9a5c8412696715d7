/- Walks: the people of one opinion, the reference. -/
import Derived.Test.YtojfgidoobgcaaaGreatDoorNq
set_option linter.unusedSimpArgs false
set_option linter.unusedVariables false
namespace Go.Proofs.YtojfgidoobgcaaaGreatDoor
open Go Go.RowKit

/-- Strings one behind the other in a block. -/
def Lies (w : World) (g : Nat) (l : List ByteArray) : Prop := g < w.heap.size ∧ ∀ (j : Nat) x, l[j]? = some x → w.cell? ⟨g, j, none⟩ = some (.string x)
theorem Lies.ext {w w' : World} {g : Nat} {l : List ByteArray} (h : Lies w g l) (hx : Ext w w') : Lies w' g l := ⟨Nat.lt_of_lt_of_le h.1 (Below.size hx), fun j x hj => by rw [hx.cell (p := ⟨g, j, none⟩) h.1]; exact h.2 j x hj⟩
theorem Lies.sl {w : World} {g o n c : Nat} {l m : List ByteArray} (h : Lies w g l) (hm : ∀ (j : Nat) x, m[j]? = some x → l[o + j]? = some x) (hn : m.length = n) : Sl w (some ⟨g, o, none⟩) n c m := by
  refine ⟨⟨hn, fun _ => ⟨g, o, rfl, h.1, fun j hj => ?_⟩⟩, fun h => nomatch h⟩
  have e : m[j]? = some (m[j]'(by omega)) := List.getElem?_eq_getElem _
  rw [h.2 (o + j) _ (hm j _ e)]
  simp [List.getD, e]
theorem Lies.of_own {w : World} {base : Nat} {v : Value} {l : List ByteArray} (h : w.ownsRow base 9 1 v l.length (l.map Value.string)) (hl : 0 < l.length) : ∃ g c, v = .slice (some ⟨g, 0, none⟩) l.length c ∧ l.length ≤ c ∧ Lies w g l := by
  obtain ⟨h1, ⟨rfl, h2⟩ | ⟨g, cap, cur, rfl, h3, h4, h5, h6, h7, h8⟩⟩ := h
  · omega
  · rw [Nat.mul_one] at h8
    have hB : Blk w g 9 cur := Blk.mk h4
    refine ⟨g, cap, rfl, h5, hB.lt, fun j x hj => ?_⟩
    have hjl := (List.getElem?_eq_some_iff.1 hj).1
    rw [hB.cell]
    have : cur[j]? = (l.map Value.string)[j]? := by rw [← h8, List.getElem?_take_of_lt hjl, Array.getElem?_toList]
    rw [this, List.getElem?_map, hj]
    rfl
theorem own_empty (W : World) : (W.alloc (.cells #[] 9)).ownsRow W.heap.size 9 1 (.slice (some ⟨W.heap.size, 0, none⟩) 0 0) 0 (([] : List ByteArray).map Value.string) :=
  ⟨rfl, .inr ⟨W.heap.size, 0, #[], rfl, Nat.le_refl _, heap_alloc_new _ _, Nat.le_refl _, Nat.zero_le _, rfl, rfl⟩⟩
theorem sl_ite {w : World} {p q : Addr} {c : Nat} {X : Prop} [Decidable X] : Sl w (if X then some p else some q) 0 c [] := ⟨⟨rfl, fun h0 => absurd h0 (Nat.lt_irrefl 0)⟩, fun h => by split at h <;> cases h⟩
/-- One vote of the fold. -/
def Vw.pStep (r : Rv) (op : Int) (l : List ByteArray) (v : Vt) : List ByteArray := if Vw.opin r v.who = op then Vw.ins v.who l else l
theorem people_fold (r : Rv) (op : Int) : Vw.people r op = r.votes.foldl (Vw.pStep r op) [] := by
  unfold Vw.people
  generalize ([] : List ByteArray) = a
  induction r.votes generalizing a with
  | nil => rfl
  | cons v l ih =>
    rw [List.foldl_cons, ← ih, List.map_cons]
    by_cases h : Vw.opin r v.who = op
    · rw [List.filter_cons_of_pos (by simpa using h), List.foldl_cons]
      congr 1
      unfold Vw.pStep
      rw [if_pos h]
    · rw [List.filter_cons_of_neg (by simpa using h)]
      congr 1
      unfold Vw.pStep
      rw [if_neg h]
/-- Where it is put. -/
theorem ins_at {x : ByteArray} : ∀ {l : List ByteArray} {k : Nat}, (∀ (j : Nat) y, j < k → l[j]? = some y → Tr.lt y x = true) → k ≤ l.length → (∀ y, l[k]? = some y → Tr.lt y x = false) →
    Vw.ins x l = if l[k]? = some x then l else l.take k ++ x :: l.drop k
  | [], k, _, hk, _ => by
    obtain rfl : k = 0 := by simpa using hk
    simp [Vw.ins]
  | y :: l, 0, _, _, h2 => by
    have h3 := h2 y rfl
    unfold Vw.ins
    rw [if_neg (by rw [h3]; decide)]
    by_cases e : y = x
    · subst e
      simp [Qm.eqB_iff.2 rfl]
    · rw [if_neg (fun h => e (Qm.eqB_iff.1 h))]
      simp [e]
  | y :: l, k + 1, h1, hk, h2 => by
    unfold Vw.ins
    rw [if_pos (h1 0 y (Nat.zero_lt_succ _) rfl), ins_at (fun j z hj hz => h1 (j + 1) z (Nat.succ_lt_succ hj) (by simpa using hz)) (by simpa using hk) (fun z hz => h2 z (by simpa using hz))]
    simp only [List.getElem?_cons_succ, List.take_succ_cons, List.drop_succ_cons, List.cons_append]
    split <;> rfl
theorem ins_len (x : ByteArray) : ∀ l : List ByteArray, (Vw.ins x l).length ≤ l.length + 1
  | [] => by simp [Vw.ins]
  | y :: l => by
    have := ins_len x l
    unfold Vw.ins
    split
    · simp; omega
    · split <;> simp
theorem pfold_snoc {r : Rv} {op : Int} {l : List Vt} {k : Nat} {v : Vt} {a : List ByteArray} (h : a = (l.take k).foldl (Vw.pStep r op) []) (e : l[k]? = some v) : Vw.pStep r op a v = (l.take (k + 1)).foldl (Vw.pStep r op) [] := by
  rw [List.take_add_one, e, List.foldl_append, ← h]
  rfl
set_option maxHeartbeats 8000000 in
set_option maxRecDepth 100000 in
/-- quiltref55.people. -/
theorem people_any (c : List Value) (r : Rv) (op : Int) (w : World) {F : Nat → Prop} (h : Rev w F c r) (hf : r.Fits) (hvs : r.votes.length ≤ 4000000) :
    Calls Tryz.prog 44 #[.agg c.toArray, .int .i64 op] w (fun e w' => ∃ A c, e = .returned (.slice A (Vw.people r op).length c) ∧ Sl w' A (Vw.people r op).length c (Vw.people r op) ∧ Ext w w') := by
  have HC : Hid (∀ W, Ext w W → ∀ who, Calls Tryz.prog 74 #[.agg c.toArray, .string who] W (Ret (.int .i64 (Vw.opin r who)) W)) := Lib.hid fun W hW who => opinion_any c r who W (Rev.steadfast.ext h hW) hf
  obtain ⟨A, n, m, B, p, q, rfl, z1, hp, hpq, hv⟩ := h
  clear z1 hpq
  have HVs := Lib.hid hv
  have HP := Lib.hid hp
  have hpb : p ≤ 4000000 := by rw [← hp]; exact hvs
  have HR : Hid (Vw.people r op = r.votes.foldl (Vw.pStep r op) []) := Lib.hid (people_fold r op)
  generalize Vw.people r op = R at HR ⊢
  clear hp hv hvs hf
  go_enter Tryz.func44, Tryz.ntmps44
  have hx := Ext.refl w
  go_wp2_with fail
  go_loopw [5, 6] (fun u i wr => ∃ (k g cp : Nat) (a : List ByteArray), k ≤ p ∧ i = .int .i64 k ∧ u = .slice (some ⟨g, 0, none⟩) a.length cp ∧ a.length ≤ cp ∧ a.length ≤ k ∧ Ext w wr ∧ Blk wr w.heap.size 28 #[.int .i64 r.number, .string r.author, .string r.branch, .slice A n m, .int .i64 r.state, .slice B p q] ∧ Hid (Lies wr g a) ∧ Hid (a = (r.votes.take k).foldl (Vw.pStep r op) [])) (fun u i wr => p - (intOf i).toNat)
  case atStart =>
    exact ⟨0, w.heap.size + 1, 0, [], Nat.zero_le _, rfl, rfl, Nat.le_refl _, Nat.le_refl _, (hx.alloc _).alloc _, (Blk.new' rfl).alloc _, Lib.hid ⟨by simp, fun j x h => by simp at h⟩, Lib.hid rfl⟩
  case round =>
    clear hx
    obtain ⟨k, g, cp, a, hk, rfl, rfl, hcp, hak, hx, hb0, HL, HO⟩ := hrel
    obtain ⟨hc0, hf0, hl0⟩ := hb0.all
    by_cases hlt : k < p
    · have hkl : k < r.votes.length := by rw [HP.out]; exact hlt
      have e0 : r.votes[k]? = some r.votes[k] := List.getElem?_eq_getElem _
      obtain ⟨b, ob, cs, rfl, hbl, _, _, hr, hvt⟩ := (Vs.ext HVs.out hx).get e0
      generalize r.votes[k] = v at e0 hvt
      obtain ⟨A', n', m', rfl, _, _, _⟩ := hvt
      obtain ⟨c0, c1, c2, c3⟩ := cells4 hr
      have E0 := Lib.hid e0
      have HST := Lib.hid (pfold_snoc HO.out E0.out)
      obtain ⟨o1, ho⟩ : ∃ o1, o1 = Vw.opin r v.who := ⟨_, rfl⟩
      have HOP := Lib.hid ho
      have HCV : Hid (∀ W, Ext w W → Calls Tryz.prog 74 #[.agg #[.int .i64 r.number, .string r.author, .string r.branch, .slice A n m, .int .i64 r.state, .slice (some ⟨b, ob, none⟩) p q], .string v.who] W (Ret (.int .i64 o1) W)) := Lib.hid fun W hW => by rw [ho]; exact HC.out W hW v.who
      clear hr e0 hkl ho
      go_wp2_with fail
      refine (HCV.out _ hx).mono ?_
      rintro e w1 ⟨rfl, hx0⟩
      have hx1 := hx.trans hx0
      have hb1 := Blk.ext hx0 hb0
      have HL1 := Lib.hid (HL.out.ext hx0)
      clear hx hb0 hc0 hf0 hl0 c0 c1 c2 c3 HL
      by_cases hop : o1 = op
      rotate_left
      · have hq : (o1 == op) = false := by simpa using hop
        have HO2 : Hid (a = (r.votes.take (k + 1)).foldl (Vw.pStep r op) []) := Lib.hid (by rw [← HST.out]; unfold Vw.pStep; rw [if_neg (by rw [← HOP.out]; exact hop)])
        clear HO HST HOP hx0 HCV
        go_wp2_with fail
        go_roundw
        case rel => exact ⟨k + 1, g, cp, a, hlt, rfl, rfl, hcp, by omega, hx1, hb1, HL1, HO2⟩
        case measure => simp [intOf]; omega
      have hq : (o1 == op) = true := by simpa using hop
      have HO2 : Hid (Vw.ins v.who a = (r.votes.take (k + 1)).foldl (Vw.pStep r op) []) := Lib.hid (by rw [← HST.out]; unfold Vw.pStep; rw [if_pos (by rw [← HOP.out]; exact hop)])
      clear HO HST HOP hx0 HCV
      obtain ⟨hc1, hf1, hl1⟩ := hb1.all
      go_wp2_with fail
      go_loopw [8] (fun u8 wi => ∃ j : Nat, j ≤ a.length ∧ u8 = .int .i64 j ∧ wi = w1 ∧ Hid (∀ (i : Nat) y, i < j → a[i]? = some y → Tr.lt y v.who = true)) (fun u8 wi => a.length - (intOf u8).toNat)
      case atStart => exact ⟨0, Nat.zero_le _, rfl, rfl, Lib.hid fun i y h => absurd h (Nat.not_lt_zero _)⟩
      case round =>
        obtain ⟨j, hj, rfl, hww, HLT⟩ := hrel
        obtain rfl := hww.symm
        by_cases hjl : j < a.length
        · have e1 : a[j]? = some (a[j]'hjl) := List.getElem?_eq_getElem _
          generalize a[j]'hjl = y at e1
          have hcy := HL1.out.2 j y e1
          have E1 := Lib.hid e1
          clear e1
          cases hlt1 : Tr.lt y v.who
          · have hq1 : Op.bytesLess y.toList v.who.toList = false := hlt1
            have HGE : Hid (∀ z, a[j]? = some z → Tr.lt z v.who = false) := Lib.hid fun z hz => by
              rw [E1.out] at hz
              obtain rfl := Option.some.inj hz
              exact hlt1
            by_cases hyw : y = v.who
            · have HO3 : Hid (a = (r.votes.take (k + 1)).foldl (Vw.pStep r op) []) := Lib.hid (by rw [← HO2.out, ins_at HLT.out hj HGE.out, if_pos (by rw [E1.out, hyw])])
              clear HO2 HLT HGE E1
              subst hyw
              go_wp2_with fail
              go_roundw
              case rel => exact ⟨k + 1, g, cp, a, hlt, rfl, rfl, hcp, by omega, hx1, hb1, HL1, HO3⟩
              case measure => simp [intOf]; omega
            · have hq2 : (y.toList == v.who.toList) = false := by
                cases h : (y.toList == v.who.toList)
                · rfl
                · exact absurd (Qm.eqB_iff.1 h) hyw
              have HNE : Hid (¬ a[j]? = some v.who) := Lib.hid fun e => hyw (by rw [E1.out] at e; exact Option.some.inj e)
              have hjl : j ≤ a.length := hj
              have HSL1 : Hid (Sl (w1.alloc (.cells #[] 9)) (some ⟨g, 0, none⟩) j cp (a.take j)) := Lib.hid ((HL1.out.ext ((Ext.refl w1).alloc _)).sl (fun i x h => by
                rw [Nat.zero_add]
                rw [List.getElem?_take] at h
                split at h
                · exact h
                · cases h) (by rw [List.length_take]; omega))
              have HIN : Hid (a.take j ++ v.who :: a.drop j = (r.votes.take (k + 1)).foldl (Vw.pStep r op) []) := Lib.hid (by rw [← HO2.out, ins_at HLT.out hjl HGE.out, if_neg HNE.out])
              clear HO2 HLT HGE HNE
              have HDR : Hid (∀ (i : Nat) x, (a.drop j)[i]? = some x → a[j + i]? = some x) := Lib.hid fun i x h => by rwa [List.getElem?_drop] at h
              have HDL : Hid ((a.drop j).length = a.length - j) := Lib.hid (by rw [List.length_drop])
              go_wp2_with (first
                | (at_builtin; refine wpList_append_sl rfl _ _ rfl w1.heap.size _ 0 [] rfl (own_empty w1) (by simp) (some ⟨g, 0, none⟩) j cp (a.take j) HSL1.out rfl (by omega) (by omega) ?_; intro v1 w2 hown1 hg1)
                | (at_builtin; refine wpList_append_sl rfl _ _ rfl w1.heap.size v1 (0 + j) ([] ++ a.take j) rfl (hown1.alloc _) (by have := hg1.size; simp at this ⊢; omega) (some ⟨w2.heap.size, 0, none⟩) 1 1 [v.who] (sl_one w2 _) rfl (by omega) (by omega) ?_; intro v2 w3 hown2 hg2)
                | (at_builtin; refine wpList_append_sl rfl _ _ rfl w1.heap.size v2 (0 + j + 1) ([] ++ a.take j ++ [v.who]) rfl hown2 (by have := hg1.size; have := hg2.size; simp at *; omega) (some ⟨g, j, none⟩) (a.length - j) (cp - j) (a.drop j) (HL1.out.ext (grownBy_ext hg2 w1 ((grownBy_ext hg1 w1 ((Ext.refl w1).alloc _) (fun i hi => ((own_empty w1).lt i hi).1)).alloc _) (fun i hi => (hown1.lt i hi).1)) |>.sl HDR.out HDL.out) rfl (by omega) (by omega) ?_; intro v3 w4 hown3 hg3))
              have hE1 : Ext w1 w2 := grownBy_ext hg1 w1 ((Ext.refl w1).alloc _) (fun i hi => ((own_empty w1).lt i hi).1)
              have hE2 : Ext w1 w3 := grownBy_ext hg2 w1 (hE1.alloc _) (fun i hi => (hown1.lt i hi).1)
              have hE3 : Ext w1 w4 := grownBy_ext hg3 w1 hE2 (fun i hi => (hown2.lt i hi).1)
              have ho3 : w4.ownsRow w1.heap.size 9 1 v3 (a.take j ++ v.who :: a.drop j).length ((a.take j ++ v.who :: a.drop j).map Value.string) := by
                have e1 : [] ++ a.take j ++ [v.who] ++ a.drop j = a.take j ++ v.who :: a.drop j := by simp
                have e2 : (a.take j ++ v.who :: a.drop j).length = 0 + j + 1 + (a.length - j) := by simp; omega
                rw [e2, ← e1]
                exact hown3
              obtain ⟨g3, c3', rfl, hle, hlies⟩ := Lies.of_own ho3 (by simp; omega)
              refine ⟨⟨k + 1, g3, c3', _, hlt, rfl, rfl, hle, by simp; omega, hx1.trans hE3, Blk.ext hE3 hb1, Lib.hid hlies, HIN⟩, ?_⟩
              simp [intOf]
              omega
          · have hq1 : Op.bytesLess y.toList v.who.toList = true := hlt1
            have HLT2 : Hid (∀ (i : Nat) z, i < j + 1 → a[i]? = some z → Tr.lt z v.who = true) := Lib.hid fun i z hi hz => by
              rcases Nat.lt_or_ge i j with h | h
              · exact HLT.out i z h hz
              · obtain rfl : i = j := by omega
                rw [E1.out] at hz
                obtain rfl := Option.some.inj hz
                exact hlt1
            clear HLT
            go_wp2_with fail
            go_roundw
            case rel => exact ⟨j + 1, hjl, rfl, trivial, HLT2⟩
            case measure => simp [intOf]; omega
        · obtain rfl : j = a.length := by omega
          have HGE : Hid (∀ z, a[a.length]? = some z → Tr.lt z v.who = false) := Lib.hid fun z hz => by simp at hz
          have HNE : Hid (¬ a[a.length]? = some v.who) := Lib.hid (by simp)
          have hjl : a.length ≤ a.length := hj
          have HSL1 : Hid (Sl (w1.alloc (.cells #[] 9)) (some ⟨g, 0, none⟩) a.length cp (a.take a.length)) := Lib.hid ((HL1.out.ext ((Ext.refl w1).alloc _)).sl (fun i x h => by
            rw [Nat.zero_add]
            rw [List.getElem?_take] at h
            split at h
            · exact h
            · cases h) (by rw [List.length_take]; omega))
          have HIN : Hid (a.take a.length ++ v.who :: a.drop a.length = (r.votes.take (k + 1)).foldl (Vw.pStep r op) []) := Lib.hid (by rw [← HO2.out, ins_at HLT.out hjl HGE.out, if_neg HNE.out])
          clear HO2 HLT HGE HNE
          have HDR : Hid (∀ (i : Nat) x, (a.drop a.length)[i]? = some x → a[a.length + i]? = some x) := Lib.hid fun i x h => by rwa [List.getElem?_drop] at h
          have HDL : Hid ((a.drop a.length).length = 0) := Lib.hid (by rw [List.length_drop]; omega)
          go_wp2_with (first
            | (at_builtin; refine wpList_append_sl rfl _ _ rfl w1.heap.size _ 0 [] rfl (own_empty w1) (by simp) (some ⟨g, 0, none⟩) a.length cp (a.take a.length) HSL1.out rfl (by omega) (by omega) ?_; intro v1 w2 hown1 hg1)
            | (at_builtin; refine wpList_append_sl rfl _ _ rfl w1.heap.size v1 (0 + a.length) ([] ++ a.take a.length) rfl (hown1.alloc _) (by have := hg1.size; simp at this ⊢; omega) (some ⟨w2.heap.size, 0, none⟩) 1 1 [v.who] (sl_one w2 _) rfl (by omega) (by omega) ?_; intro v2 w3 hown2 hg2)
            | (at_builtin; refine wpList_append_sl rfl _ _ rfl w1.heap.size v2 (0 + a.length + 1) ([] ++ a.take a.length ++ [v.who]) rfl hown2 (by have := hg1.size; have := hg2.size; simp at *; omega) (if cp = a.length then some ⟨g, 0, none⟩ else some ⟨g, a.length, none⟩) 0 (cp - a.length) [] sl_ite rfl (by omega) (by omega) ?_; intro v3 w4 hown3 hg3))
          have hE1 : Ext w1 w2 := grownBy_ext hg1 w1 ((Ext.refl w1).alloc _) (fun i hi => ((own_empty w1).lt i hi).1)
          have hE2 : Ext w1 w3 := grownBy_ext hg2 w1 (hE1.alloc _) (fun i hi => (hown1.lt i hi).1)
          have hE3 : Ext w1 w4 := grownBy_ext hg3 w1 hE2 (fun i hi => (hown2.lt i hi).1)
          have ho3 : w4.ownsRow w1.heap.size 9 1 v3 (a.take a.length ++ v.who :: a.drop a.length).length ((a.take a.length ++ v.who :: a.drop a.length).map Value.string) := by
            have e1 : [] ++ a.take a.length ++ [v.who] ++ [] = a.take a.length ++ v.who :: a.drop a.length := by simp
            have e2 : (a.take a.length ++ v.who :: a.drop a.length).length = 0 + a.length + 1 + 0 := by simp
            rw [e2, ← e1]
            exact hown3
          obtain ⟨g3, c3', rfl, hle, hlies⟩ := Lies.of_own ho3 (by simp)
          refine ⟨⟨k + 1, g3, c3', _, hlt, rfl, rfl, hle, by simp; omega, hx1.trans hE3, Blk.ext hE3 hb1, Lib.hid hlies, HIN⟩, ?_⟩
          simp [intOf]
          omega
    · obtain rfl : k = p := by omega
      have hv : R = a := by rw [HR.out, HO.out, ← HP.out, List.take_length]
      subst hv
      have HX := Lib.hid hx
      have HS := Lib.hid (HL.out.sl (o := 0) (n := R.length) (c := cp) (m := R) (fun j x h => by rw [Nat.zero_add]; exact h) rfl)
      clear HR
      go_wp2_with fail
      go_ret
      exact ⟨_, _, rfl, HS.out, HX.out⟩
end Go.Proofs.YtojfgidoobgcaaaGreatDoor
