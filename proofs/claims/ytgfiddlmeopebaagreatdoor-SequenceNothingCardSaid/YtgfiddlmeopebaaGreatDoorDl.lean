/- Walks: slices.Delete of two patches that stand beside each other, in a list that owns its block. -/
import Derived.Test.YtgfiddlmeopebaaGreatDoorCl
import Derived.Deep.RegionLaw
set_option linter.unusedSimpArgs false
set_option linter.unusedVariables false
namespace Go.Proofs.YtgfiddlmeopebaaGreatDoor
open Go Go.RowKit
attribute [local go_sem ↓] Go.wp_at_zero Go.wp_at_succ

theorem flat_split (ps : List Pv) (k : Nat) : flat ps = flat (ps.take k) ++ flat (ps.drop k) := by
  rw [← flat_append, List.take_append_drop]
theorem flat_take_length {ps : List Pv} {k : Nat} (h : k ≤ ps.length) : (flat (ps.take k)).length = k * 12 := by
  rw [flat_length, List.length_take, Nat.min_eq_left h]
theorem flat_mem {ps : List Pv} : ∀ u ∈ flat ps, u.oneCell' = true := fun u hu => by
  obtain ⟨j, hj, e⟩ := List.mem_iff_getElem.1 hu
  obtain ⟨i, p, k, h1, h2, h3, h4⟩ := flat_one (ps := ps) (j := j) (v := u) (by rw [List.getElem?_eq_getElem hj, e])
  exact parr_one h2 h3
/-- A list at the beginning of a block. -/
theorem Qs.of_blk {w : World} {g : Nat} {t : TypeId} {ps : List Pv} {rest : List Value} {l : List Qp} {F : Nat → Prop} (hb : Blk w g t (flat ps ++ rest).toArray) (hl : ps.length = l.length) (hi : ∀ (i : Nat) (p : Pv) (q : Qp), ps[i]? = some p → l[i]? = some q → Is w F p q) : Qs w F (some ⟨g, 0, none⟩) l := by
  refine ⟨ps, hl, fun h0 => ⟨g, 0, rfl, hb.lt, fun i p hp j v hv => ?_⟩, hi⟩
  have hj : j < 12 := (List.getElem?_eq_some_iff.1 hv).1
  have hlt : i * 12 + j < (flat ps).length := by
    rw [flat_length]
    have := (List.getElem?_eq_some_iff.1 hp).1
    omega
  rw [hb.cell, Nat.zero_add, List.getElem?_toArray, List.getElem?_append_left hlt, flat_get hp hj, hv]
/-- clear of two patches' cells. -/
theorem run_clear_two (w : World) (ty : TypeId) (g o c : Nat) (hc : ∀ j, j < 24 → (w.cell? ⟨g, o + j, none⟩).isSome = true) (hf : ∀ j, j < 24 → w.frozen? ⟨g, o + j, none⟩ = false) :
    (Builtin.clear_ #[22] ty #[.slice (some ⟨g, o, none⟩) 2 c]).run Tryz.prog w = .ok (.tuple #[]) (w.setCells g o (Builtin.zeroCells zcells 2).toList) := by
  have hu : Tryz.prog.underlying 22 = some (.slice 38) := Tryz.underlying22
  have hz : ∀ w, (zeroValue 38).run Tryz.prog w = .ok (.agg zcells) w := fun w => by kernel_rfl
  have hl : (Builtin.zeroCells zcells 2).toList.length = 24 := by kernel_rfl
  have h1 : (Builtin.zeroCells zcells 2).toList.all (fun v => v.oneCell') = true := by kernel_rfl
  have hst := run_storeCells_cells (P := Tryz.prog) g o (Builtin.zeroCells zcells 2).toList 0 w (by rw [hl]; simpa using hc) (by rw [hl]; simpa using hf) (fun v hv => List.all_eq_true.1 h1 v hv)
  simp only [Nat.add_zero] at hst
  have e : ((Value.agg zcells).cells) = zcells := by kernel_rfl
  simp [Builtin.clear_, run_underlying hu, hz, e, hst]

set_option maxHeartbeats 4000000 in
set_option maxRecDepth 100000 in
theorem pdelete_at (g n i j : Nat) (l : List Qp) (w : World) (h : OwnL w g l) (hn : l.length = n) (hj : i + 2 = j) (hi : j ≤ n) (hb : n ≤ 1000000000000) :
    Calls Tryz.prog 59 #[.slice (some ⟨g, 0, none⟩) n n, .int .i64 i, .int .i64 j] w (fun e w' => e = .returned (.slice (some ⟨g, 0, none⟩) (n - 2 : Nat) n) ∧ Hid (Qs w' (fun b => b ≠ g) (some ⟨g, 0, none⟩) (l.take i ++ l.drop j)) ∧ Hid (Kept g w w')) := by
  obtain ⟨ps, h1, h2, h3⟩ := h
  have HJ := Lib.hid hj
  obtain ⟨i0, hi0, hz0, hz1, hz2⟩ := info_parts (show (Tryz.prog.info? 38).map (fun i => (i.zero, i.size, i.bytes)) = some (some (.agg zcells), 12, 160) by kernel_rfl)
  have hpl : ps.length = n := h1.trans hn
  obtain ⟨news, hnews⟩ : ∃ news, news = flat (ps.drop j) := ⟨_, rfl⟩
  have hlen : news.length = (n - j) * 12 := by rw [hnews, flat_length, List.length_drop, hpl]
  have hcell : ∀ k, w.cell? ⟨g, k, none⟩ = (flat ps)[k]? := fun k => by rw [h2.cell, List.getElem?_toArray]
  have hfl : (flat ps).length = n * 12 := by rw [flat_length, hpl]
  obtain ⟨A, hA, hsrc⟩ : ∃ A : Addr, (if n = j then (some ⟨g, 0, none⟩ : Option Addr) else some ⟨g, j * 12, none⟩) = some A ∧ Hid (∀ t u, news[t]? = some u → w.drew.cell? (A.add t) = some u) := by
    by_cases h : n = j
    · refine ⟨⟨g, 0, none⟩, by simp [h], Lib.hid fun t u hu => ?_⟩
      have h0 : news.length = 0 := by rw [hlen]; omega
      rw [List.length_eq_zero_iff.1 h0] at hu
      simp at hu
    · refine ⟨⟨g, j * 12, none⟩, by simp [h], Lib.hid fun t u hu => ?_⟩
      rw [Addr.add_lit]
      show w.cell? _ = _
      rw [hcell, flat_split ps j, List.getElem?_append_right (by rw [flat_take_length (by omega)]; omega), flat_take_length (by omega), ← hnews, show j * 12 + t - j * 12 = t by omega]
      exact hu
  have s1 : Hid (news.length = (n - j) * 12) := Lib.hid hlen
  have s2 : Hid (∀ u ∈ news, u.oneCell' = true) := Lib.hid (by rw [hnews]; exact flat_mem)
  have s3 : Hid (∀ t, t < news.length → (w.drew.cell? ⟨g, 0 + i * 12 + t, none⟩).isSome = true ∧ w.drew.frozen? ⟨g, 0 + i * 12 + t, none⟩ = false) := Lib.hid fun t ht => by
    rw [hlen] at ht
    refine ⟨?_, h2.drew.frozen _⟩
    show (w.cell? _).isSome = true
    rw [hcell, List.getElem?_eq_getElem (by rw [hfl]; omega)]
    rfl
  obtain ⟨W1, hW1⟩ : ∃ W1, W1 = w.drew.setCells g (0 + i * 12) news := ⟨_, rfl⟩
  have e0 : flat ps = flat (ps.take i) ++ (flat ((ps.drop i).take (n - j)) ++ flat (ps.drop (n - 2))) := by
    rw [flat_split ps i]
    congr 1
    rw [flat_split (ps.drop i) (n - j), List.drop_drop, show i + (n - j) = n - 2 by omega]
  have lt1 : (flat (ps.take i)).length = i * 12 := flat_take_length (by omega)
  have hB1 : Blk W1 g 38 (flat (ps.take i) ++ (news ++ flat (ps.drop (n - 2)))).toArray := by
    have h4 := h2.drew
    rw [e0] at h4
    have := Blk.mid news (flat ((ps.drop i).take (n - j))) (flat (ps.take i)) (flat (ps.drop (n - 2))) w.drew (by rw [hlen, flat_length, List.length_take, List.length_drop, hpl]; congr 1; omega) h4
    rw [lt1] at this
    rw [hW1, Nat.zero_add]
    exact this
  have hB1' : Blk W1 g 38 (flat (ps.take i ++ ps.drop j) ++ (flat (ps.drop (n - 2)) ++ [])).toArray := by
    rw [flat_append, ← hnews, List.append_nil, List.append_assoc]
    exact hB1
  have ld : (flat (ps.take i ++ ps.drop j)).length = (n - 2) * 12 := by
    rw [flat_length, List.length_append, List.length_take, List.length_drop, hpl, Nat.min_eq_left (by omega)]
    congr 1
    omega
  have l2 : (flat (ps.drop (n - 2))).length = 24 := by
    rw [flat_length, List.length_drop, hpl]
    omega
  have hcl : ∀ ty c, (Builtin.clear_ #[22] ty #[.slice (some ⟨g, (n - 2) * 12, none⟩) 2 c]).run Tryz.prog W1 = .ok (.tuple #[]) (W1.setCells g ((n - 2) * 12) (Builtin.zeroCells zcells 2).toList) := fun ty c =>
    run_clear_two W1 ty g _ c (fun j hj => by
      rw [hB1'.cell, List.getElem?_toArray, List.getElem?_eq_getElem (by simp only [List.length_append, ld, l2, List.length_nil]; omega)]
      rfl) (fun j hj => hB1'.frozen _)
  have hl2 : (Builtin.zeroCells zcells 2).toList.length = 24 := by kernel_rfl
  have hB2 : Hid (Qs (W1.setCells g ((n - 2) * 12) (Builtin.zeroCells zcells 2).toList) (fun b => b ≠ g) (some ⟨g, 0, none⟩) (l.take i ++ l.drop j) ∧ Kept g w (W1.setCells g ((n - 2) * 12) (Builtin.zeroCells zcells 2).toList)) := Lib.hid (by
    have hk : Kept g w (W1.setCells g ((n - 2) * 12) (Builtin.zeroCells zcells 2).toList) := by
      rw [hW1]
      exact ((Kept.refl g w).drew.trans (Kept.set g _ _ _)).trans (Kept.set g _ _ _)
    have h5 := Blk.mid (Builtin.zeroCells zcells 2).toList (flat (ps.drop (n - 2))) (flat (ps.take i ++ ps.drop j)) [] W1 (by rw [hl2, l2]) hB1'
    rw [ld] at h5
    refine ⟨Qs.of_blk h5 (by simp [h1]) (fun j p q hp hq => hk.is _ _ ?_), hk⟩
    rcases Nat.lt_or_ge j i with hj | hj
    · rw [List.getElem?_append_left (by simp; omega), List.getElem?_take_of_lt hj] at hp
      rw [List.getElem?_append_left (by simp; omega), List.getElem?_take_of_lt hj] at hq
      exact (h3 j p q hp hq).mono fun _ hb => hb.1
    · rw [List.getElem?_append_right (by simp; omega), List.getElem?_drop] at hp
      rw [List.getElem?_append_right (by simp; omega), List.getElem?_drop] at hq
      rw [List.length_take, hpl] at hp
      rw [List.length_take, hn] at hq
      exact (h3 _ p q hp hq).mono fun _ hb => hb.1)
  have hW : Hid (W1 = w.drew.setCells g (0 + i * 12) news) := Lib.hid hW1
  have hic : i ≤ n := by omega
  have hij : i < j := by omega
  have hz : n - (n - 2) = 2 := by omega
  have hz2 : i + (n - j) = n - 2 := by omega
  have hg : g < w.heap.size := h2.lt
  clear hW1 hB1 hB1' hcell h2 h3 hnews hlen e0 lt1 ld l2 hl2 hfl hj
  go_enter Tryz.func59, Tryz.ntmps59
  have hx := Ext.refl w
  go_wp2_with fail
  go_region_law (refine step_append_room rfl (.tmp 22) (.tmp 25) 22 rfl 38 i0 12 Tryz.underlying22 hi0 hz1 g 0 i n (by simp [Act.eval, Act.put]) A (n - j) (n - j) news (by simp [Act.eval, Act.put]) s1.out hsrc.out s2.out (by omega) s3.out ?_; rw [← hW.out])
  go_wp2_with fail
  refine bodyPost_ret (v := .slice (some ⟨g, 0, none⟩) (n - 2 : Nat) n) (by simp only [results, Tryz.results59]; go_simp) rfl ?_
  exact ⟨rfl, Lib.hid hB2.out.1, Lib.hid hB2.out.2⟩
theorem pdelete_any (g n i : Nat) (l : List Qp) (w : World) (h : OwnL w g l) (hn : l.length = n) (hi : i + 2 ≤ n) (hb : n ≤ 1000000000000) :
    Calls Tryz.prog 59 #[.slice (some ⟨g, 0, none⟩) n n, .int .i64 i, .int .i64 ((i : Int) + 2)] w (fun e w' => e = .returned (.slice (some ⟨g, 0, none⟩) (n - 2 : Nat) n) ∧ Hid (Qs w' (fun b => b ≠ g) (some ⟨g, 0, none⟩) (l.take i ++ l.drop (i + 2))) ∧ Hid (Kept g w w')) := by
  have := pdelete_at g n i (i + 2) l w h hn rfl hi hb
  rw [show (((i + 2 : Nat) : Int)) = (i : Int) + 2 by omega] at this
  exact this
end Go.Proofs.YtgfiddlmeopebaaGreatDoor
