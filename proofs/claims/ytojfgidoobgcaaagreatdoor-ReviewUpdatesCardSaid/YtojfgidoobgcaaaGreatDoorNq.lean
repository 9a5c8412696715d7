/- Walks: who approves. -/
import Derived.Test.YtojfgidoobgcaaaGreatDoorNp
import Derived.Test.YtojfgidoobgcaaaGreatDoorSo
set_option linter.unusedSimpArgs false
set_option linter.unusedVariables false
namespace Go.Proofs.YtojfgidoobgcaaaGreatDoor
open Go Go.RowKit Go.Maps Go.WideMaps Go.Sort

theorem sl_one (W : World) (x : ByteArray) : Sl (W.alloc (.cells #[.string x] 9)) (some ⟨W.heap.size, 0, none⟩) 1 1 [x] := by
  refine ⟨⟨rfl, fun _ => ⟨W.heap.size, 0, rfl, by simp, fun j hj => ?_⟩⟩, fun h => nomatch h⟩
  obtain rfl : j = 0 := by omega
  rw [World.cell?_alloc_at _ _ _ _ rfl]
  rfl
/-- What the sort of strings leaves. -/
def Sorted (base : Nat) (v : Value) (T : List ByteArray) (w : World) (e : Ending) (w' : World) : Prop :=
  e = .returned (.tuple #[]) ∧ (∃ T' : List ByteArray, T'.Perm T ∧ T'.Pairwise (fun s t => Tr.lt t s = false) ∧ w'.ownsRow base 9 1 v T'.length (T'.map Value.string)) ∧ ∀ w0, Ext w0 w → w0.heap.size ≤ base → Ext w0 w'
set_option maxRecDepth 100000 in
theorem sort_nil (w : World) : Calls Tryz.prog 43 #[.slice none 0 0] w (fun e w' => e = .returned (.tuple #[]) ∧ Ext w w') := by
  have hi : ∀ W, Calls Tryz.prog 89 #[.slice none 0 0, .int .i64 0, .int .i64 0] W (fun e w' => e = .returned (.tuple #[]) ∧ Ext W w') := fun W => by
    have hx := Ext.refl W
    go_enter Tryz.func89, Tryz.ntmps89
    go_wp2_with fail
    refine wp_loop_rounds 1 ?_
    rw [rounds_succ]
    go_wp2_with fail
    go_end0
    exact ⟨rfl, hx⟩
  have hp : ∀ W, Calls Tryz.prog 72 #[.slice none 0 0, .int .i64 0, .int .i64 0, .int .i64 0] W (fun e w' => e = .returned (.tuple #[]) ∧ Ext W w') := fun W => by
    have HI := Lib.hid (hi W)
    have hx := Ext.refl W
    go_enter Tryz.func72, Tryz.ntmps72
    go_wp2_with fail
    refine wp_loop_rounds 1 ?_
    rw [rounds_succ]
    go_wp2_with fail
    refine HI.out.mono ?_
    rintro e w1 ⟨rfl, hx1⟩
    go_wp2_with fail
    refine bodyPost_ret (v := .tuple #[]) (by simp only [results, Tryz.results72]; go_simp) rfl ?_
    exact ⟨rfl, hx1⟩
  have HP := Lib.hid hp
  clear hp hi
  go_enter Tryz.func43, Tryz.ntmps43
  have hx := Ext.refl w
  go_wp2_with fail
  refine (Tryz.bits_Len 0 w (by decide) (by decide)).mono ?_
  rintro e w1 ⟨rfl, rfl⟩
  have hz : ((Lib.bitLen (0 : Int).toNat : Nat) : Int) = 0 := by kernel_rfl
  rw [hz]
  go_wp2_with fail
  refine (HP.out _).mono ?_
  rintro e w2 ⟨rfl, hx1⟩
  have hx2 := hx1
  clear hx hx1
  go_wp2_with fail
  go_end0
  exact ⟨rfl, hx2⟩
theorem grow_at {w : World} {g n : Nat} {os : Array Obj} {f : Array Value → Array Value} {cs : Array Value} {t : TypeId} (h : w.heap[g]? = some (.cells cs t (0, 0))) :
    (grow (mapBlock (Sort.ahead w n) g f) os).heap[g]? = some (.cells (f cs) t (0, 0)) ∧ ∀ w0 : World, Ext w0 w → w0.heap.size ≤ g → Ext w0 (grow (mapBlock (Sort.ahead w n) g f) os) := by
  have hg : g < w.heap.size := (Array.getElem?_eq_some_iff.1 h).1
  have hm : ∀ k, (mapBlock (Sort.ahead w n) g f).heap[k]? = if g = k then (w.heap[k]?).map (onCells f) else w.heap[k]? := fun k => by
    show (w.heap.modify g (onCells f))[k]? = _
    rw [Array.getElem?_modify]
  have hs : (mapBlock (Sort.ahead w n) g f).heap.size = w.heap.size := by
    show (w.heap.modify g (onCells f)).size = _
    simp
  have hgr : ∀ k, k < w.heap.size → (grow (mapBlock (Sort.ahead w n) g f) os).heap[k]? = (mapBlock (Sort.ahead w n) g f).heap[k]? := fun k hk => by
    show ((mapBlock (Sort.ahead w n) g f).heap ++ os)[k]? = _
    rw [Array.getElem?_append_left (by rw [hs]; exact hk)]
  refine ⟨?_, fun w0 h0 hle => ?_⟩
  · rw [hgr g hg, hm g, if_pos rfl, h]
    rfl
  · refine ⟨h0.os, h0.tape, h0.output, ?_, fun k hk => ?_⟩
    · refine Nat.le_trans (Below.size h0) ?_
      show w.heap.size ≤ ((mapBlock (Sort.ahead w n) g f).heap ++ os).size
      rw [Array.size_append, hs]
      omega
    · have hkw : k < w.heap.size := Nat.lt_of_lt_of_le hk (Below.size h0)
      rw [hgr k hkw, hm k, if_neg (by omega)]
      exact h0.block k hk
theorem putCells_take (d : List (List UInt8)) (cs : Array Value) (hd : d.length ≤ cs.size) : (putCells encStr 0 d.toArray cs).size = cs.size ∧ (putCells encStr 0 d.toArray cs).toList.take d.length = d.map encStr := by
  have hsz : (putCells encStr 0 d.toArray cs).size = cs.size := by unfold putCells; simp
  refine ⟨hsz, List.ext_getElem? fun k => ?_⟩
  rcases Nat.lt_or_ge k d.length with h | h
  · rw [List.getElem?_take_of_lt h, Array.getElem?_toList]
    have hk : k < cs.size := by omega
    unfold putCells
    rw [Array.getElem?_mapIdx, Array.getElem?_eq_getElem hk]
    simp [h]
  · rw [List.getElem?_eq_none (by simp; omega), List.getElem?_eq_none (by simpa using h)]
theorem sort_own (base : Nat) (v : Value) (T : List ByteArray) (w : World) (h : w.ownsRow base 9 1 v T.length (T.map Value.string)) (hl : T.length ≤ 4000000) :
    Calls Tryz.prog 43 #[v] w (Sorted base v T w) := by
  obtain ⟨h1, ⟨rfl, h2⟩ | ⟨g, cap, cur, rfl, h3, h4, h5, h6, h7, h8⟩⟩ := h
  · obtain rfl := List.length_eq_zero_iff.1 h2
    refine (sort_nil w).mono ?_
    rintro e w' ⟨rfl, hx⟩
    exact ⟨rfl, ⟨[], List.Perm.nil, List.Pairwise.nil, rfl, .inl ⟨rfl, rfl⟩⟩, fun w0 h0 _ => h0.trans hx⟩
  · rw [Nat.mul_one] at h8 h7
    have hg : g < w.heap.size := (Array.getElem?_eq_some_iff.1 h4).1
    have hB : Blk w g 9 cur := Blk.mk h4
    have hH : Holds encStr w g 0 (T.map fun s => s.data.toList).toArray := fun j hj => by
      have hjT : j < T.length := by simpa using hj
      rw [Nat.zero_add, hB.cell, hB.frozen]
      refine ⟨?_, rfl⟩
      have e1 : cur[j]? = (T.map Value.string)[j]? := by
        rw [← h8, List.getElem?_take_of_lt hjT, Array.getElem?_toList]
      rw [e1, List.getElem?_map, List.getElem?_eq_getElem hjT]
      simp [hjT]
    have hls : (T.map fun s => s.data.toList).length = T.length := by simp
    have hS := Tryz.slices_Sort_string g 0 cap (T.map fun s => s.data.toList) w hH hg (by rw [hls]; omega)
    rw [hls] at hS
    refine hS.mono ?_
    rintro e w' ⟨rfl, n, os, rfl⟩
    generalize hM : (T.map fun s => s.data.toList).mergeSort (fun x y => decide (x ≤ y)) = M
    have hperm : M.Perm (T.map fun s => s.data.toList) := by rw [← hM]; exact List.mergeSort_perm _ _
    have hML : M.length = T.length := by rw [hperm.length_eq, hls]
    have hsorted : M.Pairwise fun x y => x ≤ y := by
      rw [← hM]
      refine (List.pairwise_mergeSort (fun a b c h1 h2 => ?_) (fun a b => ?_) _).imp fun h => by simpa using h
      · simp only [decide_eq_true_eq] at h1 h2 ⊢
        exact List.le_trans h1 h2
      · simp only [Bool.or_eq_true, decide_eq_true_eq]
        exact List.le_total a b
    obtain ⟨hc1, hc2⟩ := grow_at (n := n) (os := os) (f := putCells encStr 0 M.toArray) h4
    obtain ⟨hp1, hp2⟩ := putCells_take M cur (by rw [hML]; omega)
    refine ⟨rfl, ⟨M.map fun l => ⟨l.toArray⟩, ?_, ?_, ?_⟩, fun w0 h0 hle => hc2 w0 h0 (by omega)⟩
    · have h9 := hperm.map fun l : List UInt8 => (⟨l.toArray⟩ : ByteArray)
      rw [List.map_map] at h9
      have : ((fun l : List UInt8 => (⟨l.toArray⟩ : ByteArray)) ∘ fun s : ByteArray => s.data.toList) = id := by
        funext s
        simp
      rw [this, List.map_id] at h9
      exact h9
    · rw [List.pairwise_map]
      refine hsorted.imp fun {a b} hab => ?_
      cases hq : Tr.lt (⟨b.toArray⟩ : ByteArray) ⟨a.toArray⟩
      · rfl
      · have := Tr.lt_iff.1 hq
        exact absurd this (List.not_lt.2 hab)
    · refine ⟨by simp, .inr ⟨g, cap, _, by rw [List.length_map, hML], h3, hc1, by rw [List.length_map, hML]; exact h5, h6, by rw [hp1, Nat.mul_one]; exact h7, ?_⟩⟩
      rw [List.length_map, Nat.mul_one, hp2, List.map_map]
      rfl
/-- Who of those met approves. -/
abbrev yes1 (r : Rv) (S : List ByteArray) : List ByteArray := S.filter fun s => Vw.opin r s == 1
theorem sorted_people {r : Rv} {S T : List ByteArray} (hn : S.Nodup) (h : ∀ s, s ∈ S ↔ Vw.opin r s ≠ 0) (hp : T.Perm (yes1 r S)) (hs : T.Pairwise (fun s t => Tr.lt t s = false)) : T = Vw.people r 1 := by
  have hnd : T.Nodup := hp.nodup_iff.2 (hn.filter _)
  have hup : Vw.Up T := by
    refine List.Pairwise.imp₂ ?_ hs hnd
    intro a b h1 h2
    exact Tr.lt_of h1 h2
  refine Vw.Up.ext hup (Vw.people_up r 1) fun x => ?_
  rw [hp.mem_iff, Vw.people_mem (by decide), List.mem_filter, h]
  constructor
  · rintro ⟨_, h1⟩
    simpa using h1
  · intro h1
    exact ⟨by rw [h1]; decide, by simp [h1]⟩
set_option maxHeartbeats 8000000 in
set_option maxRecDepth 100000 in
/-- review.Approvals. -/
theorem approvals_any (c : List Value) (r : Rv) (w : World) {F : Nat → Prop} (h : Rev w F c r) (hf : r.Fits) (hvs : r.votes.length ≤ 4000000) :
    Calls Tryz.prog 12 #[.agg c.toArray] w (fun e w' => ∃ A c, e = .returned (.slice A (Vw.people r 1).length c) ∧ Sl w' A (Vw.people r 1).length c (Vw.people r 1) ∧ Ext w w') := by
  have HC : Hid (∀ W, Ext w W → Calls Tryz.prog 42 #[.agg c.toArray] W (fun e w' => e = .returned (.map (some (W.heap.size + 1))) ∧ Owns w' (W.heap.size + 1) r.votes.length (Vw.mapOf r) ∧ Ext W w')) := Lib.hid fun W hW => opinions_any c r W (Rev.steadfast.ext h hW) hf
  obtain ⟨A, n, m, B, p, q, rfl, z1, z2⟩ := h
  clear z1 z2
  obtain ⟨D, hD⟩ : ∃ D, D = Vw.mapOf r := ⟨_, rfl⟩
  rw [← hD] at HC
  have HH : Hid (Holds1 D (Vw.opin r)) := Lib.hid (by rw [hD]; exact mapOf_holds r)
  have hvl := hf.votes
  clear hD hf
  go_enter Tryz.func12, Tryz.ntmps12
  have hx := Ext.refl w
  go_wp2_with fail
  refine (HC.out _ (hx.alloc _)).mono ?_
  rintro e w1 ⟨rfl, hown, hx0⟩
  have hy := Ext.trans (a := w) EX hx0; clear hx; have hx := hy; clear hy; have hn0 := BB hx0 (w.heap.size); (first | simp [↓heap_drew_at, ↓heap_drewN_at, ↓heap_alloc_at, ↓heap_set_at, ne_two, ne_three, ne_two_left, ne_three_left, ↓hb0.eq, hb0.lt, hb0.ne] at hn0 | simp [↓heap_drew_at, ↓heap_drewN_at, ↓heap_alloc_at, ↓heap_set_at, ne_two, ne_three, ne_two_left, ne_three_left] at hn0); (try clear hb0 hc0 hf0 hl0); have hb0 := Blk.mk hn0; clear hn0; obtain ⟨hc0, hf0, hl0⟩ := hb0.all; (try clear hx0)
  have hb0 := True.intro
  generalize hB : (w.alloc (.cells #[.int .i64 r.number, .string r.author, .string r.branch, .slice A n m, .int .i64 r.state, .slice B p q] 28)).heap.size + 1 = mb at hown
  have HB : Hid (w.heap.size ≤ mb) := Lib.hid (by rw [← hB]; simp; omega)
  go_wp2_with (at_range; refine wpList_range_own _ rfl _ 73 rfl 9 3 slaw Tryz.underlying73 _ mb r.votes.length D rfl hown ?_; intro w2 hrg0 hg0 hs0)
  go_frame
  have hsz := hown.size_le
  have HX2 : Hid (Ext w w2) := Lib.hid (Below.grown hx hg0 (Below.size hx) (fun j hj => by cases hj))
  have HB2 : Hid (w.heap.size ≤ w1.heap.size) := Lib.hid (Below.size hx)
  have hmb : mb < w1.heap.size := hown.lt
  have hs2 : w2.heap.size = w1.heap.size + 1 := hs0
  generalize w1.heap.size = r0 at hrg0 hs0 hs2 HB2 hmb ⊢
  clear hx hc0 hf0 hl0 hb0 hown hg0 HC
  go_loopw [3] (fun u wr => ∃ (left : Lit → Bool) (cnt : Nat) (S : List ByteArray), wr.ownsRow (r0 + 1) 9 1 u (yes1 r S).length ((yes1 r S).map Value.string) ∧ wr.ranges Tryz.prog 9 (plainElem Tryz.prog 3) mb r0 r.votes.length D left cnt ∧ S.length + cnt ≤ Maps.size D ∧ Hid (Met D left S) ∧ r0 + 1 ≤ wr.heap.size ∧ Hid (Ext w wr)) (fun u wr => wr.rangeLeft mb r0)
  case atStart => exact ⟨_, _, [], ⟨rfl, .inl ⟨rfl, rfl⟩⟩, hrg0, by simp, Lib.hid (Met.start D), by omega, HX2⟩
  case round =>
    clear hrg0 hs0 HX2 hs2
    obtain ⟨left, cnt, S, hown, hrg, hcs, HM, hrs, HX⟩ := hrel
    have hyl : (yes1 r S).length ≤ S.length := List.length_filter_le _ _
    have HOW := Lib.hid hown
    clear hown
    go_wp2_with (at_next; refine wpList_next_ranges _ rfl _ rfl 9 slaw (plainElem Tryz.prog 3) Value.string (Value.int .i64) (fun key kl hk => by obtain ⟨s, e, _⟩ := keyOf_string_inv hk; exact ⟨s, e⟩) (fun v y hv => by obtain ⟨c, e, _⟩ := plainElem_int_inv Tryz.underlying3 hv; exact ⟨c, e⟩) mb r0 r.votes.length D _ _ rfl hrg ?_ ?_)
    · intro hc0 hl0
      have HP : Hid (∀ T : List ByteArray, T.Perm (yes1 r S) → T.Pairwise (fun s t => Tr.lt t s = false) → T = Vw.people r 1) := Lib.hid fun T h1 h2 => sorted_people HM.out.nodup (fun s => (HM.out.all hl0 s).trans ((HH.out.2 s).1)) h1 h2
      have HSO := Lib.hid (sort_own (r0 + 1) u3 (yes1 r S) wr HOW.out (by omega))
      clear HM HH HOW hrg
      go_wp2_with fail
      refine HSO.out.mono ?_
      rintro e w3 ⟨rfl, ⟨T, hp, hs, hown⟩, hext⟩
      have hT := HP.out T hp hs
      subst hT
      have HX3 := Lib.hid (hext w HX.out (by have := HB2.out; omega))
      obtain ⟨A', c', rfl, hsl, _⟩ := Sl.of_own' hown
      have HSL := Lib.hid hsl
      clear hown hext hsl HP HSO hp hs
      dsimp only
      go_wp2_with fail
      go_ret
      exact ⟨_, _, rfl, HSL.out, HX3.out⟩
    · intro s c kl y yp w3 cnt1 hkey hlk hv hat hrg1 hlt hgr hsz3 hen
      obtain ⟨s', e', rfl⟩ := keyOf_string_inv hkey
      cases e'
      have hhas : has D (pkey s) = true := has_true_of_atKey hat
      have hop : Vw.opin r s ≠ 0 := ((HH.out.2 s).1).1 hhas
      have hc : c = Vw.opin r s := by
        obtain ⟨c', e2, e3, _⟩ := plainElem_int_inv Tryz.underlying3 hv
        cases e2
        obtain ⟨rfl, rfl⟩ := Prod.mk.inj e3
        have h1 := hat .nil
        rw [(HH.out.2 s).2 hop] at h1
        simp only [DataW.lit.injEq, Lit.int.injEq, true_and] at h1
        exact h1.symm
      have hx3 : Ext w w3 := Below.grown HX.out hgr (Below.size HX.out) (fun j hj => by cases hj; exact HB2.out)
      have HX3 : Hid (Ext w w3) := Lib.hid hx3
      have hml := hrg1.left_eq
      have hml0 := hrg.left_eq
      have HRG := Lib.hid hrg1
      have HLT := Lib.hid hlt
      have HM2 := Lib.hid (HM.out.step hhas hlk)
      have hlt2 := HOW.out.lt
      have hne : u3.ownBlock = none ∨ u3.ownBlock ≠ some r0 := by
        cases ho : u3.ownBlock with
        | none => exact .inl rfl
        | some g =>
          refine .inr fun e => ?_
          obtain rfl := Option.some.inj e
          have := (hlt2 _ ho).1
          omega
      have HO3 : Hid (w3.ownsRow (r0 + 1) 9 1 u3 (yes1 r S).length ((yes1 r S).map Value.string)) := Lib.hid (HOW.out.kept hgr hne)
      clear hne
      by_cases h2 : c = 1
      · have hy : yes1 r (S ++ [s]) = yes1 r S ++ [s] := by
          unfold yes1
          rw [List.filter_append]
          simp [← hc, h2]
        have hcl : (c == 1) = true := by rw [h2]; decide
        have hz2 : r0 + 1 ≤ (w3.alloc (.cells #[.string s] 9)).heap.size := by simp; omega
        clear HM hv hat hrg1 hop hhas hc hrg hx3 hsz3
        subst h2
        go_wp2_with (at_builtin; refine wpList_append_sl rfl _ _ rfl (r0 + 1) _ (yes1 r S).length (yes1 r S) rfl (HO3.out.alloc _) hz2 (some ⟨w3.heap.size, 0, none⟩) 1 1 [s] (sl_one w3 _) rfl (by omega) (by omega) ?_; intro v2 w4 hown2 hg2)
        have HX4 : Hid (Ext w w4) := Lib.hid (grownBy_ext hg2 w (HX3.out.alloc _) (fun g hg => by have := (HO3.out.lt g hg).1; have := HB2.out; omega))
        have hrg4 := (HRG.out.alloc (.cells #[.string s] 9)).kept hg2 (fun e => by have := (HO3.out.lt _ e.symm).1; omega) (fun e => by have := (HO3.out.lt _ e.symm).1; omega)
        have hsz4 : r0 + 1 ≤ w4.heap.size := Nat.le_trans hz2 hg2.size
        have hml2 := hrg4.left_eq
        have HO4 : Hid (w4.ownsRow (r0 + 1) 9 1 v2 (yes1 r (S ++ [s])).length ((yes1 r (S ++ [s])).map Value.string)) := Lib.hid (by rw [hy, List.length_append]; exact hown2)
        have HRG4 := Lib.hid hrg4
        clear hown2 hg2 hrg4
        go_wp2_with fail
        go_roundw
        case rel => exact ⟨_, cnt1, S ++ [s], HO4.out, HRG4.out, by simp; omega, HM2, hsz4, HX4⟩
        case measure => rw [hml2, hml0]; exact HLT.out
      · have hy : yes1 r (S ++ [s]) = yes1 r S := by
          unfold yes1
          rw [List.filter_append]
          simp [← hc, h2]
        have hcl : (c == 1) = false := by simpa using h2
        have hz3 : r0 + 1 ≤ w3.heap.size := by omega
        have HO4 : Hid (w3.ownsRow (r0 + 1) 9 1 u3 (yes1 r (S ++ [s])).length ((yes1 r (S ++ [s])).map Value.string)) := Lib.hid (by rw [hy]; exact HO3.out)
        clear HM hv hat hrg1 hop hhas hc hrg hx3
        go_wp2_with fail
        go_roundw
        case rel => exact ⟨_, cnt1, S ++ [s], HO4.out, HRG.out, by simp; omega, HM2, hz3, HX3⟩
        case measure => rw [hml, hml0]; exact HLT.out
end Go.Proofs.YtojfgidoobgcaaaGreatDoor
