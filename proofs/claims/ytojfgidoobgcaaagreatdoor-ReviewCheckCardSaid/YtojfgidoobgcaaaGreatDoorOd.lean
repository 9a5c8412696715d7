/- Walks: the reviews of a branch that are not ended. -/
import Derived.Test.YtojfgidoobgcaaaGreatDoorOc
set_option linter.unusedSimpArgs false
set_option linter.unusedVariables false
namespace Go.Proofs.YtojfgidoobgcaaaGreatDoor
open Go Go.RowKit

/-- A number's cell. -/
def Num : Reads Int := fun _ _ c x => c = [.int .i64 x]
theorem Num.steadfast : Steadfast Num := ⟨fun h _ => h, fun h _ => h, fun h => h⟩
theorem Num.one {w : World} {F : Nat → Prop} {c : List Value} {x : Int} (h : Num w F c x) : ∀ u ∈ c, u.oneCell' = true := by
  obtain rfl : c = [.int .i64 x] := h
  simp [Value.oneCell']
theorem ninfo : ∃ (i : TypeInfo) (z : Value), Tryz.prog.info? 3 = some i ∧ i.zero = some z ∧ i.size = 1 ∧ i.bytes = 8 ∧ z.cells.size = 1 := by
  have h : (Tryz.prog.info? 3).map (fun i => (i.size, i.bytes, i.zero.map fun z => z.cells.size)) = some (1, 8, some 1) := by kernel_rfl
  cases hq : Tryz.prog.info? 3 with
  | none => rw [hq] at h; cases h
  | some i =>
    rw [hq] at h
    simp only [Option.map_some, Option.some.injEq, Prod.mk.injEq] at h
    obtain ⟨h1, h2, h3⟩ := h
    cases hz : i.zero with
    | none => rw [hz] at h3; cases h3
    | some z => rw [hz] at h3; exact ⟨i, z, rfl, hz, h1, h2, by simpa using h3⟩
/-- Numbers that a call returns. -/
def GivesI (w : World) (l : List Int) (e : Ending) (w' : World) : Prop := ∃ A n c, e = .returned (.slice A n c) ∧ l.length = n ∧ Sls 1 Num w' All A l ∧ Ext w w'
theorem nums_cells {w : World} {A : Option Addr} {l : List Int} (h : Sls 1 Num w All A l) (h0 : 0 < l.length) : ∃ b o, A = some ⟨b, o, none⟩ ∧ ∀ j, j < l.length → w.cell? ⟨b, o + j, none⟩ = some (.int .i64 (l.getD j 0)) := by
  obtain ⟨b, o, _, rfl, _⟩ := h.get (List.getElem?_eq_getElem h0)
  · refine ⟨b, o, rfl, fun j hj => ?_⟩
    obtain ⟨b', o', c, e, _, _, hk, hr, hx⟩ := h.get (List.getElem?_eq_getElem hj)
    obtain ⟨rfl, rfl⟩ : b = b' ∧ o = o' := by simpa using e
    obtain rfl : c = _ := hx
    have := hr 0 _ rfl
    rw [Nat.mul_one, Nat.add_zero] at this
    rw [this]
    simp [hj]
/-- slices.Equal of equal numbers. -/
theorem iequal_true (A B : Option Addr) (n c m d : Nat) (l : List Int) (w : World) (h : Sls 1 Num w All A l) (k : Sls 1 Num w All B l) (hn : l.length = n) (hm : l.length = m) (hb : n ≤ 1000000000) :
    Calls Tryz.prog 16 #[.slice A n c, .slice B m d] w (Ret (.bool true) w) := by
  obtain rfl : n = m := by omega
  rcases Nat.eq_zero_or_pos n with h0 | h0
  · subst h0
    refine (Tryz.slices_Equal_int_empty A B c 0 d w (by omega)).mono ?_
    rintro e w' ⟨rfl, rfl⟩
    exact ⟨rfl, Ext.refl _⟩
  · obtain ⟨b, o, rfl, h1⟩ := nums_cells h (by omega)
    obtain ⟨b', o', rfl, h2⟩ := nums_cells k (by omega)
    refine (Tryz.slices_Equal_int b o n c b' o' n d l l w (by omega) (by omega) (by omega) (by omega) h1 h2).mono ?_
    rintro e w' ⟨rfl, q, rfl⟩
    exact ⟨by simp, (Ext.refl w).drewN q⟩
def Vw.opened (branch : ByteArray) (l : List Rv) : List Int := (l.filter (fun r => Qm.eqB r.branch branch && !Vw.ended r)).map Rv.number
theorem opened_snoc {branch : ByteArray} {l : List Rv} {k : Nat} {r : Rv} (e : l[k]? = some r) : Vw.opened branch (l.take (k + 1)) = if (Qm.eqB r.branch branch && !Vw.ended r) = true then Vw.opened branch (l.take k) ++ [r.number] else Vw.opened branch (l.take k) := by
  unfold Vw.opened
  rw [List.take_add_one, e]
  by_cases h : (Qm.eqB r.branch branch && !Vw.ended r) = true
  · rw [if_pos h, List.filter_append, List.map_append]
    simp [List.filter, h]
  · rw [if_neg h, List.filter_append, List.map_append]
    simp [List.filter, h]
theorem opened_len (branch : ByteArray) (l : List Rv) : (Vw.opened branch l).length ≤ l.length := by
  unfold Vw.opened
  rw [List.length_map]
  exact List.length_filter_le _ _
theorem Vw.opens_eq (l : List Rv) (branch : ByteArray) : Vw.opens l branch = if Vw.check l ≠ 0 then [] else Vw.opened branch l := rfl
theorem OwnW.nums {w0 w : World} {base : Nat} {v : Value} {l : List Int} (h : OwnW 1 Num 3 w0 w base All v l) (hx : Ext w0 w) : ∃ A n c, v = .slice A n c ∧ l.length = n ∧ Sls 1 Num w All A l := by
  obtain ⟨A, c, e, _, hs⟩ := h.sls Num.steadfast hx
  exact ⟨A, l.length, c, e, rfl, hs⟩
set_option maxHeartbeats 8000000 in
set_option maxRecDepth 100000 in
/-- quilt/review.Open. -/
theorem open_any (A : Option Addr) (n c : Nat) (branch : ByteArray) (l : List Rv) (w : World) (hg : Glob w) (h : Rs w All A l) (hn : l.length = n) (hb : n ≤ 1000000000) (hf : ∀ r ∈ l, r.Fits) :
    Calls Tryz.prog 17 #[.slice A n c, .string branch] w (GivesI w (Vw.opens l branch)) := by
  have HC : Hid (∀ W, Ext w W → Calls Tryz.prog 14 #[.slice A n c] W (Ret (.int .i64 (Vw.check l)) W)) := Lib.hid fun W hW => ccheck_any A n c l W (hg.ext hW) (Rs.ext h hW) hn hb hf
  have HU := Lib.hid (Vw.opens_eq l branch)
  generalize Vw.opens l branch = R at HU ⊢
  generalize Vw.check l = KK at HU HC
  have HL := Lib.hid h
  have HN := Lib.hid hn
  obtain ⟨i0, z0, hi0, hz0, hs0, hby0, hzk0⟩ := ninfo
  have HI0 := Lib.hid hi0
  have HZ0 := Lib.hid hz0
  clear h hn hg hf hi0 hz0
  go_enter Tryz.func17, Tryz.ntmps17
  have hx := Ext.refl w
  go_wp2_with fail
  refine (HC.out _ hx).mono ?_
  rintro e w1 ⟨rfl, hx0⟩
  have HX1 := Lib.hid (hx.trans hx0)
  clear hx hx0 HC
  by_cases h0 : KK = 0
  rotate_left
  · have hk0 : (KK == 0) = false := by simpa using h0
    have hv : R = [] := by rw [HU.out, if_pos h0]
    clear HU h0
    subst hv
    go_wp2_with fail
    go_ret
    exact ⟨none, 0, 0, rfl, rfl, Sls.nil 1 Num _ All, HX1.out⟩
  subst h0
  have HV : Hid (R = Vw.opened branch l) := Lib.hid (by rw [HU.out, if_neg (by simp)])
  clear HU
  go_wp2_with fail
  have hx := Ext.refl w1
  go_loopw [5, 13] (fun u i wr => ∃ k : Nat, k ≤ n ∧ i = .int .i64 k ∧ Ext w1 wr ∧ Hid (OwnW 1 Num 3 w wr w1.heap.size All u (Vw.opened branch (l.take k)))) (fun u i wr => n - (intOf i).toNat)
  case atStart => exact ⟨0, Nat.zero_le _, rfl, Ext.refl w1, Lib.hid ⟨[], rfl, by simp, ⟨rfl, .inl ⟨rfl, rfl⟩⟩, fun i c x h => by simp at h⟩⟩
  case round =>
    clear hx
    obtain ⟨k, hk, rfl, hx, HO⟩ := hrel
    by_cases hlt : k < n
    · have hkl : k < l.length := by rw [HN.out]; exact hlt
      have e0 : l[k]? = some l[k] := List.getElem?_eq_getElem _
      obtain ⟨b, o, cs, rfl, hbl, _, _, hr, hvt⟩ := (Rs.ext HL.out (HX1.out.trans hx)).get e0
      generalize l[k] = r at e0 hvt
      have HE : Hid (∀ W, Ext wr W → Calls Tryz.prog 47 #[.agg cs.toArray] W (Ret (.bool (Vw.ended r)) W)) := Lib.hid fun W hW => cended_any cs r W (Rev.steadfast.ext hvt hW)
      obtain ⟨A', n', m', B', p', q', rfl, _, _, _, _⟩ := hvt
      obtain ⟨c0, c1, c2, c3, c4, c5⟩ := cells6 hr
      have HS := Lib.hid (opened_snoc (branch := branch) e0)
      have HLE := Lib.hid (opened_len branch (l.take k))
      have HX := Lib.hid hx
      clear hr e0 hkl
      cases k1 : Qm.eqB r.branch branch
      · have j1 : (r.branch.toList == branch.toList) = false := k1
        have HO2 : Hid (OwnW 1 Num 3 w (wr.alloc (.cells #[.int .i64 r.number, .string r.author, .string r.branch, .slice A' n' m', .int .i64 r.state, .slice B' p' q'] 28)) w1.heap.size All u5 (Vw.opened branch (l.take (k + 1)))) := Lib.hid (by rw [HS.out, if_neg (by simp [k1])]; exact HO.out.ext ((Ext.refl wr).alloc _))
        clear HS HO HE
        go_wp2_with fail
        go_roundw
        case rel => exact ⟨k + 1, hlt, rfl, (HX.out.alloc (.cells #[.int .i64 r.number, .string r.author, .string r.branch, .slice A' n' m', .int .i64 r.state, .slice B' p' q'] 28)), HO2⟩
        case measure => simp [intOf]; omega
      have j1 : (r.branch.toList == branch.toList) = true := k1
      obtain ⟨en, hen⟩ : ∃ en, en = Vw.ended r := ⟨_, rfl⟩
      rw [← hen] at HE HS
      clear hen
      go_wp2_with fail
      refine (HE.out _ ((Ext.refl wr).alloc _)).mono ?_
      rintro e w2 ⟨rfl, hx0⟩
      have hxa := ((HX.out.alloc (.cells #[.int .i64 r.number, .string r.author, .string r.branch, .slice A' n' m', .int .i64 r.state, .slice B' p' q'] 28))).trans hx0
      have HO3 := Lib.hid ((HO.out.ext ((Ext.refl wr).alloc _)).ext hx0)
      obtain ⟨hcB, hfB, hlB⟩ := (Blk.ext hx0 (Blk.new' (w := wr) (g := wr.heap.size) (cs := #[.int .i64 r.number, .string r.author, .string r.branch, .slice A' n' m', .int .i64 r.state, .slice B' p' q']) (t := 28) rfl)).all
      clear c0 c1 c2 c3 c4 c5 hx hx0 HE HO
      cases en
      · have HS2 : Hid (Vw.opened branch (l.take (k + 1)) = Vw.opened branch (l.take k) ++ [r.number]) := Lib.hid (by rw [HS.out, if_pos (by simp [k1])])
        have hi0 := HI0.out
        have hz0 := HZ0.out
        have hlen : (Vw.opened branch (l.take k)).length ≤ n := by have := HLE.out; rw [List.length_take] at this; omega
        have hbase : w1.heap.size ≤ w2.heap.size := hxa.size_le
        have hl2 := Blk.new' (w := w2) (g := w2.heap.size) (cs := #[.int .i64 r.number]) (t := 3) rfl
        go_wp2_with (at_builtin; refine wpList_append_w (R := Num) (fun h => Num.one h) w _ rfl _ _ 35 3 i0 z0 rfl Tryz.underlying35 hi0 hz0 hs0 hby0 hzk0 (by decide) (w1.heap.size) u5 (Vw.opened branch (l.take k)) rfl (HO3.out.ext ((Ext.refl w2).alloc _)) w2.heap.size 1 [.int .i64 r.number] r.number rfl (hl2.range 0 _ (fun j _ => by simp)) rfl rfl (by unfold maxLen; omega) (by omega) (by simp; omega) ?_; intro gg cap w3 hown hgrow)
        have hown2 := hown
        rw [← HS2.out] at hown2
        have HO4 := Lib.hid hown2
        have hx3 : Ext w1 w3 := Below.grown (hxa.alloc _) hgrow ((hxa.alloc _).size_le) (fun j e => by have := (HO3.out.lt j e).1; omega)
        refine ⟨⟨k + 1, hlt, rfl, hx3, HO4⟩, ?_⟩
        simp [intOf]
        omega
      · have HO4 : Hid (OwnW 1 Num 3 w w2 w1.heap.size All u5 (Vw.opened branch (l.take (k + 1)))) := Lib.hid (by rw [HS.out, if_neg (by simp)]; exact HO3.out)
        clear HS HO3
        go_wp2_with fail
        go_roundw
        case rel => exact ⟨k + 1, hlt, rfl, hxa, HO4⟩
        case measure => simp [intOf]; omega
    · obtain rfl : k = n := by omega
      have HW2 := Lib.hid (HX1.out.trans hx)
      obtain ⟨A9, n9, c9, rfl, hl9, hs9⟩ := HO.out.nums HW2.out
      have hv : Vw.opened branch (l.take k) = R := by rw [HV.out, ← HN.out, List.take_length]
      rw [hv] at hl9 hs9
      have HS9 := Lib.hid hs9
      clear HV hv hs9 HO
      go_wp2_with fail
      go_ret
      exact ⟨_, _, _, rfl, hl9, HS9.out, HW2.out⟩
set_option maxHeartbeats 8000000 in
set_option maxRecDepth 100000 in
/-- quilt/quiltref55.Open. -/
theorem ropen_any (A : Option Addr) (n c : Nat) (branch : ByteArray) (l : List Rv) (w : World) (hg : Glob w) (h : Rs w All A l) (hn : l.length = n) (hb : n ≤ 1000000000) (hf : ∀ r ∈ l, r.Fits) :
    Calls Tryz.prog 18 #[.slice A n c, .string branch] w (GivesI w (Vw.opens l branch)) := by
  have HC : Hid (∀ W, Ext w W → Calls Tryz.prog 15 #[.slice A n c] W (Ret (.int .i64 (Vw.check l)) W)) := Lib.hid fun W hW => rcheck_any A n c l W (hg.ext hW) (Rs.ext h hW) hn hb hf
  have HU := Lib.hid (Vw.opens_eq l branch)
  generalize Vw.opens l branch = R at HU ⊢
  generalize Vw.check l = KK at HU HC
  have HL := Lib.hid h
  have HN := Lib.hid hn
  obtain ⟨i0, z0, hi0, hz0, hs0, hby0, hzk0⟩ := ninfo
  have HI0 := Lib.hid hi0
  have HZ0 := Lib.hid hz0
  clear h hn hg hf hi0 hz0
  go_enter Tryz.func18, Tryz.ntmps18
  have hx := Ext.refl w
  go_wp2_with fail
  refine (HC.out _ (hx.alloc (.cells #[] 3))).mono ?_
  rintro e w1 ⟨rfl, hx0⟩
  have HX1 := Lib.hid ((hx.alloc (.cells #[] 3)).trans hx0)
  have hown0 : OwnW 1 Num 3 w w1 w.heap.size All (.slice (some ⟨w.heap.size, 0, none⟩) 0 0) [] := OwnW.ext ⟨[], rfl, by simp, ⟨rfl, .inr ⟨w.heap.size, 0, #[], rfl, Nat.le_refl _, (Blk.new' (w := w) (g := w.heap.size) (cs := #[]) (t := 3) rfl).eq, Nat.le_refl _, Nat.zero_le _, rfl, rfl⟩⟩, fun i c x h => by simp at h⟩ hx0
  have HOW0 := Lib.hid hown0
  clear hown0
  clear hx hx0 HC
  by_cases h0 : KK = 0
  rotate_left
  · have hk0 : (KK == 0) = false := by simpa using h0
    have hv : R = [] := by rw [HU.out, if_pos h0]
    clear HU h0
    subst hv
    go_wp2_with fail
    go_ret
    exact ⟨_, 0, 0, rfl, rfl, (HOW0.out.nums HX1.out).elim (fun A ⟨n9, c9, e9, _, hs⟩ => by obtain ⟨rfl, _, _⟩ : some ⟨w.heap.size, 0, none⟩ = A ∧ 0 = n9 ∧ 0 = c9 := (by simpa using e9); exact hs), HX1.out⟩
  subst h0
  have HV : Hid (R = Vw.opened branch l) := Lib.hid (by rw [HU.out, if_neg (by simp)])
  clear HU
  go_wp2_with fail
  have hx := Ext.refl w1
  go_loopw [5, 6] (fun u i wr => ∃ k : Nat, k ≤ n ∧ i = .int .i64 k ∧ Ext w wr ∧ Hid (OwnW 1 Num 3 w wr w.heap.size All u (Vw.opened branch (l.take k)))) (fun u i wr => n - (intOf i).toNat)
  case atStart => exact ⟨0, Nat.zero_le _, rfl, HX1.out, Lib.hid HOW0.out⟩
  case round =>
    clear hx
    obtain ⟨k, hk, rfl, hx, HO⟩ := hrel
    by_cases hlt : k < n
    · have hkl : k < l.length := by rw [HN.out]; exact hlt
      have e0 : l[k]? = some l[k] := List.getElem?_eq_getElem _
      obtain ⟨b, o, cs, rfl, hbl, _, _, hr, hvt⟩ := (Rs.ext HL.out hx).get e0
      generalize l[k] = r at e0 hvt
      have HE : Hid (∀ W, Ext wr W → Calls Tryz.prog 32 #[.agg cs.toArray] W (Ret (.bool (Vw.ended r)) W)) := Lib.hid fun W hW => rended_any cs r W (Rev.steadfast.ext hvt hW)
      obtain ⟨A', n', m', B', p', q', rfl, _, _, _, _⟩ := hvt
      obtain ⟨c0, c1, c2, c3, c4, c5⟩ := cells6 hr
      have HS := Lib.hid (opened_snoc (branch := branch) e0)
      have HLE := Lib.hid (opened_len branch (l.take k))
      have HX := Lib.hid hx
      clear hr e0 hkl
      cases k1 : Qm.eqB r.branch branch
      · have j1 : (r.branch.toList == branch.toList) = false := k1
        have HO2 : Hid (OwnW 1 Num 3 w wr w.heap.size All u5 (Vw.opened branch (l.take (k + 1)))) := Lib.hid (by rw [HS.out, if_neg (by simp [k1])]; exact HO.out)
        clear HS HO HE
        go_wp2_with fail
        go_roundw
        case rel => exact ⟨k + 1, hlt, rfl, HX.out, HO2⟩
        case measure => simp [intOf]; omega
      have j1 : (r.branch.toList == branch.toList) = true := k1
      obtain ⟨en, hen⟩ : ∃ en, en = Vw.ended r := ⟨_, rfl⟩
      rw [← hen] at HE HS
      clear hen
      go_wp2_with fail
      refine (HE.out _ (Ext.refl wr)).mono ?_
      rintro e w2 ⟨rfl, hx0⟩
      have hxa := (HX.out).trans hx0
      have HO3 := Lib.hid ((HO.out).ext hx0)
      have hc2 : ∀ i, w2.cell? ⟨b, i, none⟩ = wr.cell? ⟨b, i, none⟩ := fun i => hx0.cell (p := ⟨b, i, none⟩) hbl
      rw [← hc2] at c0 c1 c2 c3 c4 c5
      clear hc2 hx hx0 HE HO
      cases en
      · have HS2 : Hid (Vw.opened branch (l.take (k + 1)) = Vw.opened branch (l.take k) ++ [r.number]) := Lib.hid (by rw [HS.out, if_pos (by simp [k1])])
        have hi0 := HI0.out
        have hz0 := HZ0.out
        have hlen : (Vw.opened branch (l.take k)).length ≤ n := by have := HLE.out; rw [List.length_take] at this; omega
        have hbase : w.heap.size ≤ w2.heap.size := hxa.size_le
        have hl2 := Blk.new' (w := w2) (g := w2.heap.size) (cs := #[.int .i64 r.number]) (t := 3) rfl
        go_wp2_with (at_builtin; refine wpList_append_w (R := Num) (fun h => Num.one h) w _ rfl _ _ 35 3 i0 z0 rfl Tryz.underlying35 hi0 hz0 hs0 hby0 hzk0 (by decide) (w.heap.size) u5 (Vw.opened branch (l.take k)) rfl (HO3.out.ext ((Ext.refl w2).alloc _)) w2.heap.size 1 [.int .i64 r.number] r.number rfl (hl2.range 0 _ (fun j _ => by simp)) rfl rfl (by unfold maxLen; omega) (by omega) (by simp; omega) ?_; intro gg cap w3 hown hgrow)
        have hown2 := hown
        rw [← HS2.out] at hown2
        have HO4 := Lib.hid hown2
        have hx3 : Ext w w3 := Below.grown (hxa.alloc _) hgrow ((hxa.alloc _).size_le) (fun j e => by have := (HO3.out.lt j e).1; omega)
        refine ⟨⟨k + 1, hlt, rfl, hx3, HO4⟩, ?_⟩
        simp [intOf]
        omega
      · have HO4 : Hid (OwnW 1 Num 3 w w2 w.heap.size All u5 (Vw.opened branch (l.take (k + 1)))) := Lib.hid (by rw [HS.out, if_neg (by simp)]; exact HO3.out)
        clear HS HO3
        go_wp2_with fail
        go_roundw
        case rel => exact ⟨k + 1, hlt, rfl, hxa, HO4⟩
        case measure => simp [intOf]; omega
    · obtain rfl : k = n := by omega
      have HW2 := Lib.hid hx
      obtain ⟨A9, n9, c9, rfl, hl9, hs9⟩ := HO.out.nums HW2.out
      have hv : Vw.opened branch (l.take k) = R := by rw [HV.out, ← HN.out, List.take_length]
      rw [hv] at hl9 hs9
      have HS9 := Lib.hid hs9
      clear HV hv hs9 HO
      go_wp2_with fail
      go_ret
      exact ⟨_, _, _, rfl, hl9, HS9.out, HW2.out⟩
end Go.Proofs.YtojfgidoobgcaaaGreatDoor
