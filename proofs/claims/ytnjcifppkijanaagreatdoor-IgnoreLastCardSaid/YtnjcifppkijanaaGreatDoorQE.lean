/- Walks: IgnoreElsewhere: what a path is within; files struck from a list. Walks: slices.DeleteFunc of files; files copied. Walks: files copied; IgnoreElsewhere. Walks: slices.Insert of one file of rules. Walks: IgnoreLast: rows of files told cell by cell; the place of a directory. Walks: IgnoreLast: slices.BinarySearchFunc of files, by directories. Walks: IgnoreLast: quoted; rules copied. Walks: IgnoreLast: slices.Insert in one; quiltlaw39.with. PRINTED (tools/genhu.py). Plain: IgnoreLast: a path, its directory and its name; the law for addTo. No program. Walks: IgnoreLast. -/
import Derived.Test.YtnjcifppkijanaaGreatDoorPG
import Derived.Test.YtnjcifppkijanaaGreatDoorPH
import Derived.Test.YtnjcifppkijanaaGreatDoorYj
import Derived.Test.YtnjcifppkijanaaGreatDoorSe
import Derived.Test.YtnjcifppkijanaaGreatDoorPL
import Derived.Shelf.Spec.SlicesInsert
import Derived.Lib.Overlaps
import Derived.Deep.RegionLaw
import Derived.Lib.AppendZerosOnto
import Derived.Laws.IdiomStrings
import Derived.Laws.BytesArg
import Derived.Test.YtnjcifppkijanaaGreatDoorTp
import Derived.Test.YtnjcifppkijanaaGreatDoorPA
import Derived.Test.YtnjcifppkijanaaGreatDoorPJ
import Derived.Test.YtnjcifppkijanaaGreatDoorQB
import Derived.Test.YtnjcifppkijanaaGreatDoorQt
set_option linter.unusedSimpArgs false
set_option linter.unusedVariables false
namespace Go.Proofs.YtnjcifppkijanaaGreatDoor
open Go Go.RowKit Go.Shelf
namespace Ig
theorem within_eq (p : ByteArray) (f : Fi) : (f.dir.toList == ([] : List UInt8) || Qm.below p f.dir) = within (L p) f := by
  unfold within rest Qm.below Lib.hasPrefix
  by_cases h : L f.dir = []
  · have h2 : f.dir.toList = [] := by rw [ByteArray.toList_eq]; exact h
    rw [if_pos h, h2]
    rfl
  · have h2 : (f.dir.toList == ([] : List UInt8)) = false := by rw [ByteArray.toList_eq]; simpa using h
    rw [if_neg h, h2, Bool.false_or]
    cases hp : ((L f.dir) ++ [47]).isPrefixOf (L p)
    · rw [if_neg (by simp)]; rfl
    · rw [if_pos rfl]; rfl
end Ig
/-- quiltref39.Within. -/
theorem rwithin39_same (p d : ByteArray) (w : World) (hp : p.size ≤ 4611686018427387904) : Calls Tryz.prog 27 #[.string p, .string d] w (Same (.bool (d.toList == ([] : List UInt8) || Qm.below p d)) w) := by
  have HB : Hid (∀ W, Calls Tryz.prog 56 #[.string p, .string d] W (Same (.bool (Qm.below p d)) W)) := Lib.hid fun W => rbelow_same p d W hp
  generalize Qm.below p d = bb at HB ⊢
  cases hq : (d.toList == ([] : List UInt8)) with
  | true =>
    go_enter Tryz.func27, Tryz.ntmps27
    go_wp2_with fail
    go_ret
    exact ⟨rfl, rfl⟩
  | false =>
    go_enter Tryz.func27, Tryz.ntmps27
    go_wp2_with fail
    refine (HB.out _).mono ?_
    rintro e w1 ⟨rfl, rfl⟩
    go_wp2_with fail
    go_ret
    exact ⟨rfl, rfl⟩
set_option maxHeartbeats 2000000 in
set_option maxRecDepth 100000 in
/-- The closure of IgnoreElsewhere. -/
theorem els1_any (p : ByteArray) (hp : p.size ≤ 1000000) (gp : Nat) (W : World) (c : List Value) (x : Ig.Fi) (hx : FiR W All c x) (hb : Blk W gp 9 #[.string p]) :
    Calls Tryz.prog 26 #[.agg c.toArray, .pointer (some ⟨gp, 0, none⟩)] W (Ret (.bool (!Ig.within (Ig.L p) x)) W) := by
  obtain ⟨A, n, m, rfl, _⟩ := hx
  rw [← Ig.within_eq]
  have HWI : Hid (∀ W, Calls Tryz.prog 27 #[.string p, .string x.dir] W (Same (.bool (x.dir.toList == ([] : List UInt8) || Qm.below p x.dir)) W)) := Lib.hid fun W => rwithin39_same p x.dir W (by omega)
  generalize (x.dir.toList == ([] : List UInt8) || Qm.below p x.dir) = bb at HWI ⊢
  obtain ⟨hc, hf, hl⟩ := (hb.ext ((Ext.refl W).alloc (.cells #[.string x.dir, .slice A n m] 32))).all
  have hx := Ext.refl W
  clear hb
  go_enter Tryz.func26, Tryz.ntmps26
  go_wp2_with fail
  refine (HWI.out _).mono ?_
  rintro e w1 ⟨rfl, rfl⟩
  go_wp2_with fail
  go_ret
  exact ⟨rfl, hx.alloc _⟩
theorem first_spec {β : Type} (q : β → Bool) (d : β) : ∀ (zs : List β) (i : Nat), (Lib.idxByFrom (fun _ y => q y) d zs i = -1 ∧ ∀ x ∈ zs, q x = false) ∨ ∃ k, Lib.idxByFrom (fun _ y => q y) d zs i = ((i + k : Nat) : Int) ∧ k < zs.length ∧ (∃ x, zs[k]? = some x ∧ q x = true) ∧ ∀ x ∈ zs.take k, q x = false
  | [], _ => .inl ⟨rfl, fun x hx => by cases hx⟩
  | y :: r, i => by
    cases h : q y with
    | true => exact .inr ⟨0, by simp [Lib.idxByFrom, h], by simp, ⟨y, rfl, h⟩, fun x hx => by simp at hx⟩
    | false =>
      have e0 : Lib.idxByFrom (fun _ y => q y) d (y :: r) i = Lib.idxByFrom (fun _ y => q y) d r (i + 1) := by simp [Lib.idxByFrom, h]
      rcases first_spec q d r (i + 1) with ⟨e, ha⟩ | ⟨k, e, hk, ⟨x, hx, ht⟩, ha⟩
      · refine .inl ⟨by rw [e0, e], fun x hx => ?_⟩
        rcases List.mem_cons.1 hx with rfl | hx
        · exact h
        · exact ha x hx
      · refine .inr ⟨k + 1, by rw [e0, e]; congr 1; omega, by simpa using hk, ⟨x, by simpa using hx, ht⟩, fun z hz => ?_⟩
        rw [List.take_succ_cons] at hz
        rcases List.mem_cons.1 hz with rfl | hz
        · exact h
        · exact ha z hz
/-- Where a predicate holds first. -/
def FirstAt {α : Type} (p : α → Bool) (l : List α) (i : Int) : Prop := (i = -1 ∧ ∀ x ∈ l, p x = false) ∨ ∃ k : Nat, i = k ∧ k < l.length ∧ (∃ x, l[k]? = some x ∧ p x = true) ∧ ∀ x ∈ l.take k, p x = false
theorem first_sls {P : Program} {ρ : Ren} (L : SlLaysH0.n6 P ρ) {α : Type} (k : Nat) (R : Reads α) (aE : ∀ w, (isAgg (ρ.t 23)).run P w = .ok true w) (zE : ∀ w, (Go.sizeOf (ρ.t 23)).run P w = .ok k w) (p : α → Bool) (g : Nat) (lb : Array Value) (eg : ∀ args w, (callFunc g args).run P w = .ok (.enter g args) w)
    (b o n c : Nat) (l : List α) (w0 w : World) (h : Sls k R w All (some ⟨b, o, none⟩) l) (hn : l.length = n) (h0 : 0 < n) (hb : n ≤ 1000000000) (hw : Ext w0 w)
    (hp : ∀ (W : World) (c : List Value) (x : α), Ext w0 W → R W All c x → c.length = k → Calls P g (#[.agg c.toArray] ++ lb) W (Ret (.bool (p x)) W)) (hR : Steadfast R) :
    Calls P (ρ.f 6) #[.slice (some ⟨b, o, none⟩) n c, .func (.func g) #[] lb] w fun e w' => ∃ i : Int, e = .returned (.int .i64 i) ∧ FirstAt p l i ∧ Ext w w' := by
  obtain ⟨cs, h1, h2, h3, h4⟩ := h
  obtain ⟨b', o', e, hlt, _, hr⟩ := h3 (by omega)
  obtain ⟨rfl, rfl⟩ : b = b' ∧ o = o' := by simpa using e
  have hall : ∀ x ∈ cs.zip l, R w All x.1 x.2 ∧ x.1.length = k := by
    intro x hx
    obtain ⟨i, hi⟩ := List.getElem?_of_mem hx
    obtain ⟨g1, g2⟩ : cs[i]? = some x.1 ∧ l[i]? = some x.2 := by
      rw [List.getElem?_zip_eq_some] at hi
      exact hi
    exact ⟨h4 i _ _ g1 g2, h2 _ (List.mem_of_getElem? g1)⟩
  obtain ⟨zs, hzs⟩ : ∃ zs : List { x : List Value × α // R w All x.1 x.2 ∧ x.1.length = k }, zs = (cs.zip l).pmap (fun x hx => ⟨x, hx⟩) hall := ⟨_, rfl⟩
  have hval : zs.map (fun x => x.1) = cs.zip l := by
    rw [hzs, List.map_pmap]
    simp
  have hlen : zs.length = n := by rw [hzs, List.length_pmap, List.length_zip]; omega
  have hmap : zs.map (fun x => x.1.2) = l := by
    have : zs.map (fun x => x.1.2) = (zs.map (fun x => x.1)).map Prod.snd := by rw [List.map_map]; rfl
    rw [this, hval, List.map_snd_zip (by omega)]
  have hcs : ∀ (j : Nat) z, zs[j]? = some z → cs[j]? = some z.1.1 := by
    intro j z hz
    have h5 : (zs.map (fun x => x.1))[j]? = some z.1 := by rw [List.getElem?_map, hz]; rfl
    rw [hval, List.getElem?_zip_eq_some] at h5
    exact h5.1
  clear hzs
  have : Inhabited { x : List Value × α // R w All x.1 x.2 ∧ x.1.length = k } := ⟨zs[0]'(by omega)⟩
  refine (AnyQ.slices_IndexFunc L k aE zE (fun x : { x : List Value × α // R w All x.1 x.2 ∧ x.1.length = k } => x.1.1) (fun x => x.2.2) (fun x => p x.1.2) g lb eg b o n c zs w
    (fun W x hW => (hp W x.1.1 x.1.2 (hw.trans hW) (hR.ext x.2.1 hW) x.2.2).mono fun e w' hh => ⟨hh.1, Ext.trans (a := w) hW hh.2⟩) (by omega) (by omega) hlt (fun j hj i v hv => ?_)).mono ?_
  · have hz : zs[j]? = some zs[j]! := by rw [List.getElem!_eq_getElem?_getD, List.getElem?_eq_getElem hj]; rfl
    have hc := hcs j _ hz
    have hi : i < k := by
      have := (List.getElem?_eq_some_iff.1 hv).1
      rwa [h2 _ (List.mem_of_getElem? hc)] at this
    have := hr (j * k + i) v (by rw [flatten_at h2 hc hi]; exact hv)
    rwa [← Nat.add_assoc] at this
  · rintro e w' ⟨rfl, hx⟩
    refine ⟨_, rfl, ?_, hx⟩
    rw [← hmap, List.take_of_length_le (by omega)]
    rcases first_spec (fun y : { x : List Value × α // R w All x.1 x.2 ∧ x.1.length = k } => p y.1.2) default zs 0 with ⟨e, ha⟩ | ⟨j, e, hj, ⟨x, hx, ht⟩, ha⟩
    · refine .inl ⟨e, fun x hx => ?_⟩
      obtain ⟨z, hz, rfl⟩ := List.mem_map.1 hx
      exact ha z hz
    · refine .inr ⟨j, by rw [Nat.zero_add] at e; exact e, by simpa using hj, ⟨x.1.2, by rw [List.getElem?_map, hx]; rfl, ht⟩, fun z hz => ?_⟩
      rw [← List.map_take] at hz
      obtain ⟨y, hy, rfl⟩ := List.mem_map.1 hz
      exact ha y hy
theorem indexF_zero (A : Option Addr) (c : Nat) (f : Value) (w : World) : Calls Tryz.prog 55 #[.slice A 0 c, f] w (Ret (.int .i64 (-1)) w) := by
  go_enter Tryz.func55, Tryz.ntmps55
  have hx := Ext.refl w
  go_wp2_with fail
  refine wp_loop_rounds 1 ?_
  rw [rounds_succ]
  go_wp2_with fail
  (go_ret; refine Ret.mk ?_ ?_; (focus (rfl; done)); (focus (exact EX; done)))
theorem sizeIF (w : World) : (Go.sizeOf 32).run Tryz.prog w = .ok 2 w := by kernel_rfl
theorem aggIF (w : World) : (isAgg 32).run Tryz.prog w = .ok true w := by kernel_rfl
theorem firstF_any (p : Ig.Fi → Bool) (g : Nat) (lb : Array Value) (eg : ∀ args w, (callFunc g args).run Tryz.prog w = .ok (.enter g args) w) (A : Option Addr) (n c : Nat) (l : List Ig.Fi) (w0 w : World) (h : Fis w All A l) (hn : l.length = n) (hb : n ≤ 1000000000) (hw : Ext w0 w)
    (hp : ∀ (W : World) (c : List Value) (x : Ig.Fi), Ext w0 W → FiR W All c x → Calls Tryz.prog g (#[.agg c.toArray] ++ lb) W (Ret (.bool (p x)) W)) :
    Calls Tryz.prog 55 #[.slice A n c, .func (.func g) #[] lb] w fun e w' => ∃ i : Int, e = .returned (.int .i64 i) ∧ FirstAt p l i ∧ Ext w w' := by
  rcases Nat.eq_zero_or_pos n with h0 | h0
  · subst h0
    obtain rfl := List.length_eq_zero_iff.1 hn
    refine (indexF_zero A c _ w).mono ?_
    rintro e w' ⟨rfl, hx⟩
    exact ⟨_, rfl, .inl ⟨rfl, fun x hx => by cases hx⟩, hx⟩
  · have h' := h
    obtain ⟨cs, h1, h2, h3, h4⟩ := h'
    obtain ⟨b, o, rfl, _⟩ := h3 (by omega)
    exact first_sls Tryz.laysIndexF 2 FiR aggIF sizeIF p g lb eg b o n c l w0 w h hn h0 hb hw (fun W c x h1 h2 _ => hp W c x h1 h2) FiR.steadfast
/-- The end of a row is wiped. -/
theorem run_clear_w {P : Program} {w : World} (t e : TypeId) (ht : P.underlying t = some (.slice e)) (z : Value)
    (hv : ∀ w, (zeroValue e).run P w = .ok z w) (k : Nat) (hk : z.cells.size = k) (hk0 : 0 < k) (h1 : ∀ u ∈ z.cells.toList, u.oneCell' = true) (b off n c : Nat) (hn : 0 < n) {t' : TypeId} {cur : Array Value} (hB : Blk w b t' cur) (hsz : off + n * k ≤ cur.size) :
    ∃ vs : List Value, vs.length = n * k ∧ ∀ ty, (Builtin.clear_ #[t] ty #[.slice (some ⟨b, off, none⟩) n c]).run P w = .ok (.tuple #[]) (w.setCells b off vs) := by
  have hlen : (Builtin.zeroCells z.cells n).toList.length = n * k := by simp [Builtin.zeroCells, hk]
  have hone : ∀ u ∈ (Builtin.zeroCells z.cells n).toList, u.oneCell' = true := by
    intro u hu
    simp only [Builtin.zeroCells, Array.toList_map, List.mem_map] at hu
    obtain ⟨i, _, rfl⟩ := hu
    have hi : i % z.cells.size < z.cells.size := Nat.mod_lt _ (by omega)
    rw [getElem!_pos z.cells _ hi]
    exact h1 _ (by simp)
  have hst := run_storeCells_cells (P := P) b off (Builtin.zeroCells z.cells n).toList 0 w (fun j hj => by rw [hlen] at hj; simp only [Nat.add_zero, hB.cell]; rw [Array.getElem?_eq_getElem (by omega)]; rfl) (fun j hj => by simp only [hB.frozen]) hone
  simp only [Nat.add_zero] at hst
  obtain ⟨m, rfl⟩ : ∃ m, n = m + 1 := ⟨n - 1, by omega⟩
  refine ⟨_, hlen, fun ty => ?_⟩
  simp [Builtin.clear_, run_underlying ht, hv, hst]
section
variable {α : Type} {k : Nat} {R : Reads α} {t : TypeId} {w0 w : World} {base g n cap : Nat} {F : Nat → Prop} {l : List α}
/-- What lies ahead of a place that is written on is as it was. -/
theorem OwnW.cut (hR : Steadfast R) (h : OwnW k R t w0 w base F (.slice (some ⟨g, 0, none⟩) n cap) l) (hx : Ext w0 w) (hb : w0.heap.size ≤ base) {i : Nat} (hi : i ≤ l.length) (vs : List Value) :
    Ext w0 (w.setCells g (i * k) vs) ∧ Sls k R (w.setCells g (i * k) vs) All (some ⟨g, 0, none⟩) (l.take i) := by
  obtain ⟨cs, h1, h2, ⟨h3, ⟨e, _⟩ | ⟨g', cap', cur, e, hbg, hg, hn, hcm, hs, ht⟩⟩, h4⟩ := h
  · cases e
  · simp only [Value.slice.injEq, Option.some.injEq, Addr.mk.injEq, and_true, true_and] at e
    obtain ⟨rfl, rfl, rfl⟩ := e
    have hxn : Ext w0 (w.setCells g (i * k) vs) := Ext.putMany (by omega) vs _ _ hx
    refine ⟨hxn, cs.take i, by rw [List.length_take, List.length_take]; omega, fun c hc => h2 c (List.mem_of_mem_take hc), fun h0 => ⟨g, 0, rfl, ?_, trivial, fun j u hu => ?_⟩, fun j c x hc hl => hR.mono (hR.ext (h4 j c x ?_ ?_) hxn) (fun _ _ => trivial)⟩
    · have hlt := (Array.getElem?_eq_some_iff.1 hg).1
      have : (w.setCells g (i * k) vs).heap.size = w.heap.size := by
        have : ∀ (vs : List Value) (o : Nat) (w : World), (w.setCells g o vs).heap.size = w.heap.size := by
          intro vs
          induction vs with
          | nil => intro o w; rfl
          | cons v vs ih => intro o w; show ((w.setCell ⟨g, o, none⟩ v).setCells g (o + 1) vs).heap.size = _; rw [ih]; simp [World.setCell]
        exact this _ _ _
      omega
    · have hpre : (cs.take i).flatten.length = i * k := by
        rw [flatten_len (fun c hc => h2 c (List.mem_of_mem_take hc)), List.length_take]
        congr 1
        omega
      have hj : j < i * k := by rw [← hpre]; exact (List.getElem?_eq_some_iff.1 hu).1
      have hfar : ∀ (vs : List Value) (o : Nat) (w : World), j < o → (w.setCells g o vs).cell? ⟨g, j, none⟩ = w.cell? ⟨g, j, none⟩ := by
        intro vs
        induction vs with
        | nil => intro o w _; rfl
        | cons v vs ih =>
          intro o w ho
          show ((w.setCell ⟨g, o, none⟩ v).setCells g (o + 1) vs).cell? ⟨g, j, none⟩ = _
          rw [ih _ _ (by omega)]
          exact World.cell?_setCell_other _ _ _ _ (by intro e; simp only [Addr.mk.injEq] at e; omega)
      have hB : Blk w g t cur := Blk.mk hg
      rw [Nat.zero_add, hfar _ _ _ hj, hB.cell]
      have hjl : j < l.length * k := Nat.lt_of_lt_of_le hj (Nat.mul_le_mul_right k hi)
      have e1 : cs.flatten[j]? = some u := by
        have : cs.flatten = (cs.take i).flatten ++ (cs.drop i).flatten := by rw [← List.flatten_append, List.take_append_drop]
        rw [this, List.getElem?_append_left (by omega)]
        exact hu
      rw [← e1, ← ht, List.getElem?_take_of_lt hjl, Array.getElem?_toList]
    · rw [List.getElem?_take] at hc
      split at hc
      · exact hc
      · cases hc
    · rw [List.getElem?_take] at hl
      split at hl
      · exact hl
      · cases hl
end
end Go.Proofs.YtnjcifppkijanaaGreatDoor
namespace Go.Proofs.YtnjcifppkijanaaGreatDoor
open Go Go.RowKit Go.Shelf
/-- Between two rounds of DeleteFunc: the first i of the row are what is kept of the first j. -/
structure CutAt {α : Type} (p : α → Bool) (l : List α) (i j : Nat) (r : List α) : Prop where
  len : r.length = l.length
  lt : i < j
  le : j ≤ l.length
  front : r.take i = (l.take j).filter fun x => !p x
  back : r.drop j = l.drop j
section
variable {α : Type} {p : α → Bool} {l r : List α} {i j k : Nat} {x : α}
theorem CutAt.start (hk : k < l.length) (hx : l[k]? = some x) (hp : p x = true) (ha : ∀ y ∈ l.take k, p y = false) : CutAt p l k (k + 1) l := by
  refine ⟨rfl, Nat.lt_succ_self k, hk, ?_, rfl⟩
  rw [take_snoc hx, List.filter_append, List.filter_eq_self.2 (fun y hy => by rw [ha y hy]; rfl)]
  simp [hp]
theorem CutAt.at (h : CutAt p l i j r) (hx : l[j]? = some x) : r[j]? = some x := by
  have := congrArg (fun z : List α => z[0]?) h.back
  simpa [List.getElem?_drop, hx] using this
theorem CutAt.keep (h : CutAt p l i j r) (hx : l[j]? = some x) (hp : p x = false) : CutAt p l (i + 1) (j + 1) (r.set i x) := by
  have hj : j < l.length := (List.getElem?_eq_some_iff.1 hx).1
  have hi : i < r.length := by have := h.len; have := h.lt; omega
  refine ⟨by rw [List.length_set]; exact h.len, Nat.succ_lt_succ h.lt, hj, ?_, ?_⟩
  · have e1 : (r.set i x)[i]? = some x := by rw [List.getElem?_set_self hi]
    rw [take_snoc e1, take_snoc hx, List.filter_append, ← h.front, List.take_set_of_le (Nat.le_refl i)]
    simp [hp]
  · rw [List.drop_set_of_lt (by have := h.lt; omega), ← List.drop_drop, h.back, List.drop_drop]
theorem CutAt.skip (h : CutAt p l i j r) (hx : l[j]? = some x) (hp : p x = true) : CutAt p l i (j + 1) r := by
  have hj : j < l.length := (List.getElem?_eq_some_iff.1 hx).1
  refine ⟨h.len, Nat.lt_succ_of_lt h.lt, hj, ?_, ?_⟩
  · rw [take_snoc hx, List.filter_append, ← h.front]
    simp [hp]
  · rw [← List.drop_drop, h.back, List.drop_drop]
end
/-- One struct of an owned row. -/
theorem OwnW.get {α : Type} {k : Nat} {R : Reads α} {t : TypeId} {w0 w : World} {base g n cap : Nat} {F : Nat → Prop} {l : List α} (h : OwnW k R t w0 w base F (.slice (some ⟨g, 0, none⟩) n cap) l) {i : Nat} {x : α} (hi : l[i]? = some x) :
    ∃ c : List Value, R w0 F c x ∧ c.length = k ∧ w.rangeAt g (i * k) c := by
  obtain ⟨cs, h1, h2, ⟨h3, ⟨e, _⟩ | ⟨g', cap', cur, e, hbg, hg, hn, hcm, hs, ht⟩⟩, h4⟩ := h
  · cases e
  · simp only [Value.slice.injEq, Option.some.injEq, Addr.mk.injEq, and_true, true_and] at e
    obtain ⟨rfl, rfl, rfl⟩ := e
    have hil := (List.getElem?_eq_some_iff.1 hi).1
    have hc : cs[i]? = some (cs[i]'(by omega)) := List.getElem?_eq_getElem _
    refine ⟨_, h4 i _ x hc hi, h2 _ (List.mem_of_getElem? hc), fun j v hv => ?_⟩
    have hj : j < k := by rw [← h2 _ (List.mem_of_getElem? hc)]; exact (List.getElem?_eq_some_iff.1 hv).1
    have hB : Blk w g t cur := Blk.mk hg
    have e1 : cs.flatten[i * k + j]? = some v := by rw [flatten_at h2 hc hj]; exact hv
    have hlt : i * k + j < l.length * k := by
      rw [← h3]
      exact (List.getElem?_eq_some_iff.1 e1).1
    rw [hB.cell, ← e1, ← ht, List.getElem?_take_of_lt hlt, Array.getElem?_toList]
theorem fiZero (w : World) : ∃ z : Value, (∀ w, (zeroValue 32).run Tryz.prog w = .ok z w) ∧ z.cells.size = 2 ∧ ∀ u ∈ z.cells.toList, u.oneCell' = true :=
  ⟨.agg #[.string ⟨#[]⟩, .slice none 0 0], fun w => by kernel_rfl, rfl, fun u hu => by
    have : u ∈ [Value.string ⟨#[]⟩, .slice none 0 0] := hu
    simp at this
    rcases this with rfl | rfl <;> rfl⟩
set_option maxHeartbeats 8000000 in
set_option maxRecDepth 100000 in
theorem deleteF_any (p : Ig.Fi → Bool) (g : Nat) (lb : Array Value) (eg : ∀ args w, (callFunc g args).run Tryz.prog w = .ok (.enter g args) w) (A : Option Addr) (n c : Nat) (l : List Ig.Fi) (w0 w : World) (h : OwnW 2 FiR 32 w0 w w0.heap.size All (.slice A n c) l) (hn : l.length = n) (hb : n ≤ 1000000000) (hw : Ext w0 w)
    (hp : ∀ (W : World) (c : List Value) (x : Ig.Fi), Ext w0 W → FiR W All c x → Calls Tryz.prog g (#[.agg c.toArray] ++ lb) W (Ret (.bool (p x)) W)) :
    Calls Tryz.prog 24 #[.slice A n c, .func (.func g) #[] lb] w fun e w' => ∃ A' n' c', e = .returned (.slice A' n' c') ∧ (l.filter fun x => !p x).length = n' ∧ n' ≤ c' ∧ Fis w' All A' (l.filter fun x => !p x) ∧ Ext w0 w' := by
  obtain ⟨A2, c2, e2, hc2, hsl⟩ := h.sls FiR.steadfast hw
  obtain ⟨rfl, -, rfl⟩ : A = A2 ∧ n = l.length ∧ c = c2 := by simpa using e2
  have HI := Lib.hid (firstF_any p g lb eg A n c l w0 w hsl hn hb hw hp)
  have HSL := Lib.hid hsl
  have HOW := Lib.hid h
  have HN := Lib.hid hn
  have HW := Lib.hid hw
  have HP := Lib.hid hp
  have hnc : n ≤ c := by omega
  clear hsl h hn e2 hc2 hw hp
  go_enter Tryz.func24, Tryz.ntmps24
  go_wp2_with fail
  refine HI.out.mono ?_
  rintro e w1 ⟨i0, rfl, hfa, hx1⟩
  have HX1 := Lib.hid hx1
  clear hx1 HI
  rcases hfa with ⟨rfl, hall⟩ | ⟨k, rfl, hk, ⟨x, hx, hpx⟩, hall⟩
  · have HFL : Hid ((l.filter fun x => !p x) = l) := Lib.hid (List.filter_eq_self.2 fun y hy => by rw [hall y hy]; rfl)
    clear hall
    go_wp2_with fail
    go_ret
    rw [HFL.out]
    exact ⟨A, n, c, rfl, HN.out, hnc, Sls.ext FiR.steadfast HSL.out HX1.out, HW.out.trans HX1.out⟩
  · have HC := Lib.hid (CutAt.start hk hx hpx hall)
    have hk0 : k < n := by rw [← HN.out]; exact hk
    have hne1 : ((k : Int) == -1) = false := beq_eq_false_iff_ne.2 (by omega)
    obtain ⟨gb, c3, cur, e3, hgb, -⟩ := HOW.out.has (by omega)
    obtain ⟨rfl, -, rfl⟩ : A = some ⟨gb, 0, none⟩ ∧ n = l.length ∧ c = c3 := by simpa using e3
    clear hall hx hpx hk e3 HSL
    have HOW1 := Lib.hid (HOW.out.ext HX1.out)
    have HX0 := Lib.hid (HW.out.trans HX1.out)
    clear HOW HX1
    go_wp2_with fail
    go_loopw [5, 6, 7] (fun s5 s6 _ wr => ∃ (i j : Nat) (r : List Ig.Fi), s5 = .int .i64 i ∧ s6 = .int .i64 j ∧ j ≤ n ∧ i < n ∧ i < j ∧ Hid (CutAt p l i j r) ∧ Hid (OwnW 2 FiR 32 w0 wr w0.heap.size All (.slice (some ⟨gb, 0, none⟩) n c) r) ∧ Hid (Ext w0 wr)) (fun _ u _ _ => n - (intOf u).toNat)
    case atStart => exact ⟨k, k + 1, l, rfl, rfl, hk0, hk0, Nat.lt_succ_self k, HC, HOW1, HX0⟩
    case round =>
      clear HC HOW1 HX0 hk0 hne1
      rename World => wo
      obtain ⟨i, j, r, rfl, rfl, hj, hin, hij, HC, HO, HX⟩ := hrel
      by_cases hlt : j < n
      · have hjl : j < l.length := by rw [HN.out]; exact hlt
        obtain ⟨x, hx⟩ : ∃ x, l[j]? = some x := ⟨_, List.getElem?_eq_getElem hjl⟩
        have hrx := HC.out.at hx
        obtain ⟨cs5, ⟨A', n', m', rfl, hrest⟩, -, hr⟩ := HO.out.get hrx
        have q0 : wo.cell? ⟨gb, j * 2, none⟩ = some (.string x.dir) := hr 0 _ rfl
        have q1 : wo.cell? ⟨gb, j * 2 + 1, none⟩ = some (.slice A' n' m') := hr 1 _ rfl
        have HFR : Hid (FiR w0 All [.string x.dir, .slice A' n' m'] x) := Lib.hid ⟨A', n', m', rfl, hrest⟩
        clear hr hrest hrx
        have HXJ := Lib.hid hx
        clear hx hjl
        obtain ⟨px, hpx⟩ : ∃ b, b = p x := ⟨_, rfl⟩
        have HPX := Lib.hid hpx.symm
        have HXA := Lib.hid (HX.out.alloc (.cells #[.string x.dir, .slice A' n' m'] 32))
        have HCA : Hid (Calls Tryz.prog g (#[.agg #[.string x.dir, .slice A' n' m']] ++ lb) (wo.alloc (.cells #[.string x.dir, .slice A' n' m'] 32)) (Ret (.bool px) (wo.alloc (.cells #[.string x.dir, .slice A' n' m'] 32)))) := Lib.hid (by
          rw [hpx]
          exact HP.out _ [.string x.dir, .slice A' n' m'] x HXA.out (FiR.steadfast.ext HFR.out HXA.out))
        clear hpx
        go_wp2_with fail
        refine HCA.out.mono ?_
        rintro e w2 ⟨rfl, hx2⟩
        have HX2 := Lib.hid (HXA.out.trans hx2)
        have HO2 := Lib.hid (HO.out.ext (((Ext.refl wo).alloc _).trans hx2))
        have HBX := Lib.hid (Blk.ext hx2 (Blk.new' (w := wo) (g := wo.heap.size) (cs := #[.string x.dir, .slice A' n' m']) (t := 32) rfl))
        clear hx2 HXA HCA q0 q1
        cases px with
        | true =>
          have HC2 := Lib.hid (HC.out.skip HXJ.out HPX.out)
          go_wp2_with fail
          go_roundw
          case rel => exact ⟨i, j + 1, r, rfl, rfl, hlt, hin, by omega, HC2, HO2, HX2⟩
          case measure => simp [intOf]; omega
        | false =>
          have HC2 := Lib.hid (HC.out.keep HXJ.out HPX.out)
          obtain ⟨hcx, hfx, hlx⟩ := HBX.out.all
          obtain ⟨g6, c6, cur6, e6, -, -, -, hB, hcs⟩ := HO2.out.has (by have := HC.out.len; have := HN.out; omega)
          obtain ⟨rfl, -, -⟩ : gb = g6 ∧ n = r.length ∧ c = c6 := by simpa using e6
          have hrl : r.length = n := by rw [HC.out.len, HN.out]
          rw [hrl] at hcs
          obtain ⟨v0, s0⟩ : ∃ v, w2.cell? ⟨gb, i * 2, none⟩ = some v := ⟨_, by rw [hB.cell]; exact Array.getElem?_eq_getElem (by omega)⟩
          have f0 : w2.frozen? ⟨gb, i * 2, none⟩ = false := hB.frozen _
          have hB2 := hB.set_ (i * 2) (.string x.dir)
          obtain ⟨v1, s1⟩ : ∃ v, (w2.setCell ⟨gb, i * 2, none⟩ (.string x.dir)).cell? ⟨gb, i * 2 + 1, none⟩ = some v := ⟨_, by rw [hB2.cell]; exact Array.getElem?_eq_getElem (by simp; omega)⟩
          have f1 : (w2.setCell ⟨gb, i * 2, none⟩ (.string x.dir)).frozen? ⟨gb, i * 2 + 1, none⟩ = false := hB2.frozen _
          have HOP : Hid (OwnW 2 FiR 32 w0 ((w2.setCell ⟨gb, i * 2, none⟩ (.string x.dir)).setCell ⟨gb, i * 2 + 1, none⟩ (.slice A' n' m')) w0.heap.size All (.slice (some ⟨gb, 0, none⟩) n c) (r.set i x)) := Lib.hid (by
            have hp := HO2.out.put (i := i) (by omega) (c := [.string x.dir, .slice A' n' m']) (x := x) rfl HFR.out
            exact hp)
          have HXP : Hid (Ext w0 ((w2.setCell ⟨gb, i * 2, none⟩ (.string x.dir)).setCell ⟨gb, i * 2 + 1, none⟩ (.slice A' n' m'))) := Lib.hid (Ext.setCell (p := ⟨gb, i * 2 + 1, none⟩) (Ext.setCell (p := ⟨gb, i * 2, none⟩) HX2.out hgb _) hgb _)
          clear e6 hB hcs hB2 HO2 HX2
          go_wp2_with fail
          go_roundw
          case rel => exact ⟨i + 1, j + 1, r.set i x, rfl, rfl, hlt, by omega, by omega, HC2, HOP, HXP⟩
          case measure => simp [intOf]; omega
      · obtain rfl : j = n := by omega
        have hnlt : ¬ ((j : Int) < (j : Int)) := by omega
        obtain ⟨z, hz1, hz2, hz3⟩ := fiZero w
        have hl : r.length = j := by rw [HC.out.len, HN.out]
        have hi : i ≤ r.length := by omega
        have HFR : Hid (r.take i = l.filter fun x => !p x) := Lib.hid (by have := HC.out.front; rwa [← HN.out, List.take_length] at this)
        obtain ⟨g6, c6, cur9, e6, -, -, -, hB, hcs⟩ := HO.out.has (by omega)
        rw [hl] at hcs
        obtain ⟨rfl, -, rfl⟩ : gb = g6 ∧ j = r.length ∧ c = c6 := by simpa using e6
        have hci : ¬ (c = i) := by omega
        have hci2 : ¬ (c - i = 0) := by omega
        obtain ⟨vs, hvs, hcl⟩ := run_clear_w 29 32 Tryz.underlying29 z hz1 2 hz2 (by decide) hz3 gb (i * 2) (j - i) (c - i) (by omega) hB (by omega)
        have HI := Lib.hid hi
        clear e6 hl hi hz1 hz2 hz3 hB hcs hvs
        obtain ⟨hxe, hse⟩ := HO.out.cut FiR.steadfast HX.out (Nat.le_refl _) HI.out vs
        have HXE := Lib.hid hxe
        have HSE := Lib.hid hse
        clear hxe hse
        generalize wo.setCells gb (i * 2) vs = we at HXE HSE hcl
        go_wp2_with fail
        go_ret
        rw [← HFR.out]
        exact ⟨_, i, c, rfl, by rw [List.length_take]; exact Nat.min_eq_left HI.out, by omega, HSE.out, HXE.out⟩
end Go.Proofs.YtnjcifppkijanaaGreatDoor
namespace Go.Proofs.YtnjcifppkijanaaGreatDoor
open Go Go.RowKit Go.Shelf

section
variable {P : Program} {ops : Array Oper} {Q : Exit → Act → World → Prop}
theorem wpList_append_zeroN {w : World} {rest : List Oper} {o : Oper} {a : Act} (hgd : o.guard = none) (s x : Operand) (t : TypeId)
    (ho : o.op = .call { callee := .builtin .append, args := #[s, x], argTypes := #[t, t] })
    (base : Nat) (e : TypeId) (i : TypeInfo) (size : Nat) (ht : P.underlying t = some (.slice e)) (hi : P.info? e = some i)
    (v : Value) (n : Nat) (xs : List Value) (hs : a.eval s = v) (hown : w.ownsRow base e size v n xs) (ad : Addr) (c : Nat) (hx : a.eval x = .slice (some ad) 0 c)
    (h : wpList P ops Q rest (a.put o.dst v) w) : wpList P ops Q (o :: rest) a w := by
  refine wpList_plain hgd fun K hK => ?_
  have hrun := run_append_zeroN (P := P) (w := w) base t o.type e i size ht hi v n xs hown ad c
  unfold Oper.wp
  simp [execOp, ho, resolve, invoke, builtin, hs, hx, hrun, Result.andThen]
  exact hK _ _ h
end
theorem fclone_info : (Tryz.prog.info? 32).map (fun i => (i.size, i.bytes, i.zero.map fun z => z.cells.size)) = some (2, 40, some 2) := by kernel_rfl
set_option maxRecDepth 100000 in
theorem fclone_empty (ad : Addr) (c : Nat) (w0 w : World) {F : Nat → Prop} : Calls Tryz.prog 25 #[.slice (some ad) 0 c] w (fun e w' => ∃ v', e = .returned v' ∧ OwnW 2 FiR 32 w0 w' w.heap.size F v' [] ∧ Ext w w') := by
  obtain ⟨i0, hi⟩ : ∃ i0, Tryz.prog.info? 32 = some i0 := by
    cases hq : Tryz.prog.info? 32 with
    | none => have := fclone_info; rw [hq] at this; cases this
    | some i0 => exact ⟨i0, rfl⟩
  have hi2 := fclone_info
  rw [hi] at hi2
  simp only [Option.map_some, Option.some.injEq, Prod.mk.injEq] at hi2
  have hown : (w.alloc (.cells #[] 32)).ownsRow w.heap.size 32 2 (.slice (some ⟨w.heap.size, 0, none⟩) 0 0) 0 [] := ⟨rfl, .inr ⟨w.heap.size, 0, #[], rfl, Nat.le_refl _, (Blk.new' rfl).eq, Nat.le_refl _, Nat.zero_le _, rfl, rfl⟩⟩
  have hq22 : ∀ (w : World) (a : Option Addr) (n c n' c' : Nat), (binOp .eql 29 (.slice a n c) (.slice none n' c')).run Tryz.prog w = .ok (.bool a.isNone) w := fun w a n c n' c' => Lib.run_eql_slice_nil w _ _ a n c n' c' Tryz.underlying29
  have HOW := Lib.hid hown
  clear hown
  go_enter Tryz.func25, Tryz.ntmps25
  have hx := Ext.refl w
  go_wp2_with (at_builtin; refine wpList_append_zeroN rfl _ _ 29 rfl w.heap.size 32 i0 2 Tryz.underlying29 hi _ 0 [] rfl HOW.out ad c rfl ?_)
  go_ret
  exact ⟨_, rfl, ⟨[], rfl, by simp, HOW.out, fun i c x h => by simp at h⟩, EX⟩
theorem fclone_any (A : Option Addr) (n c : Nat) (l : List _) (w0 w : World) {F : Nat → Prop} (h : Fis w0 F A l) (hw : Ext w0 w) (hn : l.length = n) (hb : n ≤ 1000000000) :
    Calls Tryz.prog 25 #[.slice A n c] w (fun e w' => ∃ v', e = .returned v' ∧ OwnW 2 FiR 32 w0 w' w.heap.size F v' l ∧ Ext w w') := by
  obtain ⟨cs, h1, h2, h3, h4⟩ := h
  by_cases h0 : n = 0
  · subst h0
    obtain rfl : l = [] := List.length_eq_zero_iff.1 hn
    cases A with
    | none =>
      refine (AnyE.slices_Clone_nil Tryz.laysCloneF 0 c w).mono ?_
      rintro e w' ⟨rfl, rfl⟩
      exact ⟨_, rfl, ⟨[], rfl, by simp, ⟨rfl, .inl ⟨rfl, rfl⟩⟩, fun i c x h => by simp at h⟩, Ext.refl _⟩
    | some ad => exact fclone_empty ad c w0 w
  obtain ⟨b, o, rfl, _, _, _⟩ := h3 (by omega)
  · obtain ⟨i0, hi⟩ : ∃ i0, Tryz.prog.info? 32 = some i0 := by
      cases hq : Tryz.prog.info? 32 with
      | none => have := fclone_info; rw [hq] at this; cases this
      | some i0 => exact ⟨i0, rfl⟩
    have hi2 := fclone_info
    rw [hi] at hi2
    simp only [Option.map_some, Option.some.injEq, Prod.mk.injEq] at hi2
    obtain ⟨hs, hby, hz⟩ := hi2
    obtain ⟨z, hz0, hz1⟩ : ∃ z, i0.zero = some z ∧ z.cells.size = 2 := by
      cases hq : i0.zero with
      | none => rw [hq] at hz; cases hz
      | some z => rw [hq] at hz; exact ⟨z, rfl, by simpa using hz⟩
    have hsz : ∀ W, (Go.sizeOf 32).run Tryz.prog W = .ok 2 W := fun W => by kernel_rfl
    have hone := flat_one' (R := FiR) (fun h => FiR.one h) h1 h4
    refine (AnyE.slices_Clone Tryz.laysCloneF i0 z 2 40 hi hz0 hs hby hz1 (by decide) hsz b o n c cs.flatten w (by rw [flatten_len h2, h1, hn]) (by unfold maxLen; omega) (by omega) (fun j u hj => ?_) hone).mono ?_
    · rcases Nat.eq_zero_or_pos n with h0 | h0
      · have : cs = [] := List.length_eq_zero_iff.1 (by omega)
        subst this
        simp at hj
      · obtain ⟨b', o', e, hbl, _, hr⟩ := h3 (by omega)
        obtain ⟨rfl, rfl⟩ : b = b' ∧ o = o' := by simpa using e
        rw [← hr j u hj]
        exact hw.cell (p := ⟨b, _, none⟩) hbl
    · rintro e w' ⟨v', rfl, hown, _, hx⟩
      subst hn
      exact ⟨v', rfl, ⟨cs, h1, h2, hown, h4⟩, hx⟩

set_option maxHeartbeats 8000000 in
set_option maxRecDepth 100000 in
theorem elsewhere_walk (A : Option Addr) (n c : Nat) (l : List Ig.Fi) (path : ByteArray) (dir : Bool) (w : World) (hg : Glob w) (h : Fis w All A l) (hn : l.length = n) (hb : n ≤ 4611686018427387904) (hrl : ∀ f ∈ l, f.rules.length ≤ 4611686018427387904) :
    Calls Tryz.prog 7 #[.slice A n c, .string path, .bool dir] w (Ret (.bool true) w) := by
  have HG := Lib.hid hg
  have HL := Lib.hid h
  have HN := Lib.hid hn
  have HGR : Hid (∀ W, Ext w W → Calls Tryz.prog 15 #[.slice A n c] W (Ret (.bool (Ig.great l)) W)) := Lib.hid fun W hW => great39_any A n c l W (Sls.ext FiR.steadfast h hW) hn hb hrl
  obtain ⟨gr, hgr⟩ : ∃ gr, gr = Ig.great l := ⟨_, rfl⟩
  rw [← hgr] at HGR
  have HE := Lib.hid hgr
  have HAW : Hid (∀ W, Ext w W → Calls Tryz.prog 11 #[] W (Ret (.bool true) W)) := Lib.hid fun W hW => awake39_any W (HG.out.ext hW)
  have hx := Ext.refl w
  have HX0 := Lib.hid (hx.alloc (.cells #[.string path] 9))
  have HB0 := Lib.hid (Blk.new' (w := w) (g := w.heap.size) (cs := #[.string path]) (t := 9) rfl)
  clear h hn hg hgr hrl hx
  go_enter Tryz.func7, Tryz.ntmps7
  go_wp2_with fail
  refine (HGR.out _ HX0.out).mono ?_
  rintro e w1 ⟨rfl, hx0⟩
  have HX1 := Lib.hid (HX0.out.trans hx0)
  have HB1 := Lib.hid (Blk.ext hx0 HB0.out)
  clear hx0 HGR HX0 HB0
  obtain ⟨hcb, hfb, hlb⟩ := HB1.out.all
  cases gr with
  | true =>
    go_wp2_with fail
    refine (HAW.out _ HX1.out).mono ?_
    rintro e w2 ⟨rfl, hx0⟩
    have HX2 := Lib.hid (HX1.out.trans hx0)
    clear hx0
    go_wp2_with fail
    go_ret
    exact ⟨rfl, HX2.out⟩
  | false =>
    have hn1 : n ≤ 5 := by rw [← HN.out]; exact (Ig.great_false HE.out.symm).1
    have HF := Lib.hid (Ig.great_false HE.out.symm).2
    by_cases hps : 100 < path.size
    · have hps2 : (100 : Int) < (path.size : Int) := by omega
      go_wp2_with fail
      refine (HAW.out _ HX1.out).mono ?_
      rintro e w2 ⟨rfl, hx0⟩
      have HX2 := Lib.hid (HX1.out.trans hx0)
      clear hx0
      go_wp2_with fail
      go_ret
      exact ⟨rfl, HX2.out⟩
    · have hps2 : ¬ ((100 : Int) < (path.size : Int)) := by omega
      have HCH := Lib.hid (icheck_any A n c l w1 (Sls.ext FiR.steadfast HL.out HX1.out) HN.out (by omega) HF.out (HG.out.ext HX1.out))
      obtain ⟨fc, hfc⟩ : ∃ z, z = Ig.fcheck l := ⟨_, rfl⟩
      rw [← hfc] at HCH
      have HFC := Lib.hid hfc
      clear hfc
      go_wp2_with fail
      refine HCH.out.mono ?_
      rintro e w2 ⟨rfl, hx0⟩
      have HX2 := Lib.hid (HX1.out.trans hx0)
      have HB2 := Lib.hid (Blk.ext hx0 HB1.out)
      clear hx0 HCH HX1 HB1 hcb hfb hlb
      cases hz : (fc != 0) with
      | true =>
        go_wp2_with fail
        refine (HAW.out _ HX2.out).mono ?_
        rintro e w3 ⟨rfl, hx0⟩
        have HX3 := Lib.hid (HX2.out.trans hx0)
        clear hx0
        go_wp2_with fail
        go_ret
        exact ⟨rfl, HX3.out⟩
      | false =>
        obtain rfl : fc = 0 := by simpa using hz
        have HCL := Lib.hid (fclone_any A n c l w2 w2 (Sls.ext FiR.steadfast HL.out HX2.out) (Ext.refl _) HN.out (by omega))
        go_wp2_with fail
        refine HCL.out.mono ?_
        rintro e w3 ⟨v', rfl, hown, hx3⟩
        obtain ⟨A3, c3, e3, hc3, _⟩ := hown.sls FiR.steadfast hx3
        subst e3
        have HOW := Lib.hid hown
        rw [HN.out] at HOW hc3
        have HX3 := Lib.hid hx3
        have HDE := Lib.hid (deleteF_any (fun x => !Ig.within (Ig.L path) x) 26 #[.pointer (some ⟨w.heap.size, 0, none⟩)] (enters_of Tryz.func26 (by kernel_rfl) rfl) A3 n c3 l w2 w3 HOW.out HN.out (by omega) HX3.out
          (fun W cc x hW hx => els1_any path (by omega) w.heap.size W cc x hx (Blk.ext hW HB2.out)))
        have HFL : Hid ((l.filter fun x => !!Ig.within (Ig.L path) x) = l.filter (Ig.within (Ig.L path))) := Lib.hid (by simp)
        rw [HFL.out] at HDE
        clear hown hx3 HCL HFL HOW
        simp only [HN.out]
        go_wp2_with fail
        refine HDE.out.mono ?_
        rintro e w4 ⟨A4, n4, c4, rfl, hn4, hc4, hfi4, hx4⟩
        have HX4 := Lib.hid (HX2.out.trans hx4)
        have HB4 := Lib.hid (Blk.ext hx4 HB2.out)
        have HL4 := Lib.hid hfi4
        have HN4 := Lib.hid hn4
        have hn4' : n4 ≤ 5 := by rw [← hn4]; exact Nat.le_trans (List.length_filter_le _ _) (by rw [HN.out]; exact hn1)
        have HF4 : Hid (Ig.Fits (l.filter (Ig.within (Ig.L path)))) := Lib.hid ⟨fun f hf => HF.out.dirs f (List.mem_filter.1 hf).1, fun f hf => HF.out.rules f (List.mem_filter.1 hf).1⟩
        obtain ⟨iv, hiv⟩ : ∃ z, z = Ig.Ignored l path dir := ⟨_, rfl⟩
        have HI1 : Hid (∀ W, Ext w W → Calls Tryz.prog 23 #[.slice A n c, .string path, .bool dir] W (Ret (.bool iv) W)) := Lib.hid fun W hW => by
          rw [hiv]
          exact Ignored_any A n c l path dir W HN.out (by omega) (Sls.ext FiR.steadfast HL.out hW) HF.out (by omega) (HG.out.ext hW)
        have HI2 : Hid (∀ W, Ext w4 W → Calls Tryz.prog 23 #[.slice A4 n4 c4, .string path, .bool dir] W (Ret (.bool iv) W)) := Lib.hid fun W hW => by
          rw [hiv, Ig.elsewhere_law HFC.out.symm]
          exact Ignored_any A4 n4 c4 _ path dir W HN4.out (by omega) (Sls.ext FiR.steadfast HL4.out hW) HF4.out (by omega) (HG.out.ext (HX4.out.trans hW))
        clear hiv hx4 hn4 hc4 hfi4 HDE HB2 HX2 HX3 HF4 HN4 HL4 HFC HF HL HN HE
        go_wp2_with fail
        refine wp_region_noPanic (wp_region_held_drew (S := fun w' => Ext w4 w') (by kernel_rfl) (Ext.refl w4).drew1 (fun hv => ?_))
        generalize w4.drew = v0 at hv ⊢
        refine tf (i := 0) (v := .slice A n c) rfl rfl (fun _ => rfl) hv ?_
        try simp only [Act.put, sA, s0, sS]
        refine take_any (i := 1) (v := .string path) rfl rfl (by kernel_rfl) (by kernel_rfl) (by kernel_rfl) (.inl ⟨(by kernel_rfl), fun W' hW' => ?ld1⟩) hv ?_
        case ld1 =>
          have hcx := (Blk.ext hW' HB4.out).cell 0
          go_simp
        try simp only [Act.put, sA, s0, sS]
        refine tf (i := 2) (v := .bool dir) rfl rfl (fun _ => rfl) hv ?_
        try simp only [Act.put, sA, s0, sS]
        refine tf (i := 4) (v := .slice A4 n4 c4) rfl rfl (fun _ => rfl) hv ?_
        try simp only [Act.put, sA, s0, sS]
        refine take_any (i := 5) (v := .string path) rfl rfl (by kernel_rfl) (by kernel_rfl) (by kernel_rfl) (.inl ⟨(by kernel_rfl), fun W' hW' => ?ld2⟩) hv ?_
        case ld2 =>
          have hcx := (Blk.ext hW' HB4.out).cell 0
          go_simp
        try simp only [Act.put, sA, s0, sS]
        refine tf (i := 6) (v := .bool dir) rfl rfl (fun _ => rfl) hv ?_
        try simp only [Act.put, sA, s0, sS]
        refine wpAnyH_one (i := 3) (by kernel_rfl) rfl (by kernel_rfl) ?_
        go_simp
        refine (HI1.out _ (HX4.out.trans hv)).mono ?_
        rintro e x1 ⟨rfl, hx0⟩
        have hv2 := hv.trans hx0
        refine ⟨hv2, ?_⟩
        try simp only [Act.put, sA, s0, sS]
        clear hv hx0
        refine wpAnyH_one (i := 7) (by kernel_rfl) rfl (by kernel_rfl) ?_
        go_simp
        refine (HI2.out _ hv2).mono ?_
        rintro e x2 ⟨rfl, hx0⟩
        have hv := hv2.trans hx0
        refine ⟨hv, ?_⟩
        try simp only [Act.put, sA, s0, sS]
        clear hv2 hx0
        refine tf (i := 8) (v := .bool true) rfl rfl (fun _ => ?eq1) hv ?_
        case eq1 => cases iv <;> rfl
        try simp only [Act.put, sA, s0, sS]
        refine tf (i := 9) (v := .bool true) rfl rfl (fun _ => rfl) hv ?_
        try simp only [Act.put, sA, s0, sS]
        refine wpAnyH_one (i := 10) (by kernel_rfl) rfl (by kernel_rfl) ?_
        go_simp
        refine (HAW.out _ (HX4.out.trans hv)).mono ?_
        rintro e x3 ⟨rfl, hx0⟩
        have hv2 := hv.trans hx0
        refine ⟨hv2, ?_⟩
        try simp only [Act.put, sA, s0, sS]
        clear hv hx0
        refine tf (i := 11) (v := .bool true) rfl rfl (fun _ => rfl) hv2 ?_
        try simp only [Act.put, sA, s0, sS]
        refine tf (i := 12) (v := .bool true) rfl rfl (fun _ => rfl) hv2 ?_
        try simp only [Act.put, sA, s0, sS]
        refine wpAnyH_done (by kernel_rfl) (NoPanic.normal ?_) _
        have HXE := Lib.hid (HX4.out.trans hv2)
        clear hv2
        go_wp2_with fail
        go_ret
        exact ⟨rfl, HXE.out⟩
end Go.Proofs.YtnjcifppkijanaaGreatDoor
namespace Go.Proofs.YtnjcifppkijanaaGreatDoor
open Go Go.RowKit Go.Lib
namespace Ic
/-- The two cells of a file of rules. -/
structure El where
  a : Value
  b : Value
  ha : a.oneCell' = true
  hb : b.oneCell' = true
def El.arr (f : El) : Array Value := #[f.a, f.b]
def El.zero : El := ⟨.string ⟨#[]⟩, .slice none 0 0, rfl, rfl⟩
def fl : List El → List Value
  | [] => []
  | f :: r => f.arr.toList ++ fl r
theorem fl_append (a b : List El) : fl (a ++ b) = fl a ++ fl b := by
  induction a with
  | nil => rfl
  | cons f a ih => rw [List.cons_append, fl, fl, ih, List.append_assoc]
theorem fl_length (l : List El) : (fl l).length = l.length * 2 := by
  induction l with
  | nil => rfl
  | cons f l ih =>
    rw [fl, List.length_append, ih, List.length_cons]
    simp [El.arr]
    omega
theorem fl_one {l : List El} : ∀ u ∈ fl l, u.oneCell' = true := by
  induction l with
  | nil => intro u hu; cases hu
  | cons f l ih =>
    intro u hu
    rw [fl, List.mem_append] at hu
    rcases hu with hu | hu
    · simp [El.arr] at hu
      rcases hu with rfl | rfl
      · exact f.ha
      · exact f.hb
    · exact ih u hu
theorem fl_get : ∀ {l : List El} {i : Nat} {f : El}, l[i]? = some f → ∀ {j : Nat}, j < 2 → (fl l)[i * 2 + j]? = f.arr.toList[j]?
  | [], i, f, h, _, _ => by simp at h
  | x :: l, 0, f, h, j, hj => by
    obtain rfl : x = f := by simpa using h
    rw [fl, Nat.zero_mul, Nat.zero_add, List.getElem?_append_left (by simpa [El.arr] using hj)]
  | x :: l, i + 1, f, h, j, hj => by
    have e : (i + 1) * 2 + j = 2 + (i * 2 + j) := by omega
    rw [fl, e, List.getElem?_append_right (by simp [El.arr])]
    have : 2 + (i * 2 + j) - x.arr.toList.length = i * 2 + j := by simp [El.arr]
    rw [this]
    exact fl_get (by simpa using h) hj
theorem Blk.conv' {w : World} {g : Nat} {t : TypeId} {cs cs' : Array Value} (h : Blk w g t cs) (e : cs = cs') : Blk w g t cs' := e ▸ h
/-- Block g holds l. -/
def OwnT (W : World) (g : Nat) (l : List El) : Prop := ∃ post : List Value, Blk W g 32 (fl l ++ post).toArray
theorem OwnT.lt {W : World} {g : Nat} {l : List El} (h : OwnT W g l) : g < W.heap.size := by
  obtain ⟨_, h⟩ := h
  exact h.lt
theorem OwnT.free {W : World} {g : Nat} {l : List El} (h : OwnT W g l) (o : Nat) : W.frozen? ⟨g, o, none⟩ = false := by
  obtain ⟨_, h⟩ := h
  exact h.frozen o
/-- A stretch in the midst of a block is written over. -/
theorem midT {g : Nat} {t : TypeId} : ∀ (vs cs pre post : List Value) (w : World), vs.length = cs.length → Blk w g t (pre ++ (cs ++ post)).toArray → Blk (w.setCells g pre.length vs) g t (pre ++ (vs ++ post)).toArray
  | [], [], pre, post, w, _, h => h
  | [], _ :: _, _, _, _, e, _ => nomatch e
  | _ :: _, [], _, _, _, e, _ => nomatch e
  | v :: vs, c :: cs, pre, post, w, e, h => by
    have h1 := h.set_ pre.length v
    have e1 : (pre ++ (c :: cs ++ post)).toArray.setIfInBounds pre.length v = ((pre ++ [v]) ++ (cs ++ post)).toArray := by simp
    rw [e1] at h1
    have h2 := midT vs cs (pre ++ [v]) post _ (by simpa using e) h1
    have e2 : (pre ++ [v]).length = pre.length + 1 := by simp
    rw [e2] at h2
    have e3 : (pre ++ (v :: vs ++ post)).toArray = ((pre ++ [v]) ++ (vs ++ post)).toArray := by simp
    rw [e3]
    exact h2
theorem sizeAll (g : Nat) : ∀ (vs : List Value) (o : Nat) (w : World), (w.setCells g o vs).heap.size = w.heap.size
  | [], _, _ => rfl
  | v :: vs, o, w => by
    show ((w.setCell ⟨g, o, none⟩ v).setCells g (o + 1) vs).heap.size = _
    rw [sizeAll g vs]
    simp
/-- Nothing but block g has turned. -/
structure Kg (g : Nat) (w w' : World) : Prop where
  ext : ∀ w0, Ext w0 w → w0.heap.size ≤ g → Ext w0 w'
  blk : ∀ g' t cs, Blk w g' t cs → g' ≠ g → Blk w' g' t cs
  size : w.heap.size ≤ w'.heap.size
theorem Kg.refl (g : Nat) (w : World) : Kg g w w := ⟨fun _ h _ => h, fun _ _ _ h _ => h, Nat.le_refl _⟩
theorem Kg.of_ext {g : Nat} {w w' : World} (h : Ext w w') : Kg g w w' := ⟨fun _ k _ => k.trans h, fun _ _ _ k _ => Blk.ext h k, h.size_le⟩
theorem Kg.trans {g : Nat} {a b c : World} (h : Kg g a b) (k : Kg g b c) : Kg g a c :=
  ⟨fun w0 h0 hg => k.ext w0 (h.ext w0 h0 hg) hg, fun g' t cs hb hn => k.blk g' t cs (h.blk g' t cs hb hn) hn, Nat.le_trans h.size k.size⟩
theorem Kg.set (g : Nat) (w : World) (o : Nat) (vs : List Value) : Kg g w (w.setCells g o vs) :=
  ⟨fun w0 h hg => Ext.setAll hg vs o _ h, fun g' t cs hb hn => Blk.farAll (w := w) hn vs o _ hb, by rw [sizeAll]; exact Nat.le_refl _⟩

/-- Block g holds the files of l, and has room for c files in all. -/
def OwnC (W : World) (g : Nat) (l : List El) (c : Nat) : Prop := ∃ post : List Value, Blk W g 32 (fl l ++ post).toArray ∧ l.length * 2 + post.length = c * 2
theorem OwnC.own {W : World} {g c : Nat} {l : List El} (h : OwnC W g l c) : OwnT W g l := h.imp fun _ h => h.1
theorem OwnC.le {W : World} {g c : Nat} {l : List El} (h : OwnC W g l c) : l.length ≤ c := by
  obtain ⟨_, _, e⟩ := h
  omega
theorem OwnC.ext {W W' : World} {g c : Nat} {l : List El} (h : OwnC W g l c) (hx : Ext W W') : OwnC W' g l c := by
  obtain ⟨post, h, e⟩ := h
  exact ⟨post, h.ext hx, e⟩
theorem OwnC.cut {W : World} {g c : Nat} {a b : List El} (h : OwnC W g (a ++ b) c) : OwnC W g a c := by
  obtain ⟨post, h, e⟩ := h
  have hf := fl_length b
  refine ⟨fl b ++ post, ?_, by simp only [List.length_append] at *; omega⟩
  rwa [← List.append_assoc, ← fl_append]
/-- A stretch of files written over. -/
theorem OwnC.over {W : World} {g c : Nat} {a b d : List El} (h : OwnC W g (a ++ (b ++ d)) c) (b' : List El) (hb : b'.length = b.length) : OwnC (W.setCells g (a.length * 2) (fl b')) g (a ++ (b' ++ d)) c := by
  obtain ⟨post, h, e⟩ := h
  have h1 := fl_length a
  have h2 := fl_length b
  have h3 := fl_length b'
  have h4 := midT (fl b') (fl b) (fl a) (fl d ++ post) W (by omega) (Ic.Blk.conv' h (by simp [fl_append]))
  rw [h1] at h4
  refine ⟨post, Ic.Blk.conv' h4 (by simp [fl_append]), ?_⟩
  simp only [List.length_append] at *
  omega
def zf : Array Value := #[.string ⟨#[]⟩, .slice none 0 0]
theorem zeros_fl (m : Nat) : (Builtin.zeroCells zf m).toList = fl (List.replicate m El.zero) := by
  refine List.ext_getElem? fun i => ?_
  have hl : (fl (List.replicate m El.zero)).length = m * 2 := by rw [fl_length, List.length_replicate]
  have hz : zf.size = 2 := rfl
  by_cases hi : i < m * 2
  · have h1 : (List.replicate m El.zero)[i / 2]? = some El.zero := by rw [List.getElem?_replicate, if_pos (by omega)]
    have h3 := fl_get h1 (j := i % 2) (by omega)
    rw [show i / 2 * 2 + i % 2 = i by omega] at h3
    rw [h3]
    simp only [Builtin.zeroCells, hz, Array.toList_map, Array.toList_range, List.getElem?_map, List.getElem?_range hi, Option.map_some]
    rcases (show i % 2 = 0 ∨ i % 2 = 1 by omega) with e | e <;> rw [e] <;> rfl
  · rw [List.getElem?_eq_none (by simp [Builtin.zeroCells, hz]; omega), List.getElem?_eq_none (by omega)]
theorem Kg.of_grown {g : Nat} {w w' : World} (h : w.grownBy w' (some g)) : Kg g w w' :=
  ⟨fun w0 h0 hg => Below.grown h0 h h0.size_le (fun j e => by cases e; exact hg), fun g' t cs hb hn => (h.block g' hb.lt (fun e => hn (Option.some.inj e))).trans hb, h.size⟩
theorem Kg.drew (g : Nat) (w : World) : Kg g w w.drew := Kg.of_ext (Ext.refl w).drew1
theorem shapeB {w : World} {g : Nat} {t : TypeId} {cs : Array Value} (h : Blk w g t cs) : w.shape? g = some (t, cs.size) := by
  unfold World.shape?
  rw [h.eq]
/-- copy between two rows of files. -/
theorem run_copy_files (w : World) (dT sT ty : TypeId) (b o dLen dCap : Nat) (a : Addr) (sLen sCap : Nat) (l : List El)
    (hu : Tryz.prog.underlying dT = some (.slice 32)) (hn : l.length = Nat.min sLen dLen)
    (hsrc : ∀ j v, (fl l)[j]? = some v → w.cell? (a.add j) = some v) (hc : ∀ j, j < (fl l).length → (w.cell? ⟨b, o + j, none⟩).isSome = true) (hf : ∀ j, j < (fl l).length → w.frozen? ⟨b, o + j, none⟩ = false) :
    (Builtin.copy_ #[dT, sT] ty #[.slice (some ⟨b, o, none⟩) dLen dCap, .slice (some a) sLen sCap]).run Tryz.prog w = .ok (goInt l.length) (w.setCells b o (fl l)) := by
  have hl := run_loadCells_list (P := Tryz.prog) w a (fl l) hsrc
  have hst := run_storeCells_cells (P := Tryz.prog) b o (fl l) 0 w (by simpa using hc) (by simpa using hf) fl_one
  obtain ⟨i0, hi0, hz0, hz1, hz2⟩ := info_parts (show (Tryz.prog.info? 32).map (fun i => (i.zero, i.size, i.bytes)) = some (some (.agg #[.string ⟨#[]⟩, .slice none 0 0]), 2, 40) by kernel_rfl)
  rw [fl_length] at hl
  simp [Builtin.copy_, run_underlying hu, Builtin.lenOf, Builtin.firstCells, sizeOf, typeInfo, hi0, hz1, ← hn, hl, hst]
/-- The second type of append plays no part, as long as it is a slice's. -/
theorem append_two {P : Program} {w : World} {t t' ty e e' : TypeId} {i : TypeInfo} {b : Option Addr} {n c : Nat} {u : Value} (ht : P.underlying t = some (.slice e)) (ht' : P.underlying t' = some (.slice e')) (hi : P.info? e = some i) : (Builtin.append_ #[t, t'] ty #[.slice b n c, u]).run P w = (Builtin.append_ #[t, t] ty #[.slice b n c, u]).run P w := by
  simp [Builtin.append_, run_underlying ht, run_underlying ht', sizeOf, typeInfo, hi]
theorem fl_sing (f : El) : fl [f] = f.arr.toList := rfl

set_option maxHeartbeats 8000000 in
set_option maxRecDepth 100000 in
theorem tinsert_end (g n c : Nat) (l : List El) (f : El) (vb : Nat) (w : World) (h : OwnC w g l c) (hn : l.length = n) (hb : n ≤ 1000000) (hc : c ≤ maxLen) (hv : Blk w vb 32 f.arr) :
    Calls Tryz.prog 65 #[.slice (some ⟨g, 0, none⟩) n c, .int .i64 n, .slice (some ⟨vb, 0, none⟩) 1 1] w fun e w' => ∃ g' c', e = .returned (.slice (some ⟨g', 0, none⟩) (n + 1) c') ∧ g ≤ g' ∧ Hid (OwnT w' g' (l ++ [f])) ∧ Hid (Kg g w w') := by
  obtain ⟨i0, hi0, hz0, hz1, hz2⟩ := info_parts (show (Tryz.prog.info? 32).map (fun i => (i.zero, i.size, i.bytes)) = some (some (.agg #[.string ⟨#[]⟩, .slice none 0 0]), 2, 40) by kernel_rfl)
  have hlc := h.le
  have hgl := h.own.lt
  have hown : w.ownsRow g 32 2 (.slice (some ⟨g, 0, none⟩) n c) n (fl l) := by
    obtain ⟨post, hB, e⟩ := h
    refine ⟨by rw [fl_length, hn], .inr ⟨g, c, _, rfl, Nat.le_refl _, hB.eq, by omega, hc, ?_, ?_⟩⟩
    · have := fl_length l
      simp
      omega
    · rw [List.take_left' (by rw [fl_length, hn])]
  have hcv : ∀ j u, (fl [f])[j]? = some u → w.cell? ⟨vb, 0 + j, none⟩ = some u := fun j u hj => by
    rw [hv.cell, Nat.zero_add]
    rw [fl_sing, Array.getElem?_toList] at hj
    exact hj
  have HO := Lib.hid hown
  have hcap : ∀ ty, ∃ v' w', (Builtin.append_ #[29, 29] ty #[.slice (some ⟨g, 0, none⟩) n c, .slice (some ⟨vb, 0, none⟩) 1 1]).run Tryz.prog w = .ok v' w' ∧ Hid (w'.ownsRow g 32 2 v' (n + 1) (fl l ++ fl [f])) ∧ Hid (w.grownBy w' (some g)) := fun ty => by
    obtain ⟨v', w', e1, e2, e3, _⟩ := run_append_own w g 29 ty 32 i0 _ 2 40 Tryz.underlying29 hi0 hz0 hz1 hz2 rfl (by decide) _ n _ hown ⟨vb, 0, none⟩ 1 1 (fl [f]) rfl (fun j u hj => by rw [Addr.add_lit]; exact hcv j u hj) fl_one (by unfold maxLen; omega) (by omega) (Nat.le_of_lt hgl)
    refine ⟨v', w', ?_, Lib.hid e2, Lib.hid e3⟩
    rw [append_two Tryz.underlying29 Tryz.underlying29 hi0]
    exact e1
  have HFL : Hid (fl l ++ fl [f] = fl (l ++ [f])) := Lib.hid (fl_append l [f]).symm
  clear h hown hcv hv HO hn
  obtain ⟨v', w', hr, HW, HG⟩ := hcap 29
  clear hcap
  by_cases hcn : c = n
  · subst hcn
    go_enter Tryz.func65, Tryz.ntmps65
    have hx := Ext.refl w
    go_wp2_with (at_builtin; refine Lib.wpList_append_run _ rfl _ _ _ _ rfl _ _ rfl rfl _ _ hr ?_)
    all_goals go_ret
    obtain ⟨_, h | ⟨g', cap, cur, rfl, h1, h2, h3, h4, h5, h6⟩⟩ := HW.out
    · exact absurd h.2 (Nat.succ_ne_zero _)
    · exact ⟨g', cap, rfl, h1, Lib.hid ⟨cur.toList.drop ((c + 1) * 2), by rw [← HFL.out, ← h6, List.take_append_drop]; exact Blk.mk h2⟩, Lib.hid (Kg.of_grown HG.out)⟩
  · skip
    go_enter Tryz.func65, Tryz.ntmps65
    have hx := Ext.refl w
    go_wp2_with (at_builtin; refine Lib.wpList_append_run _ rfl _ _ _ _ rfl _ _ rfl rfl _ _ hr ?_)
    all_goals go_ret
    obtain ⟨_, h | ⟨g', cap, cur, rfl, h1, h2, h3, h4, h5, h6⟩⟩ := HW.out
    · exact absurd h.2 (Nat.succ_ne_zero _)
    · exact ⟨g', cap, rfl, h1, Lib.hid ⟨cur.toList.drop ((n + 1) * 2), by rw [← HFL.out, ← h6, List.take_append_drop]; exact Blk.mk h2⟩, Lib.hid (Kg.of_grown HG.out)⟩

set_option maxHeartbeats 8000000 in
set_option maxRecDepth 100000 in
theorem tinsert_room (g n c k : Nat) (l : List El) (f : El) (vb : Nat) (w : World) (h : OwnC w g l c) (hn : l.length = n) (hk : k < n) (hb : n ≤ 1000000) (hroom : n + 1 ≤ c) (hc : c ≤ 9223372036854775807) (hv : Blk w vb 32 f.arr) (hne : vb ≠ g) :
    Calls Tryz.prog 65 #[.slice (some ⟨g, 0, none⟩) n c, .int .i64 k, .slice (some ⟨vb, 0, none⟩) 1 1] w fun e w' => ∃ g' c', e = .returned (.slice (some ⟨g', 0, none⟩) (n + 1) c') ∧ g ≤ g' ∧ Hid (OwnT w' g' (l.take k ++ f :: l.drop k)) ∧ Hid (Kg g w w') := by
  have hgl := h.own.lt
  obtain ⟨post, hB, hpl⟩ := h
  have hfl := fl_length l
  have ht1 : (fl (l.take k)).length = k * 2 := by rw [fl_length, List.length_take, Nat.min_eq_left (by omega)]
  have hd1 : (fl (l.drop k)).length = (n - k) * 2 := by rw [fl_length, List.length_drop, hn]
  have hd0 : (l.drop k).length = n - k := by rw [List.length_drop, hn]
  have hcut : fl l = fl (l.take k) ++ fl (l.drop k) := by rw [← fl_append, List.take_append_drop]
  obtain ⟨S, hS⟩ : ∃ S, S = fl (l.drop k) ++ post.take 2 := ⟨_, rfl⟩
  have hSl : S.length = (n - k) * 2 + 2 := by rw [hS, List.length_append, hd1, List.length_take, Nat.min_eq_left (by omega)]
  have eA : fl l ++ post = (fl (l.take k) ++ S.take 2) ++ (S.drop 2 ++ post.drop 2) := by
    rw [hcut]
    simp only [List.append_assoc]
    congr 1
    rw [← List.append_assoc (S.take 2), List.take_append_drop, hS, List.append_assoc, List.take_append_drop]
  have hsp : ∀ j, j < (n + 1) * 2 → (w.cell? ⟨g, j, none⟩).isSome = true := fun j hj => by
    rw [hB.cell, List.getElem?_toArray, List.getElem?_eq_getElem (by rw [List.length_append]; omega)]
    rfl
  have hx4 : (fl (l.take k) ++ S.take 2).length = (k + 1) * 2 := by rw [List.length_append, ht1, List.length_take, Nat.min_eq_left (by omega)]; omega
  obtain ⟨W1, hW1⟩ : ∃ W1, W1 = w.drew.setCells g ((k + 1) * 2) (fl (l.drop k)) := ⟨_, rfl⟩
  have hB1 : Blk W1 g 32 (fl (l.take k) ++ (S.take 2 ++ (fl (l.drop k) ++ post.drop 2))).toArray := by
    have h4 := hB.drew
    rw [eA] at h4
    have h5 := midT (fl (l.drop k)) (S.drop 2) (fl (l.take k) ++ S.take 2) (post.drop 2) w.drew (by rw [hd1, List.length_drop, hSl]; omega) h4
    rw [hx4, ← hW1, List.append_assoc] at h5
    exact h5
  have hK1 : Kg g w W1 := by rw [hW1]; exact (Kg.drew g w).trans (Kg.set _ _ _ _)
  have hF : ∀ W, Ext W1 W → OwnT (W.setCells g (k * 2) (fl [f])) g (l.take k ++ f :: l.drop k) ∧ Kg g w (W.setCells g (k * 2) (fl [f])) := fun W hW => by
    have h5 := midT (fl [f]) (S.take 2) (fl (l.take k)) (fl (l.drop k) ++ post.drop 2) W (by rw [List.length_take, Nat.min_eq_left (by omega)]; rfl) (Blk.ext hW hB1)
    rw [ht1] at h5
    refine ⟨⟨post.drop 2, Ic.Blk.conv' h5 ?_⟩, (hK1.trans (Kg.of_ext hW)).trans (Kg.set _ _ _ _)⟩
    rw [fl_append, show fl (f :: l.drop k) = fl [f] ++ fl (l.drop k) from fl_append [f] _]
    simp
  have hov : ∀ lb cb, (callFunc 85 #[.slice (some ⟨vb, 0, none⟩) 1 1, .slice (some ⟨g, (k + 1) * 2, none⟩) lb cb]).run Tryz.prog w = .ok (.value (.bool false)) w := fun lb cb => by
    rw [run_callFunc_extern Tryz.func85 (by kernel_rfl) (by kernel_rfl) (by kernel_rfl) (e := Extern.SlicesOverlaps.overlaps #[29, 29] #[4]) (by kernel_rfl),
      Lib.run_overlaps_apart w 29 4 32 Tryz.underlying29 2 sizeIF ⟨vb, 0, none⟩ ⟨g, (k + 1) * 2, none⟩ 1 1 lb cb hne _ _ _ _ (shapeB hv) (shapeB hB) (by rw [List.size_toArray, List.length_append]; omega) (hv.frozen _) (hv.frozen _)]
    rfl
  have hcp1 : ∀ ty dc sc, (Builtin.copy_ #[29, 29] ty #[.slice (some ⟨g, (k + 1) * 2, none⟩) (n - k) dc, .slice (some ⟨g, k * 2, none⟩) (n + 1 - k) sc]).run Tryz.prog w.drew = .ok (goInt (l.drop k).length) (w.drew.setCells g ((k + 1) * 2) (fl (l.drop k))) := fun ty dc sc =>
    run_copy_files w.drew _ _ ty g ((k + 1) * 2) (n - k) dc ⟨g, k * 2, none⟩ (n + 1 - k) sc (l.drop k) Tryz.underlying29 (by rw [hd0]; simp only [Nat.min_def]; split <;> omega)
      (fun j v hj => by
        rw [Addr.add_lit]
        show w.cell? _ = _
        rw [hB.cell, List.getElem?_toArray, List.getElem?_append_left (by have := (List.getElem?_eq_some_iff.1 hj).1; omega), hcut, List.getElem?_append_right (by omega), ht1, show k * 2 + j - k * 2 = j by omega]
        exact hj)
      (fun j hj => by show (w.cell? _).isSome = true; exact hsp _ (by omega)) (fun j hj => hB.drew.frozen _)
  have hcp2 : ∀ (W : World), (∀ x, W.cell? x = W1.cell? x) → (∀ x, W.frozen? x = W1.frozen? x) → ∀ ty dc, (Builtin.copy_ #[29, 29] ty #[.slice (some ⟨g, k * 2, none⟩) (n + 1 - k) dc, .slice (some ⟨vb, 0, none⟩) 1 1]).run Tryz.prog W = .ok (goInt 1) (W.setCells g (k * 2) (fl [f])) := fun W hWc hWf ty dc =>
    run_copy_files W _ _ ty g (k * 2) (n + 1 - k) dc ⟨vb, 0, none⟩ 1 1 [f] Tryz.underlying29 (by show 1 = _; simp only [Nat.min_def]; split <;> omega)
      (fun j v hj => by
        rw [Addr.add_lit, hWc, (hK1.blk _ _ _ hv hne).cell, Nat.zero_add]
        rw [fl_sing, Array.getElem?_toList] at hj
        exact hj)
      (fun j hj => by
        have hj4 : j < 2 := hj
        rw [hWc, hB1.cell, List.getElem?_toArray, List.getElem?_eq_getElem (by simp only [List.length_append, ht1, hd1, List.length_take, hSl]; omega)]
        rfl) (fun j hj => by rw [hWf]; exact hB1.frozen _)
  rw [← hW1] at hcp1
  have HF := Lib.hid hF
  have mixed : Tryz.prog.follows .mixedOrders = true := by kernel_rfl
  have hz2 : ¬ ((k : Int) = (n : Int)) := by omega
  have hw1 : IntKind.i64.wrap ((k : Int) + 1) = (k : Int) + 1 := by rw [IntKind.wrap_i64]; omega
  have hb1 : (0 : Int) ≤ (k : Int) + 1 := by omega
  have hin : k ≤ n := by omega
  have htn : ((k : Int) + 1).toNat = k + 1 := by omega
  have hb2 : ¬ (c = k + 1) := by omega
  have hb3 : (k : Int) ≤ (n : Int) + 1 := by omega
  have hb4 : ¬ (c = k) := by omega
  clear hB hB1 hK1 hF hsp eA hS hSl hx4 hcut hv hpl hfl ht1 hd1 hW1
  go_enter Tryz.func65, Tryz.ntmps65
  have hx := Ext.refl w
  go_wp2_with (simp only [hov])
  go_region_law_o (refine step_copy_runI rfl _ _ 29 29 rfl _ _ (by simp [Act.eval, Act.put]) (by simp [Act.eval, Act.put]) (hcp1 _ _ _) ?_)
  go_wp2_with (at_builtin; refine wpList_copy_runI _ rfl _ _ 29 29 rfl _ _ rfl rfl (hcp2 _ (fun _ => rfl) (fun _ => rfl) _ _) ?_)
  go_ret
  exact ⟨g, c, rfl, Nat.le_refl _, Lib.hid (HF.out _ (Ext.refl _)).1, Lib.hid (HF.out _ (Ext.refl _)).2⟩

set_option maxHeartbeats 8000000 in
set_option maxRecDepth 100000 in
theorem tinsert_grow (g n k : Nat) (l : List El) (f : El) (vb : Nat) (w : World) (h : OwnC w g l n) (hn : l.length = n) (hk : k < n) (hb : n ≤ 1000000) (hv : Blk w vb 32 f.arr) :
    Calls Tryz.prog 65 #[.slice (some ⟨g, 0, none⟩) n n, .int .i64 k, .slice (some ⟨vb, 0, none⟩) 1 1] w fun e w' => ∃ g' c', e = .returned (.slice (some ⟨g', 0, none⟩) (n + 1) c') ∧ g ≤ g' ∧ Hid (OwnT w' g' (l.take k ++ f :: l.drop k)) ∧ Hid (Kg g w w') := by
  obtain ⟨i0, hi0, hz0, hz1, hz2⟩ := info_parts (show (Tryz.prog.info? 32).map (fun i => (i.zero, i.size, i.bytes)) = some (some (.agg #[.string ⟨#[]⟩, .slice none 0 0]), 2, 40) by kernel_rfl)
  have hgl := h.own.lt
  have hvl := hv.lt
  have hgw : g ≠ w.heap.size := by omega
  have hvw : vb ≠ w.heap.size := by omega
  obtain ⟨post, hB, hpl⟩ := h
  have hfl := fl_length l
  have ht1 : (fl (l.take k)).length = k * 2 := by rw [fl_length, List.length_take, Nat.min_eq_left (by omega)]
  have hd0 : (l.drop k).length = n - k := by rw [List.length_drop, hn]
  have hd1 : (fl (l.drop k)).length = (n - k) * 2 := by rw [fl_length, hd0]
  have ht0 : (l.take k).length = k := by rw [List.length_take, Nat.min_eq_left (by omega)]
  have hcut : fl l = fl (l.take k) ++ fl (l.drop k) := by rw [← fl_append, List.take_append_drop]
  have hold : (Builtin.firstCells i0.size k (.slice (some ⟨g, 0, none⟩) k n)).run Tryz.prog w.drew = .ok (fl (l.take k)).toArray w.drew := by
    rw [hz1]
    exact run_firstCells_some w.drew 2 k ⟨g, 0, none⟩ k n (fl (l.take k)) ht1 (fun j v hj => by
      rw [Addr.add_lit]
      show w.cell? _ = _
      rw [hB.cell, Nat.zero_add, List.getElem?_toArray, List.getElem?_append_left (by have := (List.getElem?_eq_some_iff.1 hj).1; omega), hcut, List.getElem?_append_left (List.getElem?_eq_some_iff.1 hj).1]
      exact hj)
  obtain ⟨G, hG⟩ : ∃ G, G = grownCap w (n + 1) n 32 := ⟨_, rfl⟩
  have hGn : n + 1 ≤ G := by rw [hG]; exact grownCap_ge w _ _ _
  obtain ⟨W1, hW1⟩ : ∃ W1, W1 = w.drew.alloc (.cells (fl (l.take k ++ ([El.zero] ++ (List.replicate (n - k) El.zero ++ List.replicate (G - (n + 1)) El.zero)))).toArray 32) := ⟨_, rfl⟩
  have hrz : ∀ ty, (Builtin.append_ #[29, 3] ty #[.slice (some ⟨g, 0, none⟩) k n, .int .i64 ((n : Int) + 1 - (k : Int))]).run Tryz.prog w = .ok (.slice (some ⟨w.heap.size, 0, none⟩) (n + 1) G) W1 := fun ty => by
    have h := Lib.run_append_grow_zeros w 29 3 ty 32 i0 _ .i64 .i64 Tryz.underlying29 Tryz.underlying3 hi0 hz0 (some ⟨g, 0, none⟩) k n (fl (l.take k)) hold (n + 1 - k) (by omega) (by omega) (by omega) (by omega) (by rw [hz2]; omega) (by rw [hz2, show k + (n + 1 - k) = n + 1 by omega]; exact growslice_fits (by omega) (by omega))
    rw [show k + (n + 1 - k) = n + 1 by omega] at h
    rw [show (n : Int) + 1 - (k : Int) = ((n + 1 - k : Nat) : Int) by omega, h, hW1, hG]
    congr 3
    have e1 : Builtin.zeroCells (Value.agg #[.string ⟨#[]⟩, .slice none 0 0]).cells = Builtin.zeroCells zf := rfl
    rw [e1, fl_append, fl_append, fl_append, ← List.append_assoc (fl [El.zero]), ← fl_append, show [El.zero] ++ List.replicate (n - k) El.zero = List.replicate (n + 1 - k) El.zero from by rw [show n + 1 - k = (n - k) + 1 by omega, List.replicate_succ]; rfl, ← zeros_fl, ← zeros_fl]
    simp
  have hO1 : OwnC W1 w.heap.size (l.take k ++ ([El.zero] ++ (List.replicate (n - k) El.zero ++ List.replicate (G - (n + 1)) El.zero))) G := by
    refine ⟨[], ?_, by simp; omega⟩
    rw [hW1, List.append_nil]
    exact Blk.new' rfl
  have hK1 : Kg w.heap.size w W1 := by rw [hW1]; exact Kg.of_ext ((Ext.refl w).drew1.alloc _)
  have hE1 : Ext w W1 := by rw [hW1]; exact (Ext.refl w).drew1.alloc _
  obtain ⟨W2, hW2⟩ : ∃ W2, W2 = W1.setCells w.heap.size (k * 2) (fl [f]) := ⟨_, rfl⟩
  have hO2 : OwnC W2 w.heap.size ((l.take k ++ [f]) ++ (List.replicate (n - k) El.zero ++ List.replicate (G - (n + 1)) El.zero)) G := by
    have := hO1.over [f] rfl
    rw [ht0, ← hW2] at this
    rw [List.append_assoc]
    exact this
  have hK2 : Kg w.heap.size w W2 := by rw [hW2]; exact hK1.trans (Kg.set _ _ _ _)
  have hcell : ∀ {W : World} {r : List El} {j : Nat}, OwnC W w.heap.size r G → j < G * 2 → r.length = G → (W.cell? ⟨w.heap.size, j, none⟩).isSome = true := fun {W r j} h hj hr => by
    obtain ⟨post, hB, e⟩ := h
    rw [hB.cell, List.getElem?_toArray, List.getElem?_eq_getElem (by rw [List.length_append, fl_length]; omega)]
    rfl
  have hR1 : (l.take k ++ ([El.zero] ++ (List.replicate (n - k) El.zero ++ List.replicate (G - (n + 1)) El.zero))).length = G := by simp; omega
  have hR2 : ((l.take k ++ [f]) ++ (List.replicate (n - k) El.zero ++ List.replicate (G - (n + 1)) El.zero)).length = G := by simp; omega
  have hcpA : ∀ ty dc, (Builtin.copy_ #[29, 29] ty #[.slice (some ⟨w.heap.size, k * 2, none⟩) (n + 1 - k) dc, .slice (some ⟨vb, 0, none⟩) 1 1]).run Tryz.prog W1 = .ok (goInt 1) W2 := fun ty dc => by
    rw [hW2]
    exact run_copy_files W1 _ _ ty w.heap.size (k * 2) (n + 1 - k) dc ⟨vb, 0, none⟩ 1 1 [f] Tryz.underlying29 (by show 1 = _; simp only [Nat.min_def]; split <;> omega)
      (fun j v hj => by
        rw [Addr.add_lit, (Blk.ext hE1 hv).cell, Nat.zero_add]
        rw [fl_sing, Array.getElem?_toList] at hj
        exact hj)
      (fun j hj => by
        have hj4 : j < 2 := hj
        exact hcell hO1 (by omega) hR1) (fun j hj => hO1.own.free _)
  obtain ⟨W3, hW3⟩ : ∃ W3, W3 = W2.drew.setCells w.heap.size ((k + 1) * 2) (fl (l.drop k)) := ⟨_, rfl⟩
  have hO2' : OwnC W2.drew w.heap.size ((l.take k ++ [f]) ++ (List.replicate (n - k) El.zero ++ List.replicate (G - (n + 1)) El.zero)) G := hO2.ext (Ext.refl W2).drew1
  have hcpB : ∀ ty dc sc, (Builtin.copy_ #[29, 29] ty #[.slice (some ⟨w.heap.size, (k + 1) * 2, none⟩) (n - k) dc, .slice (some ⟨g, k * 2, none⟩) (n - k) sc]).run Tryz.prog W2.drew = .ok (goInt (l.drop k).length) W3 := fun ty dc sc => by
    rw [hW3]
    exact run_copy_files W2.drew _ _ ty w.heap.size ((k + 1) * 2) (n - k) dc ⟨g, k * 2, none⟩ (n - k) sc (l.drop k) Tryz.underlying29 (by rw [hd0]; simp only [Nat.min_def]; split <;> omega)
      (fun j v hj => by
        rw [Addr.add_lit]
        show W2.cell? _ = _
        rw [(hK2.blk _ _ _ hB hgw).cell, List.getElem?_toArray, List.getElem?_append_left (by have := (List.getElem?_eq_some_iff.1 hj).1; omega), hcut, List.getElem?_append_right (by omega), ht1, show k * 2 + j - k * 2 = j by omega]
        exact hj)
      (fun j hj => hcell hO2' (by omega) hR2) (fun j hj => hO2'.own.free _)
  have hO3 : OwnT W3 w.heap.size (l.take k ++ f :: l.drop k) := by
    have := hO2'.over (l.drop k) (by rw [hd0, List.length_replicate])
    rw [show (l.take k ++ [f]).length = k + 1 from by simp; omega, ← hW3, ← List.append_assoc] at this
    have := this.cut.own
    rwa [List.append_assoc] at this
  have hK3 : Kg g w W3 := by
    have h3 : Ext w W3 := by
      rw [hW3]
      exact Ext.setAll (Nat.le_refl _) _ _ _ (Ext.trans (by rw [hW2]; exact Ext.setAll (Nat.le_refl _) _ _ _ hE1) (Ext.refl W2).drew1)
    exact Kg.of_ext h3
  have HO3 := Lib.hid hO3
  have HK3 := Lib.hid hK3
  have mixed : Tryz.prog.follows .mixedOrders = true := by kernel_rfl
  have hz2 : ¬ ((k : Int) = (n : Int)) := by omega
  have hw1 : IntKind.i64.wrap ((k : Int) + 1) = (k : Int) + 1 := by rw [IntKind.wrap_i64]; omega
  have hb1 : (0 : Int) ≤ (k : Int) + 1 := by omega
  have hin : k ≤ n := by omega
  have htn : ((k : Int) + 1).toNat = k + 1 := by omega
  have hb3 : (k : Int) ≤ (n : Int) := by omega
  have hGi : ¬ (G = k) := by omega
  have hGim : ¬ (G = k + 1) := by omega
  have hni : ¬ (n = k) := by omega
  clear hG hB hO1 hO2 hO2' hO3 hK1 hK2 hK3 hE1 hcell hR1 hR2 hcut hv hpl hfl ht1 hd1 hd0 ht0 hold hW1 hW2 hW3
  go_enter Tryz.func65, Tryz.ntmps65
  have hx := Ext.refl w
  go_wp2_with (first
    | (at_builtin; refine Lib.wpList_append_run _ rfl _ _ _ _ rfl _ _ rfl rfl _ _ (hrz _) ?_)
    | (at_builtin; refine wpList_copy_runI _ rfl _ _ 29 29 rfl _ _ rfl rfl (hcpA _ _) ?_))
  go_region_law_o (refine step_copy_runI rfl _ _ 29 29 rfl (.slice (some ⟨w.heap.size, (k + 1) * 2, none⟩) (n - k) (G - (k + 1))) (.slice (some ⟨g, k * 2, none⟩) (n - k) (n - k)) (by simp [Act.eval, Act.put]) (by simp [Act.eval, Act.put]) (hcpB 3 (G - (k + 1)) (n - k)) ?_)
  go_wp2
  go_ret
  exact ⟨_, _, rfl, Nat.le_of_lt hgl, HO3, HK3⟩
end Ic
end Go.Proofs.YtnjcifppkijanaaGreatDoor
namespace Go.Proofs.YtnjcifppkijanaaGreatDoor
open Go Go.RowKit Go.Lib

namespace Ic
/-- The cells read as the files. -/
def Rd (w : World) (els : List El) (l : List Ig.Fi) : Prop := els.length = l.length ∧ ∀ (i : Nat) (f : El) x, els[i]? = some f → l[i]? = some x → FiR w All f.arr.toList x
theorem Rd.ext {w w' : World} {els : List El} {l : List Ig.Fi} (h : Rd w els l) (hx : Ext w w') : Rd w' els l :=
  ⟨h.1, fun i f x h1 h2 => FiR.steadfast.ext (h.2 i f x h1 h2) hx⟩
theorem els_of {w : World} : ∀ (cs : List (List Value)) (l : List Ig.Fi), cs.length = l.length → (∀ (i : Nat) c x, cs[i]? = some c → l[i]? = some x → FiR w All c x) → ∃ els : List El, cs = els.map fun f => f.arr.toList
  | [], _, _, _ => ⟨[], rfl⟩
  | c :: cs, [], h, _ => by simp at h
  | c :: cs, x :: l, h, hr => by
    obtain ⟨els, he⟩ := els_of cs l (by simpa using h) fun i c x h1 h2 => hr (i + 1) c x (by simpa using h1) (by simpa using h2)
    obtain ⟨A, n, m, hc, _⟩ := hr 0 c x rfl rfl
    exact ⟨⟨.string x.dir, .slice A n m, rfl, rfl⟩ :: els, by rw [List.map_cons, ← he, hc]; rfl⟩
theorem fl_eq (els : List El) : fl els = (els.map fun f => f.arr.toList).flatten := by
  induction els with
  | nil => rfl
  | cons f r ih => rw [fl, ih]; rfl
/-- An owned row, cell by cell. -/
theorem own_of {w0 w : World} {base : Nat} {v : Value} {l : List Ig.Fi} (h : OwnW 2 FiR 32 w0 w base All v l) :
    (v = .slice none 0 0 ∧ l = []) ∨ ∃ g c els, v = .slice (some ⟨g, 0, none⟩) l.length c ∧ base ≤ g ∧ c ≤ maxLen ∧ OwnC w g els c ∧ Rd w0 els l := by
  obtain ⟨cs, h1, h2, ⟨h3, ⟨e, h0⟩ | ⟨g, cap, cur, e, hb, hg, hn, hc, hs, ht⟩⟩, h4⟩ := h
  · exact .inl ⟨e, List.length_eq_zero_iff.1 h0⟩
  · obtain ⟨els, rfl⟩ := els_of cs l h1 h4
    have hle : els.length = l.length := by simpa using h1
    refine .inr ⟨g, cap, els, e, hb, hc, ⟨cur.toList.drop (l.length * 2), ?_, ?_⟩, hle, fun i f x hf hx => h4 i _ x (by rw [List.getElem?_map, hf]; rfl) hx⟩
    · rw [fl_eq, ← ht, List.take_append_drop]
      exact Blk.mk hg
    · rw [List.length_drop, hle, show cur.toList.length = cap * 2 from hs]
      omega
/-- A row as a reader sees it. -/
theorem OwnT.sls {w : World} {g : Nat} {els : List El} {l : List Ig.Fi} (h : OwnT w g els) (hr : Rd w els l) : Fis w All (some ⟨g, 0, none⟩) l := by
  have hg := h.lt
  obtain ⟨post, hB⟩ := h
  refine ⟨els.map fun f => f.arr.toList, by simpa using hr.1, fun c hc => ?_, fun _ => ⟨g, 0, rfl, hg, trivial, fun j u hu => ?_⟩, fun i c x hc hx => ?_⟩
  · obtain ⟨f, _, rfl⟩ := List.mem_map.1 hc
    rfl
  · rw [← fl_eq] at hu
    rw [Nat.zero_add, hB.cell, List.getElem?_toArray, List.getElem?_append_left (List.getElem?_eq_some_iff.1 hu).1, hu]
  · rw [List.getElem?_map] at hc
    cases hf : els[i]? with
    | none => rw [hf] at hc; cases hc
    | some f =>
      rw [hf] at hc
      obtain rfl : f.arr.toList = c := by simpa using hc
      exact hr.2 i f x hf hx
/-- The cells of one file. -/
theorem OwnT.cells {w : World} {g : Nat} {els : List El} (h : OwnT w g els) {i : Nat} {f : El} (hf : els[i]? = some f) : w.cell? ⟨g, i * 2, none⟩ = some f.a ∧ w.cell? ⟨g, i * 2 + 1, none⟩ = some f.b := by
  obtain ⟨post, hB⟩ := h
  have key : ∀ j, j < 2 → w.cell? ⟨g, i * 2 + j, none⟩ = f.arr.toList[j]? := fun j hj => by
    have h1 := fl_get hf hj
    have hlt : i * 2 + j < (fl els).length := by
      have := (List.getElem?_eq_some_iff.1 hf).1
      rw [fl_length]
      omega
    rw [hB.cell, List.getElem?_toArray, List.getElem?_append_left hlt, h1]
  exact ⟨key 0 (by omega), key 1 (by omega)⟩
/-- The rules of one file, stored. -/
theorem OwnT.store {w : World} {g : Nat} {els : List El} (h : OwnT w g els) {i : Nat} {f : El} (hf : els[i]? = some f) (b : Value) (hb : b.oneCell' = true) : OwnT (w.setCell ⟨g, i * 2 + 1, none⟩ b) g (els.set i ⟨f.a, b, f.ha, hb⟩) := by
  obtain ⟨post, hB⟩ := h
  have hi := (List.getElem?_eq_some_iff.1 hf).1
  refine ⟨post, Ic.Blk.conv' (hB.set_ (i * 2 + 1) b) ?_⟩
  have e1 : els = els.take i ++ f :: els.drop (i + 1) := by
    rw [← (List.getElem?_eq_some_iff.1 hf).2, ← List.drop_eq_getElem_cons hi, List.take_append_drop]
  have e2 : els.set i ⟨f.a, b, f.ha, hb⟩ = els.take i ++ ⟨f.a, b, f.ha, hb⟩ :: els.drop (i + 1) := by
    rw [List.set_eq_take_append_cons_drop, if_pos hi]
  rw [e2]
  conv => lhs; rw [e1]
  have e3 : (fl (els.take i)).length = i * 2 := by rw [fl_length, List.length_take, Nat.min_eq_left (Nat.le_of_lt hi)]
  rw [fl_append, fl_append]
  simp [fl, El.arr, e3, List.set_append]
end Ic
namespace Ig
/-- Where a directory belongs. -/
structure Cut (l : List Fi) (s : ByteArray) (k : Nat) : Prop where
  le : k ≤ l.length
  lo : ∀ (t : Nat) (x : Fi), t < k → l[t]? = some x → Tr.lt x.dir s = true
  hi : ∀ (t : Nat) (x : Fi), k ≤ t → l[t]? = some x → Tr.lt x.dir s = false
theorem Cut.cons {f : Fi} {l : List Fi} {s : ByteArray} {k : Nat} (h : Cut (f :: l) s (k + 1)) : Cut l s k :=
  ⟨by have := h.le; simp at this; exact this, fun t x ht hx => h.lo (t + 1) x (by omega) (by simpa using hx), fun t x ht hx => h.hi (t + 1) x (by omega) (by simpa using hx)⟩
/-- The directory has no file yet. -/
theorem addTo_new {dir : ByteArray} {x : Ru} : ∀ {l : List Fi} {k : Nat}, Cut l dir k → (∀ y, l[k]? = some y → y.dir ≠ dir) → addTo dir x l = l.take k ++ ⟨dir, [x]⟩ :: l.drop k
  | [], k, h, _ => by
    have := h.le
    obtain rfl : k = 0 := by simpa using this
    rfl
  | f :: l, 0, h, hn => by
    unfold addTo
    rw [if_neg (by rw [h.hi 0 f (Nat.le_refl _) rfl]; simp), if_neg (fun e => hn f rfl (Qm.eqB_iff.1 e))]
    rfl
  | f :: l, k + 1, h, hn => by
    unfold addTo
    rw [if_pos (h.lo 0 f (by omega) rfl), addTo_new h.cons (fun y hy => hn y (by simpa using hy))]
    rfl
/-- The directory has a file. -/
theorem addTo_old {dir : ByteArray} {x : Ru} : ∀ {l : List Fi} {k : Nat} {y : Fi}, Cut l dir k → l[k]? = some y → y.dir = dir → addTo dir x l = l.set k ⟨dir, y.rules ++ [x]⟩
  | [], k, y, h, hy, _ => by simp at hy
  | f :: l, 0, y, h, hy, hd => by
    obtain rfl : f = y := by simpa using hy
    unfold addTo
    rw [if_neg (by rw [h.hi 0 f (Nat.le_refl _) rfl]; simp), if_pos (Qm.eqB_iff.2 hd), hd]
    rfl
  | f :: l, k + 1, y, h, hy, hd => by
    unfold addTo
    rw [if_pos (h.lo 0 f (by omega) rfl), addTo_old h.cons (by simpa using hy) hd]
    rfl
/-- The two ways are one: first the file, then the rule. -/
theorem addTo_two {dir : ByteArray} {x : Ru} {l : List Fi} {k : Nat} (h : Cut l dir k) (hn : ∀ y, l[k]? = some y → y.dir ≠ dir) : addTo dir x l = (l.take k ++ ⟨dir, []⟩ :: l.drop k).set k ⟨dir, [x]⟩ := by
  rw [addTo_new h hn, List.set_append_right _ _ (by rw [List.length_take]; omega), List.length_take, Nat.min_eq_left h.le, Nat.sub_self]
  rfl
end Ig

set_option maxHeartbeats 1000000 in
/-- The closure with$1. -/
theorem withcmp_any (d s : ByteArray) (b : Value) (W : World) : Calls Tryz.prog 63 #[.agg #[.string d, b], .string s] W (Ret (.int .i64 (Lib.compareBytes d.data.toList s.data.toList)) W) := by
  have hcon := fun W' => Tryz.strings_Compare d s W'
  generalize Lib.compareBytes d.data.toList s.data.toList = r at hcon ⊢
  have hx := Ext.refl W
  go_enter Tryz.func63, Tryz.ntmps63
  go_wp2_with (go_at_call 64; refine (hcon _).mono ?_; rintro e w' ⟨rfl, rfl⟩)
  go_ret
  exact ⟨rfl, (Ext.refl W).alloc _⟩
end Go.Proofs.YtnjcifppkijanaaGreatDoor
namespace Go.Proofs.YtnjcifppkijanaaGreatDoor
open Go Go.RowKit Go.Lib

theorem compare_zero : ∀ a b : List UInt8, Lib.compareBytes a b = 0 ↔ a = b
  | [], [] => by simp [Lib.compareBytes]
  | [], _ :: _ => by simp [Lib.compareBytes]
  | _ :: _, [] => by simp [Lib.compareBytes]
  | a :: r, b :: q => by
    unfold Lib.compareBytes
    by_cases h : a < b
    · have h3 : ¬ a = b := fun e => by subst e; exact UInt8.lt_irrefl _ h
      simp [h, h3]
    · by_cases h2 : b < a
      · have h3 : ¬ a = b := fun e => by subst e; exact h h2
        simp [h, h2, h3]
      · have h3 : a = b := UInt8.le_antisymm (UInt8.not_lt.1 h2) (UInt8.not_lt.1 h)
        subst h3
        simp [h, compare_zero r q]
theorem compare_less : ∀ a b : List UInt8, (Lib.compareBytes a b < 0) ↔ Op.bytesLess a b = true
  | [], [] => by simp [Lib.compareBytes, Op.bytesLess]
  | [], _ :: _ => by simp [Lib.compareBytes, Op.bytesLess]
  | _ :: _, [] => by simp [Lib.compareBytes, Op.bytesLess]
  | a :: r, b :: q => by
    unfold Lib.compareBytes Op.bytesLess
    by_cases h : a < b
    · simp [h]
    · by_cases h2 : b < a
      · have h3 : ¬ a = b := fun e => by subst e; exact h h2
        simp [h, h2, h3]
      · have h3 : a = b := UInt8.le_antisymm (UInt8.not_lt.1 h2) (UInt8.not_lt.1 h)
        subst h3
        simp [h, compare_less r q]
theorem compare_names (s t : ByteArray) : (Lib.compareBytes s.data.toList t.data.toList < 0) ↔ Tr.lt s t = true := by
  unfold Tr.lt
  rw [ByteArray.toList_eq, ByteArray.toList_eq]
  exact compare_less _ _
theorem compare_dirs (s t : ByteArray) : Lib.compareBytes s.data.toList t.data.toList = 0 ↔ s = t := by
  rw [compare_zero]
  constructor
  · intro h
    cases s
    cases t
    simp at h
    rw [h]
  · rintro rfl
    rfl
set_option maxHeartbeats 16000000 in
set_option maxRecDepth 100000 in
theorem isearch_any (A : Option Addr) (n c : Nat) (l : List Ig.Fi) (dir : ByteArray) (w : World) (h : Fis w All A l) (hn : l.length = n) (hb : n ≤ 1000000) (hs : Ig.Own l) :
    Calls Tryz.prog 62 #[.slice A n c, .string dir, .func (.func 63) #[] #[]] w fun e w' => ∃ k b, e = .returned (.tuple #[.int .i64 (k : Nat), .bool b]) ∧ Hid (Ig.Cut l dir k) ∧ Hid (b = true ↔ ∃ y, l[k]? = some y ∧ y.dir = dir) ∧ Ext w w' := by
  have eg : ∀ args w, (callFunc 63 args).run Tryz.prog w = .ok (.enter 63 args) w := enters_of Tryz.func63 (by kernel_rfl) rfl
  have HC := Lib.hid (fun d b W => withcmp_any d dir b W)
  have HO := Lib.hid h
  have HN := Lib.hid hn
  have HS : Hid (∀ (a b : Nat) (x y : Ig.Fi), a ≤ b → l[a]? = some x → l[b]? = some y → Tr.lt y.dir dir = true → Tr.lt x.dir dir = true) := Lib.hid fun a b x y hab hx hy hl => by
    rcases Nat.lt_or_ge a b with h1 | h1
    · have ha := (List.getElem?_eq_some_iff.1 hx)
      have hb := (List.getElem?_eq_some_iff.1 hy)
      obtain ⟨ha1, rfl⟩ := ha
      obtain ⟨hb1, rfl⟩ := hb
      exact Tr.lt_trans (List.pairwise_iff_getElem.1 hs a b ha1 hb1 h1) hl
    · obtain rfl : a = b := by omega
      rw [hx] at hy
      obtain rfl : x = y := by simpa using hy
      exact hl
  clear h hn hs
  go_enter Tryz.func62, Tryz.ntmps62
  have hx := Ext.refl w
  go_wp2_with fail
  go_loopw [9, 10] (fun i j wr => ∃ lo hi : Nat, i = .int .i64 lo ∧ j = .int .i64 hi ∧ lo ≤ hi ∧ hi ≤ n ∧ Hid (Ext w wr) ∧ Hid ((∀ (t : Nat) (x : Ig.Fi), t < lo → l[t]? = some x → Tr.lt x.dir dir = true) ∧ (∀ (t : Nat) (x : Ig.Fi), hi ≤ t → l[t]? = some x → Tr.lt x.dir dir = false))) (fun i j wr => (intOf j).toNat - (intOf i).toNat)
  case atStart => exact ⟨0, n, rfl, rfl, Nat.zero_le _, Nat.le_refl _, Lib.hid EX, Lib.hid ⟨fun t x ht => absurd ht (Nat.not_lt_zero t), fun t x ht hx => by
    have := (List.getElem?_eq_some_iff.1 hx).1
    rw [HN.out] at this
    omega⟩⟩
  case round =>
    clear hx
    rename World => wr
    obtain ⟨lo, hi, rfl, rfl, hlh, hin, HX, HI⟩ := hrel
    by_cases hlt : lo < hi
    · have hml : (lo + hi) / 2 < l.length := by rw [HN.out]; omega
      have hm : l[(lo + hi) / 2]? = some l[(lo + hi) / 2] := List.getElem?_eq_getElem hml
      generalize l[(lo + hi) / 2] = x at hm
      obtain ⟨gb, o, cs, rfl, -, -, -, hr, A', n', m', rfl, -⟩ := (Sls.ext FiR.steadfast HO.out HX.out).get hm
      have q0 : wr.cell? ⟨gb, o + (lo + hi) / 2 * 2, none⟩ = some (.string x.dir) := hr 0 _ rfl
      have q1 : wr.cell? ⟨gb, o + (lo + hi) / 2 * 2 + 1, none⟩ = some (.slice A' n' m') := hr 1 _ rfl
      have hi1 : (0 : Int) ≤ ((lo : Int) + (hi : Int)) / 2 := by omega
      have hi2 : ((lo : Int) + (hi : Int)) / 2 < (n : Int) := by omega
      have hi3 : (((lo : Int) + (hi : Int)) / 2).toNat = (lo + hi) / 2 := by omega
      have hneg := compare_names x.dir dir
      have HN1 : Hid (Lib.compareBytes x.dir.data.toList dir.data.toList < 0 → (∀ (t : Nat) (y : Ig.Fi), t < (lo + hi) / 2 + 1 → l[t]? = some y → Tr.lt y.dir dir = true)) := Lib.hid fun h t y ht hy => HS.out t ((lo + hi) / 2) y x (by omega) hy hm (hneg.1 h)
      have HP1 : Hid (¬ Lib.compareBytes x.dir.data.toList dir.data.toList < 0 → (∀ (t : Nat) (y : Ig.Fi), (lo + hi) / 2 ≤ t → l[t]? = some y → Tr.lt y.dir dir = false)) := Lib.hid fun h t y ht hy => by
        cases k : Tr.lt y.dir dir
        · rfl
        · exact (h (hneg.2 (HS.out ((lo + hi) / 2) t x y ht hm hy k))).elim
      clear hm hml hneg hr
      have HX1 := Lib.hid (HC.out x.dir (.slice A' n' m'))
      generalize Lib.compareBytes x.dir.data.toList dir.data.toList = r at HN1 HP1 HX1
      go_wp2_with fail
      refine (HX1.out _).mono ?_
      rintro e w2 ⟨rfl, hx2⟩
      have HX2 := Lib.hid (HX.out.trans hx2)
      clear hx2 q0 q1
      by_cases hr : r < 0
      · go_wp2_with fail
        go_roundw
        case rel => exact ⟨(lo + hi) / 2 + 1, hi, by rw [show ((lo : Int) + (hi : Int)) / 2 + 1 = (((lo + hi) / 2 + 1 : Nat) : Int) by omega], rfl, by omega, hin, HX2, Lib.hid ⟨HN1.out hr, HI.out.2⟩⟩
        case measure => simp [intOf]; omega
      · go_wp2_with fail
        go_roundw
        case rel => exact ⟨lo, (lo + hi) / 2, rfl, by rw [show ((lo : Int) + (hi : Int)) / 2 = (((lo + hi) / 2 : Nat) : Int) by omega], by omega, by omega, HX2, Lib.hid ⟨HI.out.1, HP1.out hr⟩⟩
        case measure => simp [intOf]; omega
    · obtain rfl : hi = lo := by omega
      have HV : Hid (Ig.Cut l dir hi) := Lib.hid ⟨by rw [HN.out]; exact hin, HI.out.1, HI.out.2⟩
      clear HI HS
      by_cases hlt2 : hi < n
      · have hml : hi < l.length := by rw [HN.out]; exact hlt2
        have hm : l[hi]? = some l[hi] := List.getElem?_eq_getElem hml
        generalize l[hi] = x at hm
        obtain ⟨gb, o, cs, rfl, -, -, -, hr, A', n', m', rfl, -⟩ := (Sls.ext FiR.steadfast HO.out HX.out).get hm
        have q0 : wr.cell? ⟨gb, o + hi * 2, none⟩ = some (.string x.dir) := hr 0 _ rfl
        have q1 : wr.cell? ⟨gb, o + hi * 2 + 1, none⟩ = some (.slice A' n' m') := hr 1 _ rfl
        have HE : Hid (Lib.compareBytes x.dir.data.toList dir.data.toList = 0 ↔ ∃ y, l[hi]? = some y ∧ y.dir = dir) := Lib.hid (by
          rw [compare_dirs, hm]
          exact ⟨fun h => ⟨x, rfl, h⟩, fun ⟨y, hy, h⟩ => by obtain rfl : x = y := by simpa using hy
                                                            exact h⟩)
        clear hm hml hr
        have HX1 := Lib.hid (HC.out x.dir (.slice A' n' m'))
        generalize Lib.compareBytes x.dir.data.toList dir.data.toList = r at HE HX1
        go_wp2_with fail
        refine (HX1.out _).mono ?_
        rintro e w2 ⟨rfl, hx2⟩
        have HX2 := Lib.hid (HX.out.trans hx2)
        clear hx2 q0 q1
        by_cases hr : r = 0
        · subst hr
          go_wp2_with fail
          go_ret2
          exact ⟨_, _, rfl, HV, Lib.hid (by simpa using HE.out), HX2.out⟩
        · have hr2 : (r == 0) = false := beq_eq_false_iff_ne.2 hr
          go_wp2_with fail
          go_ret2
          exact ⟨_, _, rfl, HV, Lib.hid (by rw [← HE.out]; simpa using hr), HX2.out⟩
      · have HE : Hid (false = true ↔ ∃ y, l[hi]? = some y ∧ y.dir = dir) := Lib.hid (by
          rw [List.getElem?_eq_none (by rw [HN.out]; omega)]
          simp)
        go_wp2_with fail
        go_ret2
        exact ⟨_, _, rfl, HV, HE, HX.out⟩
end Go.Proofs.YtnjcifppkijanaaGreatDoor
namespace Go.Proofs.YtnjcifppkijanaaGreatDoor
open Go Go.RowKit Go.Shelf

/-- The bytes as cells. -/
def u8s (l : List UInt8) : List Value := l.map fun c => .int .u8 c.toNat
theorem u8s_one (l : List UInt8) : ∀ u ∈ u8s l, u.oneCell' = true := by
  intro u hu
  obtain ⟨c, _, rfl⟩ := List.mem_map.1 hu
  rfl
theorem owns_ext {w w' : World} {base size n : Nat} {e : TypeId} {v : Value} {xs : List Value} (h : w.ownsRow base e size v n xs) (hx : Ext w w') : w'.ownsRow base e size v n xs := by
  obtain ⟨h3, h5⟩ := h
  refine ⟨h3, ?_⟩
  rcases h5 with h5 | ⟨g, cap, cur, e, hb, hg, r⟩
  · exact .inl h5
  · exact .inr ⟨g, cap, cur, e, hb, (Below.block hx g (Array.getElem?_eq_some_iff.1 hg).1).trans hg, r⟩
theorem quoted_snoc (l : List UInt8) (c : UInt8) : Ig.quoted (l ++ [c]) = Ig.quoted l ++ [92, c] := by
  unfold Ig.quoted
  simp
theorem uclone_info : (Tryz.prog.info? 60).map (fun i => (i.size, i.bytes, i.zero.map fun z => z.cells.size)) = some (4, 24, some 4) := by kernel_rfl
set_option maxRecDepth 100000 in
theorem uclone_empty (ad : Addr) (c : Nat) (w0 w : World) {F : Nat → Prop} : Calls Tryz.prog 66 #[.slice (some ad) 0 c] w (fun e w' => ∃ v', e = .returned v' ∧ OwnW 4 RuR 60 w0 w' w.heap.size F v' [] ∧ Ext w w') := by
  obtain ⟨i0, hi⟩ : ∃ i0, Tryz.prog.info? 60 = some i0 := by
    cases hq : Tryz.prog.info? 60 with
    | none => have := uclone_info; rw [hq] at this; cases this
    | some i0 => exact ⟨i0, rfl⟩
  have hi2 := uclone_info
  rw [hi] at hi2
  simp only [Option.map_some, Option.some.injEq, Prod.mk.injEq] at hi2
  have hown : (w.alloc (.cells #[] 60)).ownsRow w.heap.size 60 4 (.slice (some ⟨w.heap.size, 0, none⟩) 0 0) 0 [] := ⟨rfl, .inr ⟨w.heap.size, 0, #[], rfl, Nat.le_refl _, (Blk.new' rfl).eq, Nat.le_refl _, Nat.zero_le _, rfl, rfl⟩⟩
  have hq22 : ∀ (w : World) (a : Option Addr) (n c n' c' : Nat), (binOp .eql 23 (.slice a n c) (.slice none n' c')).run Tryz.prog w = .ok (.bool a.isNone) w := fun w a n c n' c' => Lib.run_eql_slice_nil w _ _ a n c n' c' Tryz.underlying23
  have HOW := Lib.hid hown
  clear hown
  go_enter Tryz.func66, Tryz.ntmps66
  have hx := Ext.refl w
  go_wp2_with (at_builtin; refine wpList_append_zeroN rfl _ _ 23 rfl w.heap.size 60 i0 4 Tryz.underlying23 hi _ 0 [] rfl HOW.out ad c rfl ?_)
  go_ret
  exact ⟨_, rfl, ⟨[], rfl, by simp, HOW.out, fun i c x h => by simp at h⟩, EX⟩
theorem uclone_any (A : Option Addr) (n c : Nat) (l : List _) (w0 w : World) {F : Nat → Prop} (h : Rus w0 F A l) (hw : Ext w0 w) (hn : l.length = n) (hb : n ≤ 1000000000) :
    Calls Tryz.prog 66 #[.slice A n c] w (fun e w' => ∃ v', e = .returned v' ∧ OwnW 4 RuR 60 w0 w' w.heap.size F v' l ∧ Ext w w') := by
  obtain ⟨cs, h1, h2, h3, h4⟩ := h
  by_cases h0 : n = 0
  · subst h0
    obtain rfl : l = [] := List.length_eq_zero_iff.1 hn
    cases A with
    | none =>
      refine (AnyE.slices_Clone_nil Tryz.laysCloneU 0 c w).mono ?_
      rintro e w' ⟨rfl, rfl⟩
      exact ⟨_, rfl, ⟨[], rfl, by simp, ⟨rfl, .inl ⟨rfl, rfl⟩⟩, fun i c x h => by simp at h⟩, Ext.refl _⟩
    | some ad => exact uclone_empty ad c w0 w
  obtain ⟨b, o, rfl, _, _, _⟩ := h3 (by omega)
  · obtain ⟨i0, hi⟩ : ∃ i0, Tryz.prog.info? 60 = some i0 := by
      cases hq : Tryz.prog.info? 60 with
      | none => have := uclone_info; rw [hq] at this; cases this
      | some i0 => exact ⟨i0, rfl⟩
    have hi2 := uclone_info
    rw [hi] at hi2
    simp only [Option.map_some, Option.some.injEq, Prod.mk.injEq] at hi2
    obtain ⟨hs, hby, hz⟩ := hi2
    obtain ⟨z, hz0, hz1⟩ : ∃ z, i0.zero = some z ∧ z.cells.size = 4 := by
      cases hq : i0.zero with
      | none => rw [hq] at hz; cases hz
      | some z => rw [hq] at hz; exact ⟨z, rfl, by simpa using hz⟩
    have hsz : ∀ W, (Go.sizeOf 60).run Tryz.prog W = .ok 4 W := fun W => by kernel_rfl
    have hone := flat_one' (R := RuR) (fun h => RuR.one h) h1 h4
    refine (AnyE.slices_Clone Tryz.laysCloneU i0 z 4 24 hi hz0 hs hby hz1 (by decide) hsz b o n c cs.flatten w (by rw [flatten_len h2, h1, hn]) (by unfold maxLen; omega) (by omega) (fun j u hj => ?_) hone).mono ?_
    · rcases Nat.eq_zero_or_pos n with h0 | h0
      · have : cs = [] := List.length_eq_zero_iff.1 (by omega)
        subst this
        simp at hj
      · obtain ⟨b', o', e, hbl, _, hr⟩ := h3 (by omega)
        obtain ⟨rfl, rfl⟩ : b = b' ∧ o = o' := by simpa using e
        rw [← hr j u hj]
        exact hw.cell (p := ⟨b, _, none⟩) hbl
    · rintro e w' ⟨v', rfl, hown, _, hx⟩
      subst hn
      exact ⟨v', rfl, ⟨cs, h1, h2, hown, h4⟩, hx⟩

/-- A row of bytes as a string. -/
theorem convert_owned {w : World} {base n : Nat} {v : Value} {l : List UInt8} (h : w.ownsRow base 5 1 v n (u8s l)) (w' : World) (hw' : ∀ x, w'.cell? x = w.cell? x) : (convert 79 9 v).run Tryz.prog w' = .ok (.string (Ig.bs l)) w' := by
  have hl : l.length = n := by have := h.1; simpa [u8s] using this
  subst hl
  have h0 := h
  obtain ⟨h3, ⟨rfl, h7⟩ | ⟨g, cap, cur, rfl, hb, hg, r⟩⟩ := h
  · obtain rfl : l = [] := List.length_eq_zero_iff.1 h7
    rw [run_convert_bytes_nil w' 79 5 Tryz.underlying79 Tryz.underlying5 0 0 9 Tryz.underlying9]
    rfl
  · rw [run_convert_bytes_back w' 79 9 5 ⟨g, 0, none⟩ cap l Tryz.underlying79 Tryz.underlying5 Tryz.underlying9 (fun j hj => by
      rw [Addr.add_lit, hw', Nat.zero_add, h0.cellAt j (by omega)]
      unfold u8s
      rw [List.getElem?_map, List.getElem?_eq_getElem hj]
      rfl)]
    rfl
set_option maxHeartbeats 8000000 in
set_option maxRecDepth 100000 in
theorem quoted_any (s : ByteArray) (w : World) (hs : s.size ≤ 1000000) : Calls Tryz.prog 37 #[.string s] w (Ret (.string (Ig.bs (Ig.quoted (Ig.L s)))) w) := by
  obtain ⟨i0, hi0, hz0, hz1, hz2⟩ := info_parts (show (Tryz.prog.info? 5).map (fun i => (i.zero, i.size, i.bytes)) = some (some (.int .u8 0), 1, 1) from by kernel_rfl)
  have hLs : (Ig.L s).length = s.size := rfl
  have HLS := Lib.hid hLs
  have HI := Lib.hid (⟨hi0, hz0, hz1, hz2⟩ : _ ∧ _ ∧ _ ∧ _)
  have hx := Ext.refl w
  clear hLs hi0 hz0 hz1 hz2
  go_enter Tryz.func37, Tryz.ntmps37
  go_wp2_with fail
  go_loopw [3, 4, 7] (fun u3 _ u7 wr => ∃ (k : Nat) (v : Value), v = u3 ∧ u7 = .int .i64 k ∧ k ≤ s.size ∧ Hid (wr.ownsRow w.heap.size 5 1 v (2 * k) (u8s (Ig.quoted ((Ig.L s).take k)))) ∧ Hid (Ext w wr)) (fun _ _ u _ => s.size - (intOf u).toNat)
  case atStart => exact ⟨0, _, rfl, rfl, Nat.zero_le _, Lib.hid (World.ownsRow_nil _ _ _ _), Lib.hid hx⟩
  case round =>
    clear hx
    rename World => wr
    obtain ⟨k, v, rfl, rfl, hk, HO, HX⟩ := hrel
    by_cases hlt : k < s.size
    · have HC : Hid ((Ig.L s)[k]? = some s[k]) := Lib.hid (by
        have : k < (Ig.L s).length := by rw [HLS.out]; exact hlt
        rw [List.getElem?_eq_getElem this]
        rfl)
      go_wp2_with (at_builtin; refine wpList_append_lies _ rfl _ _ 79 rfl w.heap.size 5 i0 (.int .u8 0) 1 1 Tryz.underlying79 HI.out.1 HI.out.2.1 HI.out.2.2.1 HI.out.2.2.2 rfl (by decide) v (2 * k) _ rfl (owns_ext HO.out ((Ext.refl wr).alloc _)) ⟨wr.heap.size, 0, none⟩ 2 2 (u8s [92, s[k]]) rfl rfl (fun j u hu => by rw [Addr.add_lit, (Blk.new' (w := wr) (g := wr.heap.size) (cs := #[.int .u8 92, .int .u8 s[k].toNat]) (t := 5) rfl).cell, Nat.zero_add, ← Array.getElem?_toList]; exact hu) (u8s_one _) (by decide) (by unfold maxLen; omega) (by omega) (by have := HX.out.size_le; simp; omega) _ rfl ?_; intro g cap w' hown hgrow _ _)
      have hln : (u8s (Ig.quoted ((Ig.L s).take k))).length = 2 * k := by have := HO.out.1; omega
      have HX2 : Hid (Ext w w') := Lib.hid (Below.grown (HX.out.alloc _) hgrow (HX.out.alloc _).size_le (fun j e => (HO.out.lt j e).1))
      have HO2 : Hid (w'.ownsRow w.heap.size 5 1 (.slice (some ⟨g, 0, none⟩) (2 * k + 2) cap) (2 * (k + 1)) (u8s (Ig.quoted ((Ig.L s).take (k + 1))))) := Lib.hid (by
        rw [take_snoc HC.out, quoted_snoc]
        unfold u8s at *
        rw [List.map_append]
        exact hown)
      clear hown hgrow
      go_roundw
      case rel => exact ⟨k + 1, _, rfl, rfl, hlt, HO2, HX2⟩
      case measure => simp [intOf]; omega
    · obtain rfl : k = s.size := by omega
      have HT : (Ig.L s).take s.size = Ig.L s := List.take_of_length_le (Nat.le_of_eq HLS.out)
      rw [HT] at HO
      have HCV : ∀ w', (∀ x, w'.cell? x = wr.cell? x) → (convert 79 9 v).run Tryz.prog w' = .ok (.string (Ig.bs (Ig.quoted (Ig.L s)))) w' := fun w' hw' => convert_owned HO.out w' hw'
      have HCW := HCV wr (fun _ => rfl)
      clear HT HCV
      go_wp2_with fail
      go_ret
      exact ⟨rfl, HX.out⟩
end Go.Proofs.YtnjcifppkijanaaGreatDoor
namespace Go.Proofs.YtnjcifppkijanaaGreatDoor
open Go Go.RowKit Go.Lib

namespace Ic
set_option maxHeartbeats 4000000 in
set_option maxRecDepth 100000 in
theorem insert_nil (f : El) (vb : Nat) (w : World) (hv : Blk w vb 32 f.arr) :
    Calls Tryz.prog 65 #[.slice none 0 0, .int .i64 0, .slice (some ⟨vb, 0, none⟩) 1 1] w fun e w' => ∃ g' c', e = .returned (.slice (some ⟨g', 0, none⟩) 1 c') ∧ w.heap.size ≤ g' ∧ Hid (OwnT w' g' [f]) ∧ Ext w w' := by
  obtain ⟨i0, hi0, hz0, hz1, hz2⟩ := info_parts (show (Tryz.prog.info? 32).map (fun i => (i.zero, i.size, i.bytes)) = some (some (.agg #[.string ⟨#[]⟩, .slice none 0 0]), 2, 40) by kernel_rfl)
  have hcv : ∀ j u, (fl [f])[j]? = some u → w.cell? ⟨vb, 0 + j, none⟩ = some u := fun j u hj => by
    rw [hv.cell, Nat.zero_add]
    rw [fl_sing, Array.getElem?_toList] at hj
    exact hj
  have hown : w.ownsRow w.heap.size 32 2 (.slice none 0 0) 0 [] := ⟨rfl, .inl ⟨rfl, rfl⟩⟩
  obtain ⟨v', w', e1, e2, e3, _⟩ := run_append_own w w.heap.size 29 29 32 i0 _ 2 40 Tryz.underlying29 hi0 hz0 hz1 hz2 rfl (by decide) _ 0 _ hown ⟨vb, 0, none⟩ 1 1 (fl [f]) rfl (fun j u hj => by rw [Addr.add_lit]; exact hcv j u hj) fl_one (by unfold maxLen; omega) (by omega) (Nat.le_refl _)
  have hr : (Builtin.append_ #[29, 29] 29 #[.slice none 0 0, .slice (some ⟨vb, 0, none⟩) 1 1]).run Tryz.prog w = .ok v' w' := e1
  have HW := Lib.hid e2
  have HG : Hid (w.grownBy w' none) := Lib.hid e3
  clear e1 e2 e3 hown hcv hv
  go_enter Tryz.func65, Tryz.ntmps65
  have hx := Ext.refl w
  go_wp2_with (at_builtin; refine Lib.wpList_append_run _ rfl _ _ _ _ rfl _ _ rfl rfl _ _ hr ?_)
  all_goals go_ret
  obtain ⟨_, h | ⟨g', cap, cur, rfl, h1, h2, h3, h4, h5, h6⟩⟩ := HW.out
  · exact absurd h.2 (Nat.succ_ne_zero _)
  · exact ⟨g', ⟨cap, rfl⟩, h1, Lib.hid ⟨cur.toList.drop ((0 + 1) * 2), by rw [show fl [f] = [] ++ fl [f] from rfl, ← h6, List.take_append_drop]; exact Blk.mk h2⟩, Below.grown (Ext.refl w) HG.out (Nat.le_refl _) (fun j e => by cases e)⟩
/-- slices.Insert of one file, wherever. -/
theorem insert_any (w0 w : World) (hw : Ext w0 w) (v : Value) (n k : Nat) (l : List Ig.Fi) (f : El) (vb : Nat) (hn : l.length = n) (hb : n ≤ 1000000) (hk : k ≤ n) (hv : Blk w vb 32 f.arr)
    (h : (v = .slice none 0 0 ∧ l = []) ∨ ∃ g c els, v = .slice (some ⟨g, 0, none⟩) l.length c ∧ w0.heap.size ≤ g ∧ c ≤ maxLen ∧ OwnC w g els c ∧ Rd w0 els l ∧ vb ≠ g) (y : Ig.Fi) (hy : FiR w0 All f.arr.toList y) :
    Calls Tryz.prog 65 #[v, .int .i64 k, .slice (some ⟨vb, 0, none⟩) 1 1] w fun e w' => ∃ g c els, e = .returned (.slice (some ⟨g, 0, none⟩) (n + 1) c) ∧ w0.heap.size ≤ g ∧ OwnT w' g els ∧ Rd w0 els (l.take k ++ y :: l.drop k) ∧ els[k]? = some f ∧ Ext w0 w' := by
  have hrd : ∀ els : List El, Rd w0 els l → Rd w0 (els.take k ++ f :: els.drop k) (l.take k ++ y :: l.drop k) ∧ (els.take k ++ f :: els.drop k)[k]? = some f := fun els hr => by
    have hl := hr.1
    have ht : (els.take k).length = k := by rw [List.length_take]; omega
    have ht2 : (l.take k).length = k := by rw [List.length_take]; omega
    refine ⟨⟨by simp; omega, fun i a x ha hx => ?_⟩, by rw [List.getElem?_append_right (by omega), ht, Nat.sub_self]; rfl⟩
    rcases Nat.lt_or_ge i k with h1 | h1
    · rw [List.getElem?_append_left (by omega), List.getElem?_take_of_lt h1] at ha hx
      exact hr.2 i a x ha hx
    · rw [List.getElem?_append_right (by omega), ht] at ha
      rw [List.getElem?_append_right (by omega), ht2] at hx
      rcases Nat.eq_zero_or_pos (i - k) with h2 | h2
      · rw [h2] at ha hx
        obtain rfl : f = a := by simpa using ha
        obtain rfl : y = x := by simpa using hx
        exact hy
      · obtain ⟨j, hj⟩ : ∃ j, i - k = j + 1 := ⟨i - k - 1, by omega⟩
        rw [hj, List.getElem?_cons_succ, List.getElem?_drop] at ha hx
        exact hr.2 _ a x ha hx
  rcases h with ⟨rfl, rfl⟩ | ⟨g, c, els, rfl, hg, hc, hO, hR, hne⟩
  · obtain rfl : n = 0 := hn.symm
    obtain rfl : k = 0 := by omega
    refine (insert_nil f vb w hv).mono ?_
    rintro e w' ⟨g, c, rfl, hg, hO, hx⟩
    have := hrd [] ⟨rfl, fun i a x ha => by simp at ha⟩
    exact ⟨g, c, _, rfl, Nat.le_trans hw.size_le hg, hO.out, this.1, this.2, hw.trans hx⟩
  · have hle := hR.1
    rw [hn] at hle ⊢
    rcases Nat.lt_or_ge k n with h1 | h1
    · rcases Nat.lt_or_ge n c with h2 | h2
      · refine (tinsert_room g n c k els f vb w hO hle h1 hb h2 (by unfold maxLen at hc; omega) hv hne).mono ?_
        rintro e w' ⟨g', c', rfl, hg', hO', hK⟩
        exact ⟨g', c', _, rfl, by omega, hO'.out, (hrd els hR).1, (hrd els hR).2, hK.out.ext w0 hw hg⟩
      · obtain rfl : c = n := by have := hO.le; omega
        refine (tinsert_grow g c k els f vb w hO hle h1 hb hv).mono ?_
        rintro e w' ⟨g', c', rfl, hg', hO', hK⟩
        exact ⟨g', c', _, rfl, by omega, hO'.out, (hrd els hR).1, (hrd els hR).2, hK.out.ext w0 hw hg⟩
    · obtain rfl : k = n := by omega
      refine (tinsert_end g k c els f vb w hO hle hb hc hv).mono ?_
      rintro e w' ⟨g', c', rfl, hg', hO', hK⟩
      have h3 := hrd els hR
      rw [List.take_of_length_le (by omega), List.drop_of_length_le (by omega)] at h3
      exact ⟨g', c', _, rfl, by omega, hO'.out, h3.1, h3.2, hK.out.ext w0 hw hg⟩
theorem OwnT.ext {w w' : World} {g : Nat} {els : List El} (h : OwnT w g els) (hx : Ext w w') : OwnT w' g els := h.imp fun _ h => h.ext hx
theorem OwnT.grown {w w' : World} {g : Nat} {els : List El} {row : Option Nat} (h : OwnT w g els) (hg : w.grownBy w' row) (hne : row ≠ some g) : OwnT w' g els :=
  let ⟨post, hB⟩ := h
  ⟨post, (hg.block g (Blk.lt hB) (fun e => hne e.symm)).trans hB⟩
end Ic
theorem wp_append_w {P : Program} {K : Act → World → Prop} {Q : Exit → Act → World → Prop} {α : Type} {k by_ : Nat} {R : Reads α} (ho1 : ∀ {w F c x}, R w F c x → ∀ u ∈ c, Value.oneCell' u = true) (w0 w : World) {o : Oper} {a : Act} (s x : Operand) (t e : TypeId) (i : TypeInfo) (z : Value)
    (ho : o.op = .call { callee := .builtin .append, args := #[s, x], argTypes := #[t, t] }) (ht : P.underlying t = some (.slice e)) (hi : P.info? e = some i) (hz : i.zero = some z) (hsz : i.size = k) (hby : i.bytes = by_) (hzk : z.cells.size = k) (hk : 0 < k)
    (base : Nat) {F : Nat → Prop} (v : Value) (l : List α) (hs : a.eval s = v) (h : OwnW k R e w0 w base F v l) (b c : Nat) (cells : List Value) (y : α) (hx : a.eval x = .slice (some ⟨b, 0, none⟩) 1 c) (hr : w.rangeAt b 0 cells) (hlen : cells.length = k) (hy : R w0 F cells y)
    (hn : l.length + 1 ≤ maxLen) (hbig : (l.length + 1) * by_ ≤ 140737488355328) (hbase : base ≤ w.heap.size)
    (hK : ∀ g cap w', OwnW k R e w0 w' base F (.slice (some ⟨g, 0, none⟩) (l.length + 1) cap) (l ++ [y]) → w.grownBy w' v.ownBlock → K (a.put o.dst (.slice (some ⟨g, 0, none⟩) (l.length + 1) cap)) w') : o.wp P a w K Q := by
  obtain ⟨cs, h1, h2, h3, h4⟩ := h
  refine wp_append_lies w s x t ho base e i z k by_ ht hi hz hsz hby hzk hk v l.length cs.flatten hs h3 ⟨b, 0, none⟩ 1 c cells hx (by rw [hlen, Nat.one_mul]) (fun j u hu => ?_) (fun u hu => ho1 hy u hu) (by omega) hn hbig hbase w.heap.size rfl (fun g cap w' hown hgrow _ _ => ?_)
  · rw [Addr.add_mid]
    exact hr j u hu
  · refine hK g cap w' ⟨cs ++ [cells], by simp [h1], fun d hd => ?_, ?_, fun j d q hd hq => ?_⟩ hgrow
    · rcases List.mem_append.1 hd with hd | hd
      · exact h2 d hd
      · obtain rfl : d = cells := by simpa using hd
        exact hlen
    · rw [List.length_append, List.flatten_append]
      simpa using hown
    · rcases Nat.lt_or_ge j cs.length with hj | hj
      · rw [List.getElem?_append_left hj] at hd
        rw [List.getElem?_append_left (by omega)] at hq
        exact h4 j d q hd hq
      · rw [List.getElem?_append_right hj] at hd
        rw [List.getElem?_append_right (by omega), ← h1] at hq
        have hj0 : j - cs.length = 0 := by
          have := (List.getElem?_eq_some_iff.1 hd).1
          simpa using this
        rw [hj0] at hd hq
        obtain rfl : cells = d := by simpa using hd
        obtain rfl : y = q := by simpa using hq
        exact hy
section
variable {α : Type} {k : Nat} {R : Reads α} {t : TypeId} {w0 w w' : World} {base : Nat} {F : Nat → Prop} {v : Value} {l : List α}
theorem OwnW.lt (h : OwnW k R t w0 w base F v l) (b : Nat) (e : v.ownBlock = some b) : base ≤ b ∧ b < w.heap.size := by
  obtain ⟨cs, h1, h2, h3, h4⟩ := h
  exact h3.lt b e
theorem OwnW.far (h : OwnW k R t w0 w base F v l) {p : Addr} (hp : ∀ b, v.ownBlock = some b → b ≠ p.block) (u : Value) : OwnW k R t w0 (w.setCell p u) base F v l := by
  obtain ⟨cs, h1, h2, ⟨h3, h5⟩, h4⟩ := h
  refine ⟨cs, h1, h2, ⟨h3, ?_⟩, h4⟩
  rcases h5 with h5 | ⟨g, cap, cur, rfl, hb, hg, r⟩
  · exact .inl h5
  · exact .inr ⟨g, cap, cur, rfl, hb, Blk.far (p := p) hg (hp g rfl) u, r⟩
end

set_option maxHeartbeats 16000000 in
set_option maxRecDepth 100000 in
/-- quiltlaw39.with. -/
theorem with_any (A : Option Addr) (n c : Nat) (l : List Ig.Fi) (dir : ByteArray) (x : Ig.Ru) (w : World) (h : Fis w All A l) (hn : l.length = n) (hb : n ≤ 1000) (hs : Ig.Own l) (hrl : ∀ f ∈ l, f.rules.length ≤ 1000) :
    Calls Tryz.prog 36 #[.slice A n c, .string dir, .agg #[.bool x.neg, .bool x.dirOnly, .bool x.anch, .string x.glob]] w fun e w' => ∃ A' n' c', e = .returned (.slice A' n' c') ∧ (Ig.addTo dir x l).length = n' ∧ Fis w' All A' (Ig.addTo dir x l) ∧ Ext w w' := by
  obtain ⟨w0, hw0⟩ : ∃ w0, w0 = w.alloc (.cells #[.bool x.neg, .bool x.dirOnly, .bool x.anch, .string x.glob] 60) := ⟨_, rfl⟩
  have HX0 : Hid (Ext w w0) := Lib.hid (by rw [hw0]; exact (Ext.refl w).alloc _)
  have HBX0 : Hid (∀ W, Ext w0 W → Blk W w.heap.size 60 #[.bool x.neg, .bool x.dirOnly, .bool x.anch, .string x.glob]) := Lib.hid fun W hW => Blk.ext hW (by rw [hw0]; exact Blk.new' rfl)
  have HCL := Lib.hid (fclone_any A n c l w0 w0 (F := All) (Sls.ext FiR.steadfast h HX0.out) (Ext.refl _) hn (by omega))
  have HN := Lib.hid hn
  have HS := Lib.hid hs
  have HRL := Lib.hid hrl
  rw [hw0] at HCL
  have HW0 := Lib.hid hw0
  clear h hn hs hrl hw0
  go_enter Tryz.func36, Tryz.ntmps36
  go_wp2_with fail
  refine HCL.out.mono ?_
  rw [← HW0.out]
  rintro e w1 ⟨v', rfl, hown, hx1⟩
  obtain ⟨A1, c1, e1, hc1, hsl⟩ := hown.sls FiR.steadfast hx1
  obtain ⟨m, hm⟩ : ∃ m, m = n := ⟨_, rfl⟩
  rw [HN.out] at e1
  subst e1
  have HIS := Lib.hid (isearch_any A1 n c1 l dir w1 hsl HN.out (by omega) HS.out)
  have HX1 := Lib.hid hx1
  have HO := Lib.hid (Ic.own_of hown)
  clear hown hx1 hsl hc1 HCL m hm
  go_upto_region 2 with fail
  go_cut [8, 9] (fun u8 u9 wx => ∃ (k : Nat) (b : Bool), u8 = .int .i64 k ∧ u9 = .bool b ∧ Hid (Ig.Cut l dir k) ∧ Hid (b = true ↔ ∃ y, l[k]? = some y ∧ y.dir = dir) ∧ Hid (Ext w1 wx))
  case first =>
    go_wp2_with fail
    refine HIS.out.mono ?_
    rintro e w2 ⟨k, b, rfl, HCU, HB, hx2⟩
    have HX2 := Lib.hid hx2
    clear hx2
    go_wp2_with fail
    go_meet
    exact ⟨k, b, rfl, rfl, HCU, HB, HX2⟩
  case rest =>
  rename World => w2
  obtain ⟨k, b, rfl, rfl, HCU, HB, HX12⟩ := hcut
  have HX2 := Lib.hid (HX1.out.trans HX12.out)
  have HO2 : Hid ((Value.slice A1 n c1 = .slice none 0 0 ∧ l = []) ∨ ∃ g c els, Value.slice A1 n c1 = .slice (some ⟨g, 0, none⟩) l.length c ∧ w0.heap.size ≤ g ∧ c ≤ maxLen ∧ Ic.OwnC w2 g els c ∧ Ic.Rd w0 els l) := Lib.hid (by
    rcases HO.out with h | ⟨g, c, els, h1, h2, h3, h4, h5⟩
    · exact .inl h
    · exact .inr ⟨g, c, els, h1, h2, h3, h4.ext HX12.out, h5⟩)
  have hkn : k ≤ n := by have := HCU.out.le; rw [HN.out] at this; exact this
  clear HX12 HIS HX1 HO
  go_upto_if 19 with fail
  go_cut [7] (fun u7 wx => ∃ (g m cc : Nat) (els : List Ic.El) (L : List Ig.Fi) (f : Ic.El) (y : Ig.Fi), u7 = .slice (some ⟨g, 0, none⟩) m cc ∧ k < m ∧ m ≤ 1001 ∧ Hid (L.length = m) ∧ w0.heap.size ≤ g ∧ Hid (Ic.OwnT wx g els) ∧ Hid (Ic.Rd w0 els L) ∧ Hid (els[k]? = some f) ∧ Hid (L[k]? = some y) ∧ y.rules.length ≤ 1000 ∧ Hid (Ig.addTo dir x l = L.set k ⟨dir, y.rules ++ [x]⟩) ∧ Hid (y.dir = dir) ∧ Hid (Ext w0 wx))
  case first =>
    cases b with
    | true =>
      obtain ⟨y, hy, hyd⟩ := HB.out.1 rfl
      rcases HO2.out with ⟨e, rfl⟩ | ⟨g, c2, els, e, hg, hc2, hO, hR⟩
      · simp at hy
      obtain ⟨rfl, -, rfl⟩ : A1 = some ⟨g, 0, none⟩ ∧ n = l.length ∧ c1 = c2 := by simpa using e
      have hkl := (List.getElem?_eq_some_iff.1 hy).1
      have hml : y ∈ l := List.mem_of_getElem? hy
      obtain ⟨f, hf⟩ : ∃ f, els[k]? = some f := ⟨_, List.getElem?_eq_getElem (by rw [hR.1]; exact hkl)⟩
      have HALL : Hid (k < n ∧ n ≤ 1001 ∧ Ic.OwnT w2 g els ∧ Ic.Rd w0 els l ∧ els[k]? = some f ∧ l[k]? = some y ∧ y.rules.length ≤ 1000 ∧ Ig.addTo dir x l = l.set k ⟨dir, y.rules ++ [x]⟩ ∧ y.dir = dir ∧ w0.heap.size ≤ g ∧ n ≤ c1) := Lib.hid ⟨by rw [← HN.out]; exact hkl, by omega, hO.own, hR, hf, hy, HRL.out y hml, Ig.addTo_old HCU.out hy hyd, hyd, hg, by have := hO.le; have := hR.1; have := HN.out; omega⟩
      clear hy hyd e hg hc2 hO hR hkl hml hf
      go_wp2_with fail
      go_meet
      obtain ⟨q1, q2, q3, q4, q5, q6, q7, q8, q9, q10, q11⟩ := HALL.out
      exact ⟨g, n, c1, els, l, f, y, rfl, q1, q2, HN, q10, Lib.hid q3, Lib.hid q4, Lib.hid q5, Lib.hid q6, q7, Lib.hid q8, Lib.hid q9, HX2⟩
    | false =>
      have HX3 := Lib.hid (HX2.out.alloc (.cells #[.string dir, .slice none 0 0] 32))
      have HNEW : Hid (∀ y, l[k]? = some y → y.dir ≠ dir) := Lib.hid fun y hy e => by have := HB.out.2 ⟨y, hy, e⟩; cases this
      have HADD := Lib.hid (Ig.addTo_two (x := x) HCU.out HNEW.out)
      have HINS := Lib.hid (Ic.insert_any w0 (w2.alloc (.cells #[.string dir, .slice none 0 0] 32)) HX3.out (.slice A1 n c1) n k l ⟨.string dir, .slice none 0 0, rfl, rfl⟩ w2.heap.size HN.out (by omega) hkn (Blk.new' rfl) (by
        rcases HO2.out with h | ⟨g, c, els, h1, h2, h3, h4, h5⟩
        · exact .inl h
        · exact .inr ⟨g, c, els, h1, h2, h3, h4.ext ((Ext.refl w2).alloc _), h5, by have := h4.own.lt; omega⟩) ⟨dir, []⟩ ⟨none, 0, 0, rfl, rfl, Nat.le_refl _, Sls.nil _ _ _ _⟩)
      clear HO2 HB HNEW
      go_wp2_with fail
      refine HINS.out.mono ?_
      rintro e w3 ⟨g, c3, els, rfl, hg, hO, hR, hf, hx3⟩
      have HALL : Hid (Ic.OwnT w3 g els ∧ Ic.Rd w0 els (l.take k ++ ⟨dir, []⟩ :: l.drop k) ∧ els[k]? = some ⟨.string dir, .slice none 0 0, rfl, rfl⟩ ∧ Ext w0 w3) := Lib.hid ⟨hO, hR, hf, hx3⟩
      clear hO hR hf hx3 HINS HX3
      go_wp2_with fail
      go_meet
      obtain ⟨q3, q4, q5, q6⟩ := HALL.out
      have hlen : (l.take k ++ (⟨dir, []⟩ : Ig.Fi) :: l.drop k).length = n + 1 := by have := HN.out; simp; omega
      have hat : (l.take k ++ (⟨dir, []⟩ : Ig.Fi) :: l.drop k)[k]? = some ⟨dir, []⟩ := by
        have : (l.take k).length = k := by have := HN.out; rw [List.length_take]; omega
        rw [List.getElem?_append_right (by omega), this, Nat.sub_self]; rfl
      exact ⟨g, n + 1, c3, els, _, _, ⟨dir, []⟩, rfl, by omega, by omega, Lib.hid hlen, hg, Lib.hid q3, Lib.hid q4, Lib.hid q5, Lib.hid hat, by simp, HADD, Lib.hid rfl, Lib.hid q6⟩
  case rest =>
    obtain ⟨g, m, cc, els, L, f, y, rfl, hkm, hm, HM, hg, HB, HR, HF, HY, hyr, HADD, HYD, HX⟩ := hcut
    clear HO2 HX2 HCU HS HRL hkn
    rename World => wx
    have hkl : k < L.length := (List.getElem?_eq_some_iff.1 HY.out).1
    obtain ⟨B, p, q, hfa, hpl, -, hrs⟩ := HR.out.2 k f y HF.out HY.out
    obtain ⟨hf0, hf1⟩ : f.a = .string y.dir ∧ f.b = .slice B p q := by simpa [Ic.El.arr] using hfa
    have HP := Lib.hid hpl
    have hp1 : p ≤ 1000 := by rw [← hpl]; exact hyr
    have HFA := Lib.hid hf0
    have HFB := Lib.hid hf1
    have HCL : Hid (∀ W, Ext w0 W → Calls Tryz.prog 66 #[.slice B p q] W (fun e w' => ∃ v', e = .returned v' ∧ OwnW 4 RuR 60 w0 w' W.heap.size All v' y.rules ∧ Ext W w')) := Lib.hid fun W hW => uclone_any B p q y.rules w0 W hrs hW hpl (by omega)
    have HFIN : Hid (∀ (gg cap base : Nat) (v5 : World) (hb : (Value.slice (some ⟨gg, 0, none⟩) (p + 1) cap).oneCell' = true), Hid (Ic.OwnT v5 g (els.set k ⟨f.a, .slice (some ⟨gg, 0, none⟩) (p + 1) cap, f.ha, hb⟩)) → Hid (OwnW 4 RuR 60 w0 v5 base All (.slice (some ⟨gg, 0, none⟩) (p + 1) cap) (y.rules ++ [x])) → Ext w0 v5 → ∃ A' n' c', Ending.returned (.slice (some ⟨g, 0, none⟩) m cc) = .returned (.slice A' n' c') ∧ (Ig.addTo dir x l).length = n' ∧ Fis v5 All A' (Ig.addTo dir x l) ∧ Ext w v5) := Lib.hid fun gg cap base v5 hb hT hO hv => by
      obtain ⟨A9, c9, e9, hle, hsl⟩ := hO.out.sls RuR.steadfast hv
      obtain ⟨rfl, -, rfl⟩ : some ⟨gg, 0, none⟩ = A9 ∧ p + 1 = (y.rules ++ [x]).length ∧ cap = c9 := by simpa using e9
      have hlr : (y.rules ++ [x]).length = p + 1 := by rw [List.length_append, HP.out]; rfl
      refine ⟨_, _, _, rfl, by rw [HADD.out, List.length_set]; exact HM.out, ?_, HX0.out.trans hv⟩
      rw [HADD.out]
      refine hT.out.sls ⟨by rw [List.length_set, List.length_set]; exact HR.out.1, fun i a z ha hz => ?_⟩
      rcases Nat.eq_or_lt_of_le (Nat.le_refl i) with _ | h9
      · by_cases hik : i = k
        · subst hik
          rw [List.getElem?_set_self (by have := HR.out.1; omega)] at ha
          rw [List.getElem?_set_self hkl] at hz
          obtain rfl := Option.some.inj ha
          obtain rfl := Option.some.inj hz
          exact ⟨_, _, _, by show [f.a, Value.slice (some ⟨gg, 0, none⟩) (p + 1) cap] = _; rw [HFA.out, HYD.out], hlr, by rw [← hlr]; exact hle, hsl⟩
        · rw [List.getElem?_set_ne (fun e => hik e.symm)] at ha hz
          exact FiR.steadfast.ext (HR.out.2 i a z ha hz) hv
      · omega
    clear hfa hpl hrs hkl
    obtain ⟨i0, z0, hi0, hz0, hs0, hby0, hzk0⟩ := ruInfo
    have HI0 := Lib.hid hi0
    have HZ0 := Lib.hid hz0
    have hf0 := HFA.out
    clear hi0 hz0 hf0 hf1
    go_upto_region 5 with fail
    refine wp_region_noPanic (wp_region_held_drew (S := fun w' => Ext w0 w') (by kernel_rfl) HX.out.drew1 (fun hv => ?_))
    have HB := Lib.hid (HB.out.ext (Ext.refl wx).drew1)
    generalize wx.drew = v0 at hv HB ⊢
    refine tf (i := 0) (v := .slice (some ⟨g, 0, none⟩) m cc) rfl rfl (fun _ => rfl) hv ?_
    try simp only [Act.put, sA, s0, sS]
    refine tf (i := 1) (v := .int .i64 k) rfl rfl (fun _ => rfl) hv ?_
    try simp only [Act.put, sA, s0, sS]
    refine tf (i := 2) (v := .slice (some ⟨g, 0, none⟩) m cc) rfl rfl (fun _ => rfl) hv ?_
    try simp only [Act.put, sA, s0, sS]
    refine tf (i := 3) (v := .int .i64 k) rfl rfl (fun _ => rfl) hv ?_
    try simp only [Act.put, sA, s0, sS]
    refine take_any (i := 4) (v := .pointer (some ⟨g, k * 2, none⟩)) rfl rfl (by kernel_rfl) (by kernel_rfl) (by kernel_rfl) (.inl ⟨(by kernel_rfl), fun W' hW' => ?ja⟩) hv ?_
    case ja => go_simp
    try simp only [Act.put, sA, s0, sS]
    refine take_any (i := 5) (v := .pointer (some ⟨g, k * 2 + 1, none⟩)) rfl rfl (by kernel_rfl) (by kernel_rfl) (by kernel_rfl) (.inl ⟨(by kernel_rfl), fun W' hW' => ?fb⟩) hv ?_
    case fb => go_simp
    try simp only [Act.put, sA, s0, sS]
    refine tl (i := 8) [.bool x.neg, .bool x.dirOnly, .bool x.anch, .string x.glob] rfl rfl rfl rfl rfl Tryz.underlying60 rfl (fun _ h => (HBX0.out _ h).range 0 _ (fun j _ => by simp)) hv ?_
    try simp only [Act.put, sA, s0, sS]
    have hi0 := HI0.out
    have hz0 := HZ0.out
    refine wpAnyH_ready (rs := [6, 9]) (by kernel_rfl) (by simp) ?_
    refine (AllReadyH.cons rfl (fun K hK => ?_) (AllReadyH.cons rfl (fun K hK => ?_) AllReadyH.nil))
    · have hc0 := (HB.out.cells HF.out).2
      rw [HFB.out] at hc0
      go_simp
      refine hK.out _ _ (hv) (fun _ => ?_)
      clear hK
      try simp only [Act.put, sA, s0, sS]
      clear hc0
      refine wpAnyH_ready (rs := [7, 9]) (by kernel_rfl) (by simp) ?_
      refine (AllReadyH.cons rfl (fun K hK => ?_) (AllReadyH.cons rfl (fun K hK => ?_) AllReadyH.nil))
      · go_simp
        refine (HCL.out v0 hv).mono ?_
        rintro e vc ⟨v', rfl, hown, hx0⟩
        have hgb : g < v0.heap.size := HB.out.lt
        have hwb : w0.heap.size ≤ v0.heap.size := hv.size_le
        have hbs : v0.heap.size ≤ vc.heap.size := hx0.size_le
        generalize v0.heap.size = base at hown hgb hwb hbs
        have hv2 := hv.trans hx0
        refine hK.out _ _ (hv2) (fun _ => ?_)
        clear hK
        try simp only [Act.put, sA, s0, sS]
        have HO := Lib.hid hown
        have HB := Lib.hid (HB.out.ext hx0)
        have hv := hv2
        clear hv2 hx0 hown
        refine wpAnyH_one (i := 9) (by kernel_rfl) rfl (by kernel_rfl) ?_
        go_simp
        refine ⟨hv.alloc _, ?_⟩
        try simp only [Act.put, sA, s0, sS]
        have hx0 : Ext vc (vc.alloc (.cells #[.bool x.neg, .bool x.dirOnly, .bool x.anch, .string x.glob] 60)) := (Ext.refl vc).alloc _
        have hl : Blk (vc.alloc (.cells #[.bool x.neg, .bool x.dirOnly, .bool x.anch, .string x.glob] 60)) vc.heap.size 60 #[.bool x.neg, .bool x.dirOnly, .bool x.anch, .string x.glob] := Blk.new' rfl
        generalize vc.alloc (.cells #[.bool x.neg, .bool x.dirOnly, .bool x.anch, .string x.glob] 60) = vl at hx0 hl ⊢
        generalize vc.heap.size = gl at hl ⊢
        have HL := Lib.hid hl
        have hv2 := hv.trans hx0
        have HB := Lib.hid (HB.out.ext hx0)
        have HO := Lib.hid (HO.out.ext hx0)
        have hbs := Nat.le_trans hbs hx0.size_le
        have hv := hv2
        clear hv2 hx0 hl
        refine wpAnyH_one (i := 10) (by kernel_rfl) rfl (by kernel_rfl) ?_
        refine wp_append_w (R := RuR) (fun h => RuR.one h) w0 vl _ _ 23 60 i0 z0 rfl Tryz.underlying23 hi0 hz0 hs0 hby0 hzk0 (by decide) base v' y.rules rfl HO.out gl 1 [.bool x.neg, .bool x.dirOnly, .bool x.anch, .string x.glob] x rfl (HL.out.range 0 _ (fun j _ => by simp)) rfl rfl (by have := HP.out; unfold maxLen; omega) (by have := HP.out; omega) hbs ?_
        intro gg cap v4 hown4 hgrow
        have hlt := HO.out.lt
        have hv4 : Ext w0 v4 := Below.grown hv hgrow hv.size_le (fun k e => by have := (hlt k e).1; omega)
        have HB4 : Hid (Ic.OwnT v4 g els) := Lib.hid (HB.out.grown hgrow (fun e => by have := (hlt g e).1; omega))
        have HO4 := Lib.hid hown4
        rw [HP.out] at HO4 ⊢
        refine ⟨hv4, ?_⟩
        try simp only [Act.put, sA, s0, sS]
        clear hv
        have hv := hv4
        clear hv4 hgrow hlt hown4
        refine take_any (i := 11) (v := .pointer (some ⟨g, k * 2, none⟩)) rfl rfl (by kernel_rfl) (by kernel_rfl) (by kernel_rfl) (.inl ⟨(by kernel_rfl), fun W' hW' => ?ia⟩) hv ?_
        case ia => go_simp
        try simp only [Act.put, sA, s0, sS]
        refine take_any (i := 12) (v := .pointer (some ⟨g, k * 2 + 1, none⟩)) rfl rfl (by kernel_rfl) (by kernel_rfl) (by kernel_rfl) (.inl ⟨(by kernel_rfl), fun W' hW' => ?fa⟩) hv ?_
        case fa => go_simp
        try simp only [Act.put, sA, s0, sS]
        have hc4 := (HB4.out.cells HF.out).2
        have hf4 := HB4.out.free
        refine wpAnyH_one (i := 13) (by kernel_rfl) rfl (by kernel_rfl) ?_
        go_simp
        refine ⟨Ext.setCell (p := ⟨g, k * 2 + 1, none⟩) hv hg _, ?_⟩
        try simp only [Act.put, sA, s0, sS]
        clear hc4 hf4
        refine wpAnyH_done (by kernel_rfl) (NoPanic.normal ?_) _
        go_wp2_with fail
        go_ret
        have hgg := (HO4.out.lt gg rfl).1
        exact HFIN.out gg cap base _ rfl (Lib.hid (HB4.out.store HF.out _ rfl)) (Lib.hid (HO4.out.far (p := ⟨g, k * 2 + 1, none⟩) (fun k e => by have := (HO4.out.lt k e).1; show k ≠ g; omega) _)) (Ext.setCell (p := ⟨g, k * 2 + 1, none⟩) hv hg _)
      · skip
        go_simp
        refine hK.out _ _ (hv.alloc _) (fun _ => ?_)
        clear hK
        try simp only [Act.put, sA, s0, sS]
        have hx0 : Ext v0 (v0.alloc (.cells #[.bool x.neg, .bool x.dirOnly, .bool x.anch, .string x.glob] 60)) := (Ext.refl v0).alloc _
        have hl : Blk (v0.alloc (.cells #[.bool x.neg, .bool x.dirOnly, .bool x.anch, .string x.glob] 60)) v0.heap.size 60 #[.bool x.neg, .bool x.dirOnly, .bool x.anch, .string x.glob] := Blk.new' rfl
        generalize v0.alloc (.cells #[.bool x.neg, .bool x.dirOnly, .bool x.anch, .string x.glob] 60) = vl at hx0 hl ⊢
        generalize v0.heap.size = gl at hl ⊢
        have HL := Lib.hid hl
        have hv2 := hv.trans hx0
        have HB := Lib.hid (HB.out.ext hx0)
        have hv := hv2
        clear hv2 hx0 hl
        refine wpAnyH_one (i := 7) (by kernel_rfl) rfl (by kernel_rfl) ?_
        go_simp
        refine (HCL.out vl hv).mono ?_
        rintro e vc ⟨v', rfl, hown, hx0⟩
        have hgb : g < vl.heap.size := HB.out.lt
        have hwb : w0.heap.size ≤ vl.heap.size := hv.size_le
        have hbs : vl.heap.size ≤ vc.heap.size := hx0.size_le
        generalize vl.heap.size = base at hown hgb hwb hbs
        have hv2 := hv.trans hx0
        refine ⟨hv2, ?_⟩
        try simp only [Act.put, sA, s0, sS]
        have HO := Lib.hid hown
        have HB := Lib.hid (HB.out.ext hx0)
        have HL := Lib.hid (Blk.ext hx0 HL.out)
        have hv := hv2
        clear hv2 hx0 hown
        refine wpAnyH_one (i := 10) (by kernel_rfl) rfl (by kernel_rfl) ?_
        refine wp_append_w (R := RuR) (fun h => RuR.one h) w0 vc _ _ 23 60 i0 z0 rfl Tryz.underlying23 hi0 hz0 hs0 hby0 hzk0 (by decide) base v' y.rules rfl HO.out gl 1 [.bool x.neg, .bool x.dirOnly, .bool x.anch, .string x.glob] x rfl (HL.out.range 0 _ (fun j _ => by simp)) rfl rfl (by have := HP.out; unfold maxLen; omega) (by have := HP.out; omega) hbs ?_
        intro gg cap v4 hown4 hgrow
        have hlt := HO.out.lt
        have hv4 : Ext w0 v4 := Below.grown hv hgrow hv.size_le (fun k e => by have := (hlt k e).1; omega)
        have HB4 : Hid (Ic.OwnT v4 g els) := Lib.hid (HB.out.grown hgrow (fun e => by have := (hlt g e).1; omega))
        have HO4 := Lib.hid hown4
        rw [HP.out] at HO4 ⊢
        refine ⟨hv4, ?_⟩
        try simp only [Act.put, sA, s0, sS]
        clear hv
        have hv := hv4
        clear hv4 hgrow hlt hown4
        refine take_any (i := 11) (v := .pointer (some ⟨g, k * 2, none⟩)) rfl rfl (by kernel_rfl) (by kernel_rfl) (by kernel_rfl) (.inl ⟨(by kernel_rfl), fun W' hW' => ?ia⟩) hv ?_
        case ia => go_simp
        try simp only [Act.put, sA, s0, sS]
        refine take_any (i := 12) (v := .pointer (some ⟨g, k * 2 + 1, none⟩)) rfl rfl (by kernel_rfl) (by kernel_rfl) (by kernel_rfl) (.inl ⟨(by kernel_rfl), fun W' hW' => ?fa⟩) hv ?_
        case fa => go_simp
        try simp only [Act.put, sA, s0, sS]
        have hc4 := (HB4.out.cells HF.out).2
        have hf4 := HB4.out.free
        refine wpAnyH_one (i := 13) (by kernel_rfl) rfl (by kernel_rfl) ?_
        go_simp
        refine ⟨Ext.setCell (p := ⟨g, k * 2 + 1, none⟩) hv hg _, ?_⟩
        try simp only [Act.put, sA, s0, sS]
        clear hc4 hf4
        refine wpAnyH_done (by kernel_rfl) (NoPanic.normal ?_) _
        go_wp2_with fail
        go_ret
        have hgg := (HO4.out.lt gg rfl).1
        exact HFIN.out gg cap base _ rfl (Lib.hid (HB4.out.store HF.out _ rfl)) (Lib.hid (HO4.out.far (p := ⟨g, k * 2 + 1, none⟩) (fun k e => by have := (HO4.out.lt k e).1; show k ≠ g; omega) _)) (Ext.setCell (p := ⟨g, k * 2 + 1, none⟩) hv hg _)
    · skip
      go_simp
      refine hK.out _ _ (hv.alloc _) (fun _ => ?_)
      clear hK
      try simp only [Act.put, sA, s0, sS]
      have hx0 : Ext v0 (v0.alloc (.cells #[.bool x.neg, .bool x.dirOnly, .bool x.anch, .string x.glob] 60)) := (Ext.refl v0).alloc _
      have hl : Blk (v0.alloc (.cells #[.bool x.neg, .bool x.dirOnly, .bool x.anch, .string x.glob] 60)) v0.heap.size 60 #[.bool x.neg, .bool x.dirOnly, .bool x.anch, .string x.glob] := Blk.new' rfl
      generalize v0.alloc (.cells #[.bool x.neg, .bool x.dirOnly, .bool x.anch, .string x.glob] 60) = vl at hx0 hl ⊢
      generalize v0.heap.size = gl at hl ⊢
      have HL := Lib.hid hl
      have hv2 := hv.trans hx0
      have HB := Lib.hid (HB.out.ext hx0)
      have hv := hv2
      clear hv2 hx0 hl
      have hc0 := (HB.out.cells HF.out).2
      rw [HFB.out] at hc0
      refine wpAnyH_one (i := 6) (by kernel_rfl) rfl (by kernel_rfl) ?_
      go_simp
      try simp only [Act.put, sA, s0, sS]
      clear hc0
      refine wpAnyH_one (i := 7) (by kernel_rfl) rfl (by kernel_rfl) ?_
      go_simp
      refine (HCL.out vl hv).mono ?_
      rintro e vc ⟨v', rfl, hown, hx0⟩
      have hgb : g < vl.heap.size := HB.out.lt
      have hwb : w0.heap.size ≤ vl.heap.size := hv.size_le
      have hbs : vl.heap.size ≤ vc.heap.size := hx0.size_le
      generalize vl.heap.size = base at hown hgb hwb hbs
      have hv2 := hv.trans hx0
      refine ⟨hv2, ?_⟩
      try simp only [Act.put, sA, s0, sS]
      have HO := Lib.hid hown
      have HB := Lib.hid (HB.out.ext hx0)
      have HL := Lib.hid (Blk.ext hx0 HL.out)
      have hv := hv2
      clear hv2 hx0 hown
      refine wpAnyH_one (i := 10) (by kernel_rfl) rfl (by kernel_rfl) ?_
      refine wp_append_w (R := RuR) (fun h => RuR.one h) w0 vc _ _ 23 60 i0 z0 rfl Tryz.underlying23 hi0 hz0 hs0 hby0 hzk0 (by decide) base v' y.rules rfl HO.out gl 1 [.bool x.neg, .bool x.dirOnly, .bool x.anch, .string x.glob] x rfl (HL.out.range 0 _ (fun j _ => by simp)) rfl rfl (by have := HP.out; unfold maxLen; omega) (by have := HP.out; omega) hbs ?_
      intro gg cap v4 hown4 hgrow
      have hlt := HO.out.lt
      have hv4 : Ext w0 v4 := Below.grown hv hgrow hv.size_le (fun k e => by have := (hlt k e).1; omega)
      have HB4 : Hid (Ic.OwnT v4 g els) := Lib.hid (HB.out.grown hgrow (fun e => by have := (hlt g e).1; omega))
      have HO4 := Lib.hid hown4
      rw [HP.out] at HO4 ⊢
      refine ⟨hv4, ?_⟩
      try simp only [Act.put, sA, s0, sS]
      clear hv
      have hv := hv4
      clear hv4 hgrow hlt hown4
      refine take_any (i := 11) (v := .pointer (some ⟨g, k * 2, none⟩)) rfl rfl (by kernel_rfl) (by kernel_rfl) (by kernel_rfl) (.inl ⟨(by kernel_rfl), fun W' hW' => ?ia⟩) hv ?_
      case ia => go_simp
      try simp only [Act.put, sA, s0, sS]
      refine take_any (i := 12) (v := .pointer (some ⟨g, k * 2 + 1, none⟩)) rfl rfl (by kernel_rfl) (by kernel_rfl) (by kernel_rfl) (.inl ⟨(by kernel_rfl), fun W' hW' => ?fa⟩) hv ?_
      case fa => go_simp
      try simp only [Act.put, sA, s0, sS]
      have hc4 := (HB4.out.cells HF.out).2
      have hf4 := HB4.out.free
      refine wpAnyH_one (i := 13) (by kernel_rfl) rfl (by kernel_rfl) ?_
      go_simp
      refine ⟨Ext.setCell (p := ⟨g, k * 2 + 1, none⟩) hv hg _, ?_⟩
      try simp only [Act.put, sA, s0, sS]
      clear hc4 hf4
      refine wpAnyH_done (by kernel_rfl) (NoPanic.normal ?_) _
      go_wp2_with fail
      go_ret
      have hgg := (HO4.out.lt gg rfl).1
      exact HFIN.out gg cap base _ rfl (Lib.hid (HB4.out.store HF.out _ rfl)) (Lib.hid (HO4.out.far (p := ⟨g, k * 2 + 1, none⟩) (fun k e => by have := (HO4.out.lt k e).1; show k ≠ g; omega) _)) (Ext.setCell (p := ⟨g, k * 2 + 1, none⟩) hv hg _)
end Go.Proofs.YtnjcifppkijanaaGreatDoor
namespace Go.Proofs.YtnjcifppkijanaaGreatDoor
open Go Go.Proofs.YtnjcifppkijanaaGreatDoor.Pa
namespace Ic
/-- The parts of a path between slashes. -/
def segs : List UInt8 → List (List UInt8)
  | [] => [[]]
  | c :: r => if c = 47 then [] :: segs r else match segs r with
    | [] => [[c]]
    | x :: xs => (c :: x) :: xs
theorem segs_ne (l : List UInt8) : segs l ≠ [] := by
  cases l with
  | nil => simp [segs]
  | cons c r =>
    unfold segs
    split
    · simp
    · split <;> simp
theorem segs_app (a b : List UInt8) : segs (a ++ 47 :: b) = segs a ++ segs b := by
  induction a with
  | nil => simp [segs]
  | cons c a ih =>
    rw [List.cons_append, segs, segs, ih]
    split
    · rfl
    · cases h : segs a with
      | nil => exact (segs_ne a h).elim
      | cons x xs => rfl
theorem segs_one {a : List UInt8} (h : 47 ∉ a) : segs a = [a] := by
  induction a with
  | nil => rfl
  | cons c a ih =>
    rw [List.mem_cons] at h
    have h1 : c ≠ 47 := fun e => h (.inl e.symm)
    rw [segs, if_neg h1, ih fun k => h (.inr k)]
theorem pieces_segs : ∀ (n : Nat) (s : ByteArray), s.size ≤ n → (pieces s).map L = segs (L s) := by
  intro n
  induction n with
  | zero =>
    intro s hs
    have h0 : L s = [] := List.length_eq_zero_iff.1 (by have : (L s).length = s.size := rfl; omega)
    rw [pieces_miss (indexByte_not fun j => by rw [show s.data.toList = [] from h0]; simp), h0]
    simp [segs, h0]
  | succ n ih =>
    intro s hs
    have hg := Lib.indexByte_ge (L s) 47
    by_cases hm : Lib.indexByte (L s) 47 = -1
    · rw [pieces_miss hm]
      rw [segs_one (fun k => by
        obtain ⟨j, hj⟩ := List.mem_iff_getElem?.1 k
        exact Lib.indexByte_none hm j hj)]
      rfl
    · obtain ⟨o, ho⟩ : ∃ o : Nat, Lib.indexByte (L s) 47 = o := ⟨(Lib.indexByte (L s) 47).toNat, by omega⟩
      obtain ⟨h1, h2⟩ := Lib.indexByte_some ho
      have hlt := (List.getElem?_eq_some_iff.1 h1).1
      have hls : (L s).length = s.size := rfl
      rw [pieces_hit ho, List.map_cons, ih _ (by rw [ByteArray.size_extract]; omega)]
      have e1 : L (s.extract 0 o) = (L s).take o := by rw [L_extract, List.drop_zero]
      have e2 : L (s.extract (o + 1) s.size) = (L s).drop (o + 1) := by rw [L_extract, ← hls, List.take_length]
      rw [e1, e2]
      have e3 : L s = (L s).take o ++ 47 :: (L s).drop (o + 1) := by
        conv => lhs; rw [← List.take_append_drop o (L s), List.drop_eq_getElem_cons hlt]
        rw [(List.getElem?_eq_some_iff.1 h1).2]
      conv => rhs; rw [e3]
      rw [segs_app, segs_one (a := (L s).take o) (fun k => by
        obtain ⟨j, hj⟩ := List.mem_iff_getElem?.1 k
        rw [List.getElem?_take] at hj
        split at hj
        · exact h2 j (by assumption) hj
        · cases hj)]
      rfl
def nameOk (l : List UInt8) : Bool := Qm.isName ⟨l.toArray⟩
theorem nameOk_L (s : ByteArray) : nameOk (L s) = Qm.isName s := by
  unfold nameOk
  congr 1
def okS (l : List UInt8) : Bool := (segs l).all nameOk
theorem isPath_segs (s : ByteArray) : Qm.isPath s = (decide (s.size ≤ 200) && okS (L s)) := by
  rw [isPath_pieces, okS, ← pieces_segs s.size s (Nat.le_refl _), List.all_map]
  congr 2
theorem okS_app (a b : List UInt8) : okS (a ++ 47 :: b) = (okS a && okS b) := by
  unfold okS
  rw [segs_app, List.all_append]
/-- What a path is made of. -/
structure Parts (path : ByteArray) (name : List UInt8) : Prop where
  ne : name ≠ []
  slash : 47 ∉ name
  line : 10 ∉ name
  whole : L path = if L (Tr.parent path) = [] then name else L (Tr.parent path) ++ 47 :: name
  dir : (Tr.parent path).toList = [] ∨ Qm.isPath (Tr.parent path) = true
  trim : Lib.trimPrefix ((L path).drop (Tr.parent path).size) [47] = name
theorem nameOk_facts {n : List UInt8} (h : nameOk n = true) : n ≠ [] ∧ 10 ∉ n := by
  unfold nameOk Qm.isName at h
  rw [Bool.and_eq_true] at h
  refine ⟨fun e => ?_, fun k => ?_⟩
  · subst e
    have h9 : (!((⟨([] : List UInt8).toArray⟩ : ByteArray).toList == []) && decide ((⟨([] : List UInt8).toArray⟩ : ByteArray).size ≤ 40) && !((⟨([] : List UInt8).toArray⟩ : ByteArray).toList == [46]) && !((⟨([] : List UInt8).toArray⟩ : ByteArray).toList == [46, 46])) = false := by
      rw [ByteArray.toList_eq]
      rfl
    rw [h9] at h
    exact absurd h.2 (by decide)
  · have h1 := List.all_eq_true.1 h.1 10 k
    revert h1
    decide
theorem parts {path : ByteArray} (h : Qm.isPath path = true) : ∃ name, Parts path name := by
  have hs := h
  rw [isPath_segs, Bool.and_eq_true] at hs
  obtain ⟨h200, hok⟩ := hs
  rcases Tr.parent_cases path with ⟨h1, h2⟩ | ⟨name, h1, h2⟩
  · have hd : L (Tr.parent path) = [] := by rw [h2]
    have hn : nameOk (L path) = true := by
      unfold okS at hok
      rw [segs_one h1] at hok
      simpa using hok
    obtain ⟨q1, q2⟩ := nameOk_facts hn
    refine ⟨L path, q1, h1, q2, by rw [if_pos hd], .inl (by rw [ByteArray.toList_eq]; exact hd), ?_⟩
    have hz : (Tr.parent path).size = 0 := by rw [h2]; rfl
    rw [hz, List.drop_zero]
    unfold Lib.trimPrefix
    rw [if_neg]
    intro hp
    have := (List.isPrefixOf_iff_prefix.1 hp)
    exact h1 (this.subset (by simp))
  · rw [h2, okS_app, Bool.and_eq_true] at hok
    have hn : nameOk name = true := by
      have := hok.2
      unfold okS at this
      rw [segs_one h1] at this
      simpa using this
    obtain ⟨q1, q2⟩ := nameOk_facts hn
    have hdp : Qm.isPath (Tr.parent path) = true := by
      rw [isPath_segs, Bool.and_eq_true]
      refine ⟨?_, hok.1⟩
      have : (L path).length = path.size := rfl
      have h5 : (L (Tr.parent path)).length = (Tr.parent path).size := rfl
      rw [h2] at this
      simp only [List.length_append, List.length_cons] at this
      simp at h200 ⊢
      omega
    have hd : L (Tr.parent path) ≠ [] := fun e => by
      have := Tr.isPath_ne hdp
      exact this (L_inj (by rw [e]))
    refine ⟨name, q1, h1, q2, by rw [if_neg hd]; exact h2, .inr hdp, ?_⟩
    have h5 : (L (Tr.parent path)).length = (Tr.parent path).size := rfl
    rw [h2, ← h5, List.drop_left]
    unfold Lib.trimPrefix
    rw [if_pos (by simp [Lib.hasPrefix])]
    rfl
/-- THE LAW OF IgnoreLast, as the program asks for it. -/
theorem last_all {l : List Ig.Fi} {path : ByteArray} {name : List UInt8} (neg isDir : Bool) (hg : Ig.great l = false) (h : Ig.fcheck l = 0) (hp : Qm.isPath path = true) (hz : path.size ≤ 100) (hN : Parts path name) :
    Ig.fcheck (Ig.addTo (Tr.parent path) ⟨neg, false, true, Ig.bs (Ig.quoted name)⟩ l) = 0 ∧
    Ig.Ignored (Ig.addTo (Tr.parent path) ⟨neg, false, true, Ig.bs (Ig.quoted name)⟩ l) path isDir = ((!(decide (L (Tr.parent path) = [])) && Ig.Ignored l (Tr.parent path) true) || !neg) := by
  have hle : name.length ≤ 100 := by
    have : (L path).length = path.size := rfl
    rw [hN.whole] at this
    split at this
    · omega
    · simp only [List.length_append, List.length_cons] at this
      omega
  have h5 := (Ig.great_false hg).1
  have hfine := (Ig.fcheck_zero.1 h).2
  have hru : ∀ f ∈ l, f.rules.length < 100 := fun f hf => by
    have h100 := (Ig.print_ok (hfine.rules f hf)).1
    unfold Ig.great at hg
    rw [Bool.or_eq_false_iff, List.any_eq_false] at hg
    have := hg.1 f hf
    unfold Ig.greatRules at this
    simp at this
    have h8 := this.2.2
    omega
  have hm := Ig.addTo_fcheck (dir := Tr.parent path) (x := ⟨neg, false, true, Ig.bs (Ig.quoted name)⟩) h (by omega) hru hN.dir (Ig.ruleErr_quoted hN.ne hN.slash hN.line hle neg)
  refine ⟨hm, ?_⟩
  unfold Ig.Ignored
  rw [decide_eq_true hm, decide_eq_true h, hp, Bool.true_and, Bool.true_and, Bool.true_and, Ig.last_law39 h hN.ne hN.slash hle hN.whole]
  by_cases hd : L (Tr.parent path) = []
  · have hd' : Ig.L (Tr.parent path) = [] := hd
    rw [decide_eq_true hd]
    rfl
  · have hd' : ¬ Ig.L (Tr.parent path) = [] := hd
    rcases hN.dir with e | e
    · rw [ByteArray.toList_eq] at e
      exact (hd e).elim
    · rw [e, Bool.true_and]
end Ic
end Go.Proofs.YtnjcifppkijanaaGreatDoor
namespace Go.Proofs.YtnjcifppkijanaaGreatDoor
open Go Go.RowKit Go.Shelf
set_option maxHeartbeats 8000000 in
set_option maxRecDepth 100000 in
theorem last_walk (A : Option Addr) (n c : Nat) (l : List Ig.Fi) (path : ByteArray) (dir neg : Bool) (w : World) (hg : Glob w) (h : Fis w All A l) (hn : l.length = n) (hb : n ≤ 4611686018427387904) (hrl : ∀ f ∈ l, f.rules.length ≤ 4611686018427387904) :
    Calls Tryz.prog 10 #[.slice A n c, .string path, .bool dir, .bool neg] w (Ret (.bool true) w) := by
  have HG := Lib.hid hg
  have HL := Lib.hid h
  have HN := Lib.hid hn
  have HGR := Lib.hid (great39_any A n c l w h hn hb hrl)
  obtain ⟨gr, hgr⟩ : ∃ gr, gr = Ig.great l := ⟨_, rfl⟩
  rw [← hgr] at HGR
  have HE := Lib.hid hgr
  have HAW : Hid (∀ W, Ext w W → Calls Tryz.prog 11 #[] W (Ret (.bool true) W)) := Lib.hid fun W hW => awake39_any W (HG.out.ext hW)
  have hx := Ext.refl w
  clear h hn hg hgr hrl
  go_enter Tryz.func10, Tryz.ntmps10
  go_wp2_with fail
  refine HGR.out.mono ?_
  rintro e w1 ⟨rfl, hx0⟩
  have HX := Lib.hid (hx.trans hx0)
  clear hx hx0 HGR
  cases gr with
  | true =>
    go_wp2_with fail
    refine (HAW.out _ HX.out).mono ?_
    rintro e w2 ⟨rfl, hx0⟩
    have HX2 := Lib.hid (HX.out.trans hx0)
    clear hx0
    go_wp2_with fail
    go_ret
    exact ⟨rfl, HX2.out⟩
  | false =>
  have hn1 : n ≤ 5 := by rw [← HN.out]; exact (Ig.great_false HE.out.symm).1
  have HF := Lib.hid (Ig.great_false HE.out.symm).2
  have HCH := Lib.hid (rcheck39_any A n c l w1 (Sls.ext FiR.steadfast HL.out HX.out) HN.out (by omega) HF.out)
  obtain ⟨fc, hfc⟩ : ∃ z, z = Ig.fcheck l := ⟨_, rfl⟩
  rw [← hfc] at HCH
  have HFC := Lib.hid hfc
  clear hfc
  go_wp2_with fail
  refine HCH.out.mono ?_
  rintro e w2 ⟨rfl, hx0⟩
  have HX2 := Lib.hid (HX.out.trans hx0)
  clear hx0 HCH HX
  cases hz : (fc != 0) with
  | true =>
    go_wp2_with fail
    refine (HAW.out _ HX2.out).mono ?_
    rintro e w3 ⟨rfl, hx0⟩
    have HX3 := Lib.hid (HX2.out.trans hx0)
    clear hx0
    go_wp2_with fail
    go_ret
    exact ⟨rfl, HX3.out⟩
  | false =>
  obtain rfl : fc = 0 := by simpa using hz
  clear hz
  by_cases hps : 100 < path.size
  · have hps2 : (100 : Int) < (path.size : Int) := by omega
    go_wp2_with fail
    refine (HAW.out _ HX2.out).mono ?_
    rintro e w3 ⟨rfl, hx0⟩
    have HX3 := Lib.hid (HX2.out.trans hx0)
    clear hx0
    go_wp2_with fail
    go_ret
    exact ⟨rfl, HX3.out⟩
  have hps2 : ¬ ((100 : Int) < (path.size : Int)) := by omega
  have HPA : Hid (∀ W, Calls Tryz.prog 22 #[.string path] W (Same (.bool (Qm.isPath path)) W)) := Lib.hid fun W => rpath_same path W
  obtain ⟨ip, hip⟩ : ∃ z, z = Qm.isPath path := ⟨_, rfl⟩
  rw [← hip] at HPA
  have HIP := Lib.hid hip
  clear hip
  go_wp2_with fail
  refine (HPA.out _).mono ?_
  rintro e w3 ⟨rfl, rfl⟩
  cases ip with
  | false =>
    go_wp2_with fail
    refine (HAW.out _ HX2.out).mono ?_
    rintro e w3 ⟨rfl, hx0⟩
    have HX3 := Lib.hid (HX2.out.trans hx0)
    clear hx0
    go_wp2_with fail
    go_ret
    exact ⟨rfl, HX3.out⟩
  | true =>
  obtain ⟨name, hN⟩ := Ic.parts HIP.out.symm
  obtain ⟨hm0, hm1⟩ := Ic.last_all neg dir HE.out.symm HFC.out.symm HIP.out.symm (by omega) hN
  have HPR : Hid (∀ W, Calls Tryz.prog 34 #[.string path] W (Ret (.string (Tr.parent path)) W)) := Lib.hid fun W => rtparent_any path W (by omega)
  have hpsz : (Tr.parent path).size ≤ path.size := by
    have h5 : (Pa.L (Tr.parent path)).length = (Tr.parent path).size := rfl
    have h6 : (Pa.L path).length = path.size := rfl
    rw [hN.whole] at h6
    split at h6
    · rename_i e
      rw [e] at h5
      simp at h5
      omega
    · simp only [List.length_append, List.length_cons] at h6
      omega
  have htrim := hN.trim
  obtain ⟨par, hpar⟩ : ∃ z, z = Tr.parent path := ⟨_, rfl⟩
  rw [← hpar] at hm0 hm1 HPR hpsz htrim
  have HTP : Hid (∀ W, Calls Tryz.prog 35 #[.string (path.extract par.size path.size), .string ⟨#[47]⟩] W fun e w' => e = .returned (.string ⟨name.toArray⟩) ∧ w' = W) := Lib.hid fun W => by
    have h7 := Tryz.strings_TrimPrefix (path.extract par.size path.size) ⟨#[47]⟩ W
    have e1 : (path.extract par.size path.size).data.toList = (Pa.L path).drop par.size := by
      have := Pa.L_extract path par.size path.size
      have h6 : (Pa.L path).length = path.size := rfl
      rw [← h6, List.take_length] at this
      exact this
    rw [e1, show (⟨#[47]⟩ : ByteArray).data.toList = [47] from rfl, htrim] at h7
    exact h7
  have hnl : (⟨name.toArray⟩ : ByteArray).size ≤ 1000000 := by
    have h6 : (Pa.L path).length = path.size := rfl
    have : name.length ≤ path.size := by
      rw [hN.whole] at h6
      split at h6
      · omega
      · simp only [List.length_append, List.length_cons] at h6
        omega
    show name.toArray.size ≤ _
    simp
    omega
  have HQU : Hid (∀ W, Calls Tryz.prog 37 #[.string ⟨name.toArray⟩] W (Ret (.string (Ig.bs (Ig.quoted name))) W)) := Lib.hid fun W => by
    have := quoted_any ⟨name.toArray⟩ W hnl
    rwa [show Ig.L ⟨name.toArray⟩ = name from by simp [Ig.L]] at this
  have hru : ∀ f ∈ l, f.rules.length ≤ 1000 := fun f hf => by
    have := (Ig.print_ok ((Ig.fcheck_zero.1 HFC.out.symm).2.rules f hf)).1
    omega
  have HWI : Hid (∀ W, Ext w W → Calls Tryz.prog 36 #[.slice A n c, .string par, .agg #[.bool neg, .bool false, .bool true, .string (Ig.bs (Ig.quoted name))]] W fun e w' => ∃ A' n' c', e = .returned (.slice A' n' c') ∧ (Ig.addTo par ⟨neg, false, true, Ig.bs (Ig.quoted name)⟩ l).length = n' ∧ Fis w' All A' (Ig.addTo par ⟨neg, false, true, Ig.bs (Ig.quoted name)⟩ l) ∧ Ext W w') := Lib.hid fun W hW =>
    with_any A n c l par ⟨neg, false, true, Ig.bs (Ig.quoted name)⟩ W (Sls.ext FiR.steadfast HL.out hW) HN.out (by omega) (Ig.fcheck_zero.1 HFC.out.symm).2.own hru
  obtain ⟨M, hM⟩ : ∃ M, M = Ig.addTo par ⟨neg, false, true, Ig.bs (Ig.quoted name)⟩ l := ⟨_, rfl⟩
  rw [← hM] at hm0 hm1 HWI
  have hml : M.length ≤ n + 1 := by rw [hM, ← HN.out]; exact Ig.addTo_length _ _ _
  have HM0 := Lib.hid hm0
  have HM1 := Lib.hid hm1
  generalize Ig.bs (Ig.quoted name) = qn at HQU HWI
  generalize (⟨name.toArray⟩ : ByteArray) = nm at HTP HQU
  have hpsi : (par.size : Int) ≤ (path.size : Int) := by omega
  clear hN htrim hnl hru hM hm0 hm1 hpar HPA
  go_wp2_with fail
  refine (HPR.out _).mono ?_
  rintro e w3 ⟨rfl, hx0⟩
  have HX3 := Lib.hid (HX2.out.trans hx0)
  clear hx0 HX2 HPR
  go_wp2_with fail
  refine (HTP.out _).mono ?_
  rintro e w4 ⟨rfl, rfl⟩
  go_wp2_with fail
  refine (HQU.out _).mono ?_
  rintro e w5 ⟨rfl, hx0⟩
  have HX5 := Lib.hid (HX3.out.trans hx0)
  clear hx0 HX3 HQU HTP
  go_wp2_with fail
  refine (HWI.out _ HX5.out).mono ?_
  rintro e w6 ⟨A', n', c', rfl, hn', hfis, hx0⟩
  have HX6 := Lib.hid (HX5.out.trans hx0)
  have HFS := Lib.hid hfis
  have HN' := Lib.hid hn'
  have hn6 : n' ≤ 6 := by omega
  clear hx0 HX5 HWI hfis hn' hml
  have HC1 : Hid (∀ W, Ext w W → Calls Tryz.prog 18 #[.slice A n c] W (Ret (.int .i64 0) W)) := Lib.hid fun W hW => by
    have := icheck_any A n c l W (Sls.ext FiR.steadfast HL.out hW) HN.out (by omega) HF.out (HG.out.ext hW)
    rwa [← HFC.out] at this
  have HFM := Lib.hid (Ig.Fits.of_check HM0.out)
  have HC2 : Hid (∀ W, Ext w6 W → Calls Tryz.prog 18 #[.slice A' n' c'] W (Ret (.int .i64 0) W)) := Lib.hid fun W hW => by
    have := icheck_any A' n' c' M W (Sls.ext FiR.steadfast HFS.out hW) HN'.out (by omega) HFM.out (HG.out.ext (HX6.out.trans hW))
    rwa [HM0.out] at this
  have HI1 : Hid (∀ W, Ext w W → Calls Tryz.prog 23 #[.slice A n c, .string par, .bool true] W (Ret (.bool (Ig.Ignored l par true)) W)) := Lib.hid fun W hW => Ignored_any A n c l par true W HN.out (by omega) (Sls.ext FiR.steadfast HL.out hW) HF.out (by omega) (HG.out.ext hW)
  have HI2 : Hid (∀ W, Ext w6 W → Calls Tryz.prog 23 #[.slice A' n' c', .string path, .bool dir] W (Ret (.bool (Ig.Ignored M path dir)) W)) := Lib.hid fun W hW => Ignored_any A' n' c' M path dir W HN'.out (by omega) (Sls.ext FiR.steadfast HFS.out hW) HFM.out (by omega) (HG.out.ext (HX6.out.trans hW))
  rw [HM1.out] at HI2
  generalize Ig.Ignored l par true = ab at HI1 HI2
  clear HM1 HM0
  go_wp2_with fail
  refine (HC1.out _ HX6.out).mono ?_
  rintro e w7 ⟨rfl, hx0⟩
  have HY7 := Lib.hid hx0
  clear hx0
  go_wp2_with fail
  refine (HC2.out _ HY7.out).mono ?_
  rintro e w8 ⟨rfl, hx0⟩
  have HY8 := Lib.hid (HY7.out.trans hx0)
  clear hx0 HY7 HC1 HC2
  by_cases he : Pa.L par = []
  · rw [decide_eq_true he] at HI2
    have hpe2 : par = ⟨#[]⟩ := Pa.L_inj he
    simp only [Bool.not_true, Bool.false_and, Bool.false_or] at HI2
    subst hpe2
    cases neg with
    | true =>
      go_wp2_with fail
      refine (HI2.out _ HY8.out).mono ?_
      rintro e w9 ⟨rfl, hx0⟩
      have HY9 := Lib.hid (HX6.out.trans (HY8.out.trans hx0))
      clear hx0
      go_wp2_with fail
      refine (HAW.out _ HY9.out).mono ?_
      rintro e w10 ⟨rfl, hx0⟩
      have HX10 := Lib.hid (HY9.out.trans hx0)
      clear hx0
      go_wp2_with fail
      go_ret
      exact ⟨rfl, HX10.out⟩
    | false =>
      go_wp2_with fail
      refine (HI2.out _ HY8.out).mono ?_
      rintro e w9 ⟨rfl, hx0⟩
      have HY9 := Lib.hid (HX6.out.trans (HY8.out.trans hx0))
      clear hx0
      go_wp2_with fail
      refine (HAW.out _ HY9.out).mono ?_
      rintro e w10 ⟨rfl, hx0⟩
      have HX10 := Lib.hid (HY9.out.trans hx0)
      clear hx0
      go_wp2_with fail
      go_ret
      exact ⟨rfl, HX10.out⟩
  · rw [decide_eq_false he] at HI2
    have hpe : (par.toList != ([] : List UInt8)) = true := by rw [ByteArray.toList_eq]; simpa using he
    have hpe3 : (par.toList == ([] : List UInt8)) = false := by rw [ByteArray.toList_eq]; simpa using he
    simp only [Bool.not_false, Bool.true_and] at HI2
    go_wp2_with fail
    refine (HI1.out _ (HX6.out.trans HY8.out)).mono ?_
    rintro e w9 ⟨rfl, hx0⟩
    have HY9 := Lib.hid (HY8.out.trans hx0)
    clear hx0 HY8
    cases neg with
    | true =>
      cases ab with
      | true =>
        go_wp2_with fail
        refine (HI2.out _ HY9.out).mono ?_
        rintro e w10 ⟨rfl, hx0⟩
        have HX10 := Lib.hid (HX6.out.trans (HY9.out.trans hx0))
        clear hx0
        go_wp2_with fail
        refine (HAW.out _ HX10.out).mono ?_
        rintro e w11 ⟨rfl, hx0⟩
        have HX11 := Lib.hid (HX10.out.trans hx0)
        clear hx0
        go_wp2_with fail
        go_ret
        exact ⟨rfl, HX11.out⟩
      | false =>
        go_wp2_with fail
        refine (HI2.out _ HY9.out).mono ?_
        rintro e w10 ⟨rfl, hx0⟩
        have HX10 := Lib.hid (HX6.out.trans (HY9.out.trans hx0))
        clear hx0
        go_wp2_with fail
        refine (HAW.out _ HX10.out).mono ?_
        rintro e w11 ⟨rfl, hx0⟩
        have HX11 := Lib.hid (HX10.out.trans hx0)
        clear hx0
        go_wp2_with fail
        go_ret
        exact ⟨rfl, HX11.out⟩
    | false =>
      cases ab with
      | true =>
        go_wp2_with fail
        refine (HI2.out _ HY9.out).mono ?_
        rintro e w10 ⟨rfl, hx0⟩
        have HX10 := Lib.hid (HX6.out.trans (HY9.out.trans hx0))
        clear hx0
        go_wp2_with fail
        refine (HAW.out _ HX10.out).mono ?_
        rintro e w11 ⟨rfl, hx0⟩
        have HX11 := Lib.hid (HX10.out.trans hx0)
        clear hx0
        go_wp2_with fail
        go_ret
        exact ⟨rfl, HX11.out⟩
      | false =>
        go_wp2_with fail
        refine (HI2.out _ HY9.out).mono ?_
        rintro e w10 ⟨rfl, hx0⟩
        have HX10 := Lib.hid (HX6.out.trans (HY9.out.trans hx0))
        clear hx0
        go_wp2_with fail
        refine (HAW.out _ HX10.out).mono ?_
        rintro e w11 ⟨rfl, hx0⟩
        have HX11 := Lib.hid (HX10.out.trans hx0)
        clear hx0
        go_wp2_with fail
        go_ret
        exact ⟨rfl, HX11.out⟩
end Go.Proofs.YtnjcifppkijanaaGreatDoor
