/- Walks: IgnoreElsewhere: what a path is within; files struck from a list. Walks: the reference's globs: rows of bools; a component matched. Walks: the reference's globs: a component matched. Walks: the reference's globs: components matched. Walks: the reference's globs: a path matched; its last name. Walks: the reference: whether a rule fits, what a file decides. Walks: the reference: what a file decides; what is selected. Walks: the reference: what is selected; what is ignored. Walks: the reference: a tree filtered; IgnorePaths. Walks: IgnorePaths. -/
import Derived.Test.YtnjcifppkijanaaGreatDoorPG
import Derived.Test.YtnjcifppkijanaaGreatDoorPH
import Derived.Test.YtnjcifppkijanaaGreatDoorYj
import Derived.Test.YtnjcifppkijanaaGreatDoorSe
import Derived.Test.YtnjcifppkijanaaGreatDoorQB
import Derived.Test.YtnjcifppkijanaaGreatDoorPE
import Derived.Test.YtnjcifppkijanaaGreatDoorPD
import Derived.Test.YtnjcifppkijanaaGreatDoorPJ
import Derived.Test.YtnjcifppkijanaaGreatDoorJFk
import Derived.Test.YtnjcifppkijanaaGreatDoorPL
import Derived.Test.YtnjcifppkijanaaGreatDoorQt
set_option linter.unusedSimpArgs false
set_option linter.unusedVariables false
namespace Go.Proofs.YtnjcifppkijanaaGreatDoor
open Go Go.RowKit Go.Shelf
namespace Ig
theorem within_eq (p : ByteArray) (f : Fi) : (f.dir.toList == ([] : List UInt8) || Qm.below p f.dir) = within (L p) f := by
  unfold within rest Qm.below Lib.hasPrefix
  by_cases h : L f.dir = []
  · have h2 : f.dir.toList = [] := by rw [ByteArray.toList_eq]; exact h
    rw [if_pos h, h2]
    rfl
  · have h2 : (f.dir.toList == ([] : List UInt8)) = false := by rw [ByteArray.toList_eq]; simpa using h
    rw [if_neg h, h2, Bool.false_or]
    cases hp : ((L f.dir) ++ [47]).isPrefixOf (L p)
    · rw [if_neg (by simp)]; rfl
    · rw [if_pos rfl]; rfl
end Ig
/-- quiltref39.Within. -/
theorem rwithin39_same (p d : ByteArray) (w : World) (hp : p.size ≤ 4611686018427387904) : Calls Tryz.prog 27 #[.string p, .string d] w (Same (.bool (d.toList == ([] : List UInt8) || Qm.below p d)) w) := by
  have HB : Hid (∀ W, Calls Tryz.prog 56 #[.string p, .string d] W (Same (.bool (Qm.below p d)) W)) := Lib.hid fun W => rbelow_same p d W hp
  generalize Qm.below p d = bb at HB ⊢
  cases hq : (d.toList == ([] : List UInt8)) with
  | true =>
    go_enter Tryz.func27, Tryz.ntmps27
    go_wp2_with fail
    go_ret
    exact ⟨rfl, rfl⟩
  | false =>
    go_enter Tryz.func27, Tryz.ntmps27
    go_wp2_with fail
    refine (HB.out _).mono ?_
    rintro e w1 ⟨rfl, rfl⟩
    go_wp2_with fail
    go_ret
    exact ⟨rfl, rfl⟩
set_option maxHeartbeats 2000000 in
set_option maxRecDepth 100000 in
/-- The closure of IgnoreElsewhere. -/
theorem els1_any (p : ByteArray) (hp : p.size ≤ 1000000) (gp : Nat) (W : World) (c : List Value) (x : Ig.Fi) (hx : FiR W All c x) (hb : Blk W gp 9 #[.string p]) :
    Calls Tryz.prog 26 #[.agg c.toArray, .pointer (some ⟨gp, 0, none⟩)] W (Ret (.bool (!Ig.within (Ig.L p) x)) W) := by
  obtain ⟨A, n, m, rfl, _⟩ := hx
  rw [← Ig.within_eq]
  have HWI : Hid (∀ W, Calls Tryz.prog 27 #[.string p, .string x.dir] W (Same (.bool (x.dir.toList == ([] : List UInt8) || Qm.below p x.dir)) W)) := Lib.hid fun W => rwithin39_same p x.dir W (by omega)
  generalize (x.dir.toList == ([] : List UInt8) || Qm.below p x.dir) = bb at HWI ⊢
  obtain ⟨hc, hf, hl⟩ := (hb.ext ((Ext.refl W).alloc (.cells #[.string x.dir, .slice A n m] 32))).all
  have hx := Ext.refl W
  clear hb
  go_enter Tryz.func26, Tryz.ntmps26
  go_wp2_with fail
  refine (HWI.out _).mono ?_
  rintro e w1 ⟨rfl, rfl⟩
  go_wp2_with fail
  go_ret
  exact ⟨rfl, hx.alloc _⟩
theorem first_spec {β : Type} (q : β → Bool) (d : β) : ∀ (zs : List β) (i : Nat), (Lib.idxByFrom (fun _ y => q y) d zs i = -1 ∧ ∀ x ∈ zs, q x = false) ∨ ∃ k, Lib.idxByFrom (fun _ y => q y) d zs i = ((i + k : Nat) : Int) ∧ k < zs.length ∧ (∃ x, zs[k]? = some x ∧ q x = true) ∧ ∀ x ∈ zs.take k, q x = false
  | [], _ => .inl ⟨rfl, fun x hx => by cases hx⟩
  | y :: r, i => by
    cases h : q y with
    | true => exact .inr ⟨0, by simp [Lib.idxByFrom, h], by simp, ⟨y, rfl, h⟩, fun x hx => by simp at hx⟩
    | false =>
      have e0 : Lib.idxByFrom (fun _ y => q y) d (y :: r) i = Lib.idxByFrom (fun _ y => q y) d r (i + 1) := by simp [Lib.idxByFrom, h]
      rcases first_spec q d r (i + 1) with ⟨e, ha⟩ | ⟨k, e, hk, ⟨x, hx, ht⟩, ha⟩
      · refine .inl ⟨by rw [e0, e], fun x hx => ?_⟩
        rcases List.mem_cons.1 hx with rfl | hx
        · exact h
        · exact ha x hx
      · refine .inr ⟨k + 1, by rw [e0, e]; congr 1; omega, by simpa using hk, ⟨x, by simpa using hx, ht⟩, fun z hz => ?_⟩
        rw [List.take_succ_cons] at hz
        rcases List.mem_cons.1 hz with rfl | hz
        · exact h
        · exact ha z hz
/-- Where a predicate holds first. -/
def FirstAt {α : Type} (p : α → Bool) (l : List α) (i : Int) : Prop := (i = -1 ∧ ∀ x ∈ l, p x = false) ∨ ∃ k : Nat, i = k ∧ k < l.length ∧ (∃ x, l[k]? = some x ∧ p x = true) ∧ ∀ x ∈ l.take k, p x = false
theorem first_sls {P : Program} {ρ : Ren} (L : SlLaysH0.n6 P ρ) {α : Type} (k : Nat) (R : Reads α) (aE : ∀ w, (isAgg (ρ.t 23)).run P w = .ok true w) (zE : ∀ w, (Go.sizeOf (ρ.t 23)).run P w = .ok k w) (p : α → Bool) (g : Nat) (lb : Array Value) (eg : ∀ args w, (callFunc g args).run P w = .ok (.enter g args) w)
    (b o n c : Nat) (l : List α) (w0 w : World) (h : Sls k R w All (some ⟨b, o, none⟩) l) (hn : l.length = n) (h0 : 0 < n) (hb : n ≤ 1000000000) (hw : Ext w0 w)
    (hp : ∀ (W : World) (c : List Value) (x : α), Ext w0 W → R W All c x → c.length = k → Calls P g (#[.agg c.toArray] ++ lb) W (Ret (.bool (p x)) W)) (hR : Steadfast R) :
    Calls P (ρ.f 6) #[.slice (some ⟨b, o, none⟩) n c, .func (.func g) #[] lb] w fun e w' => ∃ i : Int, e = .returned (.int .i64 i) ∧ FirstAt p l i ∧ Ext w w' := by
  obtain ⟨cs, h1, h2, h3, h4⟩ := h
  obtain ⟨b', o', e, hlt, _, hr⟩ := h3 (by omega)
  obtain ⟨rfl, rfl⟩ : b = b' ∧ o = o' := by simpa using e
  have hall : ∀ x ∈ cs.zip l, R w All x.1 x.2 ∧ x.1.length = k := by
    intro x hx
    obtain ⟨i, hi⟩ := List.getElem?_of_mem hx
    obtain ⟨g1, g2⟩ : cs[i]? = some x.1 ∧ l[i]? = some x.2 := by
      rw [List.getElem?_zip_eq_some] at hi
      exact hi
    exact ⟨h4 i _ _ g1 g2, h2 _ (List.mem_of_getElem? g1)⟩
  obtain ⟨zs, hzs⟩ : ∃ zs : List { x : List Value × α // R w All x.1 x.2 ∧ x.1.length = k }, zs = (cs.zip l).pmap (fun x hx => ⟨x, hx⟩) hall := ⟨_, rfl⟩
  have hval : zs.map (fun x => x.1) = cs.zip l := by
    rw [hzs, List.map_pmap]
    simp
  have hlen : zs.length = n := by rw [hzs, List.length_pmap, List.length_zip]; omega
  have hmap : zs.map (fun x => x.1.2) = l := by
    have : zs.map (fun x => x.1.2) = (zs.map (fun x => x.1)).map Prod.snd := by rw [List.map_map]; rfl
    rw [this, hval, List.map_snd_zip (by omega)]
  have hcs : ∀ (j : Nat) z, zs[j]? = some z → cs[j]? = some z.1.1 := by
    intro j z hz
    have h5 : (zs.map (fun x => x.1))[j]? = some z.1 := by rw [List.getElem?_map, hz]; rfl
    rw [hval, List.getElem?_zip_eq_some] at h5
    exact h5.1
  clear hzs
  have : Inhabited { x : List Value × α // R w All x.1 x.2 ∧ x.1.length = k } := ⟨zs[0]'(by omega)⟩
  refine (AnyQ.slices_IndexFunc L k aE zE (fun x : { x : List Value × α // R w All x.1 x.2 ∧ x.1.length = k } => x.1.1) (fun x => x.2.2) (fun x => p x.1.2) g lb eg b o n c zs w
    (fun W x hW => (hp W x.1.1 x.1.2 (hw.trans hW) (hR.ext x.2.1 hW) x.2.2).mono fun e w' hh => ⟨hh.1, Ext.trans (a := w) hW hh.2⟩) (by omega) (by omega) hlt (fun j hj i v hv => ?_)).mono ?_
  · have hz : zs[j]? = some zs[j]! := by rw [List.getElem!_eq_getElem?_getD, List.getElem?_eq_getElem hj]; rfl
    have hc := hcs j _ hz
    have hi : i < k := by
      have := (List.getElem?_eq_some_iff.1 hv).1
      rwa [h2 _ (List.mem_of_getElem? hc)] at this
    have := hr (j * k + i) v (by rw [flatten_at h2 hc hi]; exact hv)
    rwa [← Nat.add_assoc] at this
  · rintro e w' ⟨rfl, hx⟩
    refine ⟨_, rfl, ?_, hx⟩
    rw [← hmap, List.take_of_length_le (by omega)]
    rcases first_spec (fun y : { x : List Value × α // R w All x.1 x.2 ∧ x.1.length = k } => p y.1.2) default zs 0 with ⟨e, ha⟩ | ⟨j, e, hj, ⟨x, hx, ht⟩, ha⟩
    · refine .inl ⟨e, fun x hx => ?_⟩
      obtain ⟨z, hz, rfl⟩ := List.mem_map.1 hx
      exact ha z hz
    · refine .inr ⟨j, by rw [Nat.zero_add] at e; exact e, by simpa using hj, ⟨x.1.2, by rw [List.getElem?_map, hx]; rfl, ht⟩, fun z hz => ?_⟩
      rw [← List.map_take] at hz
      obtain ⟨y, hy, rfl⟩ := List.mem_map.1 hz
      exact ha y hy
theorem indexF_zero (A : Option Addr) (c : Nat) (f : Value) (w : World) : Calls Tryz.prog 55 #[.slice A 0 c, f] w (Ret (.int .i64 (-1)) w) := by
  go_enter Tryz.func55, Tryz.ntmps55
  have hx := Ext.refl w
  go_wp2_with fail
  refine wp_loop_rounds 1 ?_
  rw [rounds_succ]
  go_wp2_with fail
  (go_ret; refine Ret.mk ?_ ?_; (focus (rfl; done)); (focus (exact EX; done)))
theorem sizeIF (w : World) : (Go.sizeOf 32).run Tryz.prog w = .ok 2 w := by kernel_rfl
theorem aggIF (w : World) : (isAgg 32).run Tryz.prog w = .ok true w := by kernel_rfl
theorem firstF_any (p : Ig.Fi → Bool) (g : Nat) (lb : Array Value) (eg : ∀ args w, (callFunc g args).run Tryz.prog w = .ok (.enter g args) w) (A : Option Addr) (n c : Nat) (l : List Ig.Fi) (w0 w : World) (h : Fis w All A l) (hn : l.length = n) (hb : n ≤ 1000000000) (hw : Ext w0 w)
    (hp : ∀ (W : World) (c : List Value) (x : Ig.Fi), Ext w0 W → FiR W All c x → Calls Tryz.prog g (#[.agg c.toArray] ++ lb) W (Ret (.bool (p x)) W)) :
    Calls Tryz.prog 55 #[.slice A n c, .func (.func g) #[] lb] w fun e w' => ∃ i : Int, e = .returned (.int .i64 i) ∧ FirstAt p l i ∧ Ext w w' := by
  rcases Nat.eq_zero_or_pos n with h0 | h0
  · subst h0
    obtain rfl := List.length_eq_zero_iff.1 hn
    refine (indexF_zero A c _ w).mono ?_
    rintro e w' ⟨rfl, hx⟩
    exact ⟨_, rfl, .inl ⟨rfl, fun x hx => by cases hx⟩, hx⟩
  · have h' := h
    obtain ⟨cs, h1, h2, h3, h4⟩ := h'
    obtain ⟨b, o, rfl, _⟩ := h3 (by omega)
    exact first_sls Tryz.laysIndexF 2 FiR aggIF sizeIF p g lb eg b o n c l w0 w h hn h0 hb hw (fun W c x h1 h2 _ => hp W c x h1 h2) FiR.steadfast
/-- The end of a row is wiped. -/
theorem run_clear_w {P : Program} {w : World} (t e : TypeId) (ht : P.underlying t = some (.slice e)) (z : Value)
    (hv : ∀ w, (zeroValue e).run P w = .ok z w) (k : Nat) (hk : z.cells.size = k) (hk0 : 0 < k) (h1 : ∀ u ∈ z.cells.toList, u.oneCell' = true) (b off n c : Nat) (hn : 0 < n) {t' : TypeId} {cur : Array Value} (hB : Blk w b t' cur) (hsz : off + n * k ≤ cur.size) :
    ∃ vs : List Value, vs.length = n * k ∧ ∀ ty, (Builtin.clear_ #[t] ty #[.slice (some ⟨b, off, none⟩) n c]).run P w = .ok (.tuple #[]) (w.setCells b off vs) := by
  have hlen : (Builtin.zeroCells z.cells n).toList.length = n * k := by simp [Builtin.zeroCells, hk]
  have hone : ∀ u ∈ (Builtin.zeroCells z.cells n).toList, u.oneCell' = true := by
    intro u hu
    simp only [Builtin.zeroCells, Array.toList_map, List.mem_map] at hu
    obtain ⟨i, _, rfl⟩ := hu
    have hi : i % z.cells.size < z.cells.size := Nat.mod_lt _ (by omega)
    rw [getElem!_pos z.cells _ hi]
    exact h1 _ (by simp)
  have hst := run_storeCells_cells (P := P) b off (Builtin.zeroCells z.cells n).toList 0 w (fun j hj => by rw [hlen] at hj; simp only [Nat.add_zero, hB.cell]; rw [Array.getElem?_eq_getElem (by omega)]; rfl) (fun j hj => by simp only [hB.frozen]) hone
  simp only [Nat.add_zero] at hst
  obtain ⟨m, rfl⟩ : ∃ m, n = m + 1 := ⟨n - 1, by omega⟩
  refine ⟨_, hlen, fun ty => ?_⟩
  simp [Builtin.clear_, run_underlying ht, hv, hst]
section
variable {α : Type} {k : Nat} {R : Reads α} {t : TypeId} {w0 w : World} {base g n cap : Nat} {F : Nat → Prop} {l : List α}
/-- What lies ahead of a place that is written on is as it was. -/
theorem OwnW.cut (hR : Steadfast R) (h : OwnW k R t w0 w base F (.slice (some ⟨g, 0, none⟩) n cap) l) (hx : Ext w0 w) (hb : w0.heap.size ≤ base) {i : Nat} (hi : i ≤ l.length) (vs : List Value) :
    Ext w0 (w.setCells g (i * k) vs) ∧ Sls k R (w.setCells g (i * k) vs) All (some ⟨g, 0, none⟩) (l.take i) := by
  obtain ⟨cs, h1, h2, ⟨h3, ⟨e, _⟩ | ⟨g', cap', cur, e, hbg, hg, hn, hcm, hs, ht⟩⟩, h4⟩ := h
  · cases e
  · simp only [Value.slice.injEq, Option.some.injEq, Addr.mk.injEq, and_true, true_and] at e
    obtain ⟨rfl, rfl, rfl⟩ := e
    have hxn : Ext w0 (w.setCells g (i * k) vs) := Ext.putMany (by omega) vs _ _ hx
    refine ⟨hxn, cs.take i, by rw [List.length_take, List.length_take]; omega, fun c hc => h2 c (List.mem_of_mem_take hc), fun h0 => ⟨g, 0, rfl, ?_, trivial, fun j u hu => ?_⟩, fun j c x hc hl => hR.mono (hR.ext (h4 j c x ?_ ?_) hxn) (fun _ _ => trivial)⟩
    · have hlt := (Array.getElem?_eq_some_iff.1 hg).1
      have : (w.setCells g (i * k) vs).heap.size = w.heap.size := by
        have : ∀ (vs : List Value) (o : Nat) (w : World), (w.setCells g o vs).heap.size = w.heap.size := by
          intro vs
          induction vs with
          | nil => intro o w; rfl
          | cons v vs ih => intro o w; show ((w.setCell ⟨g, o, none⟩ v).setCells g (o + 1) vs).heap.size = _; rw [ih]; simp [World.setCell]
        exact this _ _ _
      omega
    · have hpre : (cs.take i).flatten.length = i * k := by
        rw [flatten_len (fun c hc => h2 c (List.mem_of_mem_take hc)), List.length_take]
        congr 1
        omega
      have hj : j < i * k := by rw [← hpre]; exact (List.getElem?_eq_some_iff.1 hu).1
      have hfar : ∀ (vs : List Value) (o : Nat) (w : World), j < o → (w.setCells g o vs).cell? ⟨g, j, none⟩ = w.cell? ⟨g, j, none⟩ := by
        intro vs
        induction vs with
        | nil => intro o w _; rfl
        | cons v vs ih =>
          intro o w ho
          show ((w.setCell ⟨g, o, none⟩ v).setCells g (o + 1) vs).cell? ⟨g, j, none⟩ = _
          rw [ih _ _ (by omega)]
          exact World.cell?_setCell_other _ _ _ _ (by intro e; simp only [Addr.mk.injEq] at e; omega)
      have hB : Blk w g t cur := Blk.mk hg
      rw [Nat.zero_add, hfar _ _ _ hj, hB.cell]
      have hjl : j < l.length * k := Nat.lt_of_lt_of_le hj (Nat.mul_le_mul_right k hi)
      have e1 : cs.flatten[j]? = some u := by
        have : cs.flatten = (cs.take i).flatten ++ (cs.drop i).flatten := by rw [← List.flatten_append, List.take_append_drop]
        rw [this, List.getElem?_append_left (by omega)]
        exact hu
      rw [← e1, ← ht, List.getElem?_take_of_lt hjl, Array.getElem?_toList]
    · rw [List.getElem?_take] at hc
      split at hc
      · exact hc
      · cases hc
    · rw [List.getElem?_take] at hl
      split at hl
      · exact hl
      · cases hl
end
end Go.Proofs.YtnjcifppkijanaaGreatDoor
namespace Go.Proofs.YtnjcifppkijanaaGreatDoor
open Go Go.RowKit Go.Shelf
theorem boolInfo : ∃ i, Tryz.prog.info? 4 = some i ∧ i.zero = some (.bool false) ∧ i.size = 1 ∧ i.bytes = 1 := by
  have h : (Tryz.prog.info? 4).map (fun i => (i.size, i.bytes)) = some (1, 1) := by kernel_rfl
  have h2 : (Tryz.prog.info? 4).bind (·.zero) = some (.bool false) := by kernel_rfl
  cases hi : Tryz.prog.info? 4 with
  | none => rw [hi] at h; cases h
  | some i =>
    rw [hi] at h h2
    simp only [Option.map_some, Option.some.injEq, Prod.mk.injEq] at h
    obtain ⟨h1, h3⟩ := h
    cases hz : i.zero with
    | none => rw [Option.bind_some, hz] at h2; cases h2
    | some z =>
      rw [Option.bind_some, hz] at h2
      obtain rfl := Option.some.inj h2
      exact ⟨i, rfl, hz, h1, h3⟩
/-- A row of bools. -/
def bRow (bs : List Bool) : Array Value := (bs.map Value.bool).toArray
theorem bRow_get {bs : List Bool} {i : Nat} {b : Bool} (h : bs[i]? = some b) : (bRow bs)[i]? = some (.bool b) := by simp [bRow, h]
theorem bRow_set (bs : List Bool) (i : Nat) (b : Bool) : (bRow bs).setIfInBounds i (.bool b) = bRow (bs.set i b) := by
  apply Array.toList_inj.1
  simp [bRow, List.map_set]
/-- A row that a function made for itself. -/
structure BR (w0 : World) (g : Nat) (bs : List Bool) (W : World) : Prop where
  blk : Blk W g 4 (bRow bs)
  new : w0.heap.size ≤ g
section
variable {w0 W W' : World} {g : Nat} {bs : List Bool}
theorem BR.ext (h : BR w0 g bs W) (hx : Ext W W') : BR w0 g bs W' := ⟨Blk.ext hx h.blk, h.new⟩
theorem BR.set (h : BR w0 g bs W) (i : Nat) (b : Bool) : BR w0 g (bs.set i b) (W.setCell ⟨g, i, none⟩ (.bool b)) := ⟨Blk.convG (h.blk.set_ i _) (bRow_set bs i b), h.new⟩
theorem BR.far (h : BR w0 g bs W) {g' : Nat} (hne : g ≠ g') (i : Nat) (v : Value) : BR w0 g bs (W.setCell ⟨g', i, none⟩ v) := ⟨Blk.far (p := ⟨g', i, none⟩) h.blk hne v, h.new⟩
theorem BR.cell (h : BR w0 g bs W) {i : Nat} (hi : i < bs.length) : W.cell? ⟨g, i, none⟩ = some (.bool (bs.getD i false)) := by
  rw [h.blk.cell]
  refine bRow_get ?_
  rw [List.getD_eq_getElem?_getD, List.getElem?_eq_getElem hi]
  rfl
end
theorem made_row {w w' : World} {n : Nat} (h : w'.ownsRow w.heap.size 4 1 (.slice (some ⟨w.heap.size, 0, none⟩) n n) n (madeCells #[.bool false] (n * 1)).toList) : BR w w.heap.size (List.replicate n false) w' := by
  obtain ⟨h1, ⟨e, _⟩ | ⟨g, cap, cur, e, hb, hg, hn, hc, hs, ht⟩⟩ := h
  · cases e
  · simp only [Value.slice.injEq, Option.some.injEq, Addr.mk.injEq, and_true, true_and] at e
    obtain ⟨rfl, rfl⟩ := e
    have hsz : cur.toList.length = n * 1 := by rw [Array.length_toList]; exact hs
    rw [List.take_of_length_le (by omega)] at ht
    have e2 : cur = bRow (List.replicate n false) := by
      apply Array.toList_inj.1
      rw [ht]
      simp [bRow, madeCells, Nat.mod_one, List.map_const']
    exact ⟨Blk.convG (Blk.mk hg) e2, Nat.le_refl _⟩
/-- An element that lies in a list. -/
theorem relt_get {w : World} {F : Nat → Prop} {A : Option Addr} {l : List Gl.El} (h : Sls 258 RElt w F A l) {k : Nat} {e : Gl.El} (he : l[k]? = some e) : ∃ b o, A = some ⟨b, o, none⟩ ∧ b < w.heap.size ∧ w.cell? ⟨b, o + k * 258, none⟩ = some (.bool e.isNone) ∧ ∀ p, e = some p → ∀ c : UInt8, w.cell? ⟨b, o + k * 258 + 2 + c.toNat, none⟩ = some (.bool (p c)) := by
  obtain ⟨b, o, cs, rfl, hbl, -, -, hr, fx, rfl⟩ := h.get he
  refine ⟨b, o, rfl, hbl, hr 0 _ rfl, fun p hp c => ?_⟩
  subst hp
  have := hr (2 + c.toNat) (.bool (p c)) (by
    have hc : c.toNat < 256 := UInt8.toNat_lt c
    rw [show (2 + c.toNat) = c.toNat + 1 + 1 by omega, List.getElem?_cons_succ, List.getElem?_cons_succ, List.getElem?_map, List.getElem?_range hc]
    simp)
  rwa [← Nat.add_assoc] at this
theorem close_cons {α : Type} (l : List (Option α)) (now : List Bool) (k : Nat) {v : Bool} (h : ((Gl.closeTo l now k).getD k false && Gl.wild l k) = v) : Gl.closeTo l now (k + 1) = if v = true then (Gl.closeTo l now k).set (k + 1) true else Gl.closeTo l now k := by
  rw [← h]
  rfl
theorem close_off {α : Type} {l : List (Option α)} {now : List Bool} {k : Nat} (h : (Gl.closeTo l now k).getD k false = false) : Gl.closeTo l now (k + 1) = Gl.closeTo l now k := by
  rw [close_cons l now k (v := false) (by rw [h]; rfl)]
  rfl
theorem close_not {α : Type} {l : List (Option α)} {now : List Bool} {k : Nat} {a : α} (h : l[k]? = some (some a)) : Gl.closeTo l now (k + 1) = Gl.closeTo l now k := by
  rw [close_cons l now k (v := false) (by unfold Gl.wild; rw [h]; simp)]
  rfl
theorem close_on {α : Type} {l : List (Option α)} {now : List Bool} {k : Nat} (h : (Gl.closeTo l now k).getD k false = true) (h2 : l[k]? = some none) : Gl.closeTo l now (k + 1) = (Gl.closeTo l now k).set (k + 1) true := by
  rw [close_cons l now k (v := true) (by unfold Gl.wild; rw [h, h2]; rfl)]
  rfl
section
variable {α β : Type} {f : α → β → Bool} {l : List (Option α)} {now : List Bool} {c : β} {k : Nat} {a : α}
theorem next_off (h : now.getD k false = false) : Gl.nextTo f l now c (k + 1) = Gl.nextTo f l now c k := by
  show (match l[k]? with
    | some none => if now.getD k false then (Gl.nextTo f l now c k).set k true else Gl.nextTo f l now c k
    | some (some a) => if now.getD k false && f a c then (Gl.nextTo f l now c k).set (k + 1) true else Gl.nextTo f l now c k
    | none => Gl.nextTo f l now c k) = _
  rw [h]
  split <;> rfl
theorem next_star (h : now.getD k false = true) (h2 : l[k]? = some none) : Gl.nextTo f l now c (k + 1) = (Gl.nextTo f l now c k).set k true := by
  show (match l[k]? with
    | some none => if now.getD k false then (Gl.nextTo f l now c k).set k true else Gl.nextTo f l now c k
    | some (some a) => if now.getD k false && f a c then (Gl.nextTo f l now c k).set (k + 1) true else Gl.nextTo f l now c k
    | none => Gl.nextTo f l now c k) = _
  rw [h, h2]
  rfl
theorem next_some (h : now.getD k false = true) (h2 : l[k]? = some (some a)) : Gl.nextTo f l now c (k + 1) = if f a c = true then (Gl.nextTo f l now c k).set (k + 1) true else Gl.nextTo f l now c k := by
  show (match l[k]? with
    | some none => if now.getD k false then (Gl.nextTo f l now c k).set k true else Gl.nextTo f l now c k
    | some (some a) => if now.getD k false && f a c then (Gl.nextTo f l now c k).set (k + 1) true else Gl.nextTo f l now c k
    | none => Gl.nextTo f l now c k) = _
  rw [h, h2]
  simp
end
end Go.Proofs.YtnjcifppkijanaaGreatDoor
namespace Go.Proofs.YtnjcifppkijanaaGreatDoor
open Go Go.RowKit Go.Shelf
set_option maxHeartbeats 16000000 in
set_option maxRecDepth 100000 in
/-- quiltref32.component1. -/
theorem rcomp1_any (A : Option Addr) (n c : Nat) (l : List Gl.El) (s : ByteArray) (w : World) {F : Nat → Prop} (h : Sls 258 RElt w F A l) (hn : l.length = n) (hb : n ≤ 1000000) (hs : s.size ≤ 1000000) :
    Calls Tryz.prog 162 #[.slice A n c, .string s] w (Ret (.bool (Gl.fitE l (Ig.L s))) w) := by
  obtain ⟨R, hR⟩ : ∃ R, R = Gl.fitE l (Ig.L s) := ⟨_, rfl⟩
  have HR : Hid (R = (Gl.rowAt (fun (p : UInt8 → Bool) c => p c) l ((Ig.L s).drop 0) (Gl.row0 n)).getD n false) := Lib.hid (by rw [hR, ← hn]; exact (Gl.row_fit l (Ig.L s)).symm)
  rw [← hR]
  obtain ⟨ib, hib1, hib2, hib3, hib4⟩ := boolInfo
  have HIB := Lib.hid (⟨hib1, hib2, hib3, hib4⟩ : _ ∧ _ ∧ _ ∧ _)
  have HL := Lib.hid h
  have HN := Lib.hid hn
  clear hR h hn hib1 hib2 hib3 hib4
  go_enter Tryz.func162, Tryz.ntmps162
  go_wp2_with (at_make; refine wpList_make_full _ rfl (.tmp 12) (.tmp 12) 184 rfl _ 4 ib (.bool false) 1 Tryz.underlying184 HIB.out.1 HIB.out.2.1 HIB.out.2.2.1 .i64 .i64 ((n : Int) + 1) ((n : Int) + 1) (n + 1) rfl rfl (by omega) (by omega) (by rw [HIB.out.2.2.2]; omega) (by unfold maxLen; omega) (Nat.le_refl _) ?_)
  intro w1 how hgrow
  have HX1 : Hid (Ext w w1) := Lib.hid (Below.grown (Ext.refl w) hgrow (Nat.le_refl _) (fun j e => by cases e))
  have hb1 := made_row (by simpa [Value.cells] using how)
  have HB1 := Lib.hid hb1
  have hc0 : w1.cell? ⟨w.heap.size, 0, none⟩ = some (.bool false) := by rw [hb1.cell (by simp)]; simp
  have hf0 : w1.frozen? ⟨w.heap.size, 0, none⟩ = false := hb1.blk.frozen _
  have HB2 : Hid (BR w w.heap.size (Gl.row0 n) (w1.setCell ⟨w.heap.size, 0, none⟩ (.bool true))) := Lib.hid (hb1.set 0 true)
  have HX2 : Hid (Ext w (w1.setCell ⟨w.heap.size, 0, none⟩ (.bool true))) := Lib.hid (Ext.setCell (p := ⟨w.heap.size, 0, none⟩) HX1.out (Nat.le_refl _) _)
  clear how hgrow hb1
  go_wp2_with fail
  go_loopw [5, 6, 7, 8, 9] (fun u5 u6 _ _ _ wr => ∃ (g i : Nat) (now : List Bool), u5 = .slice (some ⟨g, 0, none⟩) (n + 1) (n + 1) ∧ u6 = .int .i64 i ∧ i ≤ s.size ∧ now.length = n + 1 ∧ Hid (BR w g now wr) ∧ Hid (Ext w wr) ∧ Hid (R = (Gl.rowAt (fun (p : UInt8 → Bool) c => p c) l ((Ig.L s).drop i) now).getD n false)) (fun _ u _ _ _ _ => s.size - (intOf u).toNat)
  case atStart => exact ⟨w.heap.size, 0, Gl.row0 n, rfl, rfl, Nat.zero_le _, by simp [Gl.row0], HB2, HX2, HR⟩
  case round =>
    clear HB2 HX2 HR hc0 hf0 HB1 HX1
    rename World => wo
    obtain ⟨g, i, now, rfl, rfl, his, hnow, HB, HX, HR⟩ := hrel
    go_wp2_with fail
    go_loopw [7] (fun u wr => ∃ k : Nat, u = .int .i64 k ∧ k ≤ n ∧ Hid (BR w g (Gl.closeTo l now k) wr) ∧ Hid (Ext w wr)) (fun u _ => n - (intOf u).toNat)
    case atStart => exact ⟨0, rfl, Nat.zero_le _, HB, HX⟩
    case round =>
      clear HB HX
      rename World => wi
      obtain ⟨k, rfl, hk, HB, HX⟩ := hrel
      have hln : (Gl.closeTo l now k).length = n + 1 := by rw [Gl.closeTo_length, hnow]
      by_cases hlt : k < n
      · have hkl : k < l.length := by rw [HN.out]; exact hlt
        obtain ⟨e, he⟩ : ∃ e, l[k]? = some e := ⟨_, List.getElem?_eq_getElem hkl⟩
        obtain ⟨b, o, rfl, hbl, hst, -⟩ := relt_get HL.out he
        have cst := (HX.out.cell (p := ⟨b, o + k * 258, none⟩) hbl).trans hst
        have cnow := HB.out.cell (i := k) (by omega)
        have hfz : ∀ i, wi.frozen? ⟨g, i, none⟩ = false := HB.out.blk.frozen
        have HEL := Lib.hid he
        obtain ⟨bv, hbv⟩ : ∃ b, (Gl.closeTo l now k).getD k false = b := ⟨_, rfl⟩
        rw [hbv] at cnow
        clear he hst hkl
        cases bv with
        | false =>
          have HB2 : Hid (BR w g (Gl.closeTo l now (k + 1)) wi) := Lib.hid (by rw [close_off hbv]; exact HB.out)
          clear hbv
          go_wp2_with fail
          go_roundw
          case rel => exact ⟨k + 1, rfl, hlt, HB2, HX⟩
          case measure => simp [intOf]; omega
        | true =>
          cases e with
          | some p =>
            have HB2 : Hid (BR w g (Gl.closeTo l now (k + 1)) wi) := Lib.hid (by rw [close_not HEL.out]; exact HB.out)
            clear hbv
            simp only [Option.isNone_some] at cst
            go_wp2_with fail
            go_roundw
            case rel => exact ⟨k + 1, rfl, hlt, HB2, HX⟩
            case measure => simp [intOf]; omega
          | none =>
            have HB2 : Hid (BR w g (Gl.closeTo l now (k + 1)) (wi.setCell ⟨g, k + 1, none⟩ (.bool true))) := Lib.hid (by rw [close_on hbv HEL.out]; exact HB.out.set (k + 1) true)
            have HX2 : Hid (Ext w (wi.setCell ⟨g, k + 1, none⟩ (.bool true))) := Lib.hid (Ext.setCell (p := ⟨g, k + 1, none⟩) HX.out HB.out.new _)
            have cn2 := HB.out.cell (i := k + 1) (by omega)
            clear hbv
            simp only [Option.isNone_none] at cst
            go_wp2_with fail
            go_roundw
            case rel => exact ⟨k + 1, rfl, hlt, HB2, HX2⟩
            case measure => simp [intOf]; omega
      · obtain rfl : k = n := by omega
        by_cases hend : i < s.size
        · have hne : ((i : Int) == (s.size : Int)) = false := beq_eq_false_iff_ne.2 (by omega)
          have hat := byteAt s hend
          obtain ⟨ch, hch⟩ : ∃ x, s[i] = x := ⟨_, rfl⟩
          rw [hch] at hat
          obtain ⟨nw, hnw⟩ : ∃ nw, nw = Gl.closeTo l now k := ⟨_, rfl⟩
          rw [← hnw] at HB hln
          have HR2 : Hid (R = (Gl.rowAt (fun (p : UInt8 → Bool) c => p c) l ((Ig.L s).drop (i + 1)) (Gl.nextTo (fun (p : UInt8 → Bool) c => p c) l nw ch k)).getD k false) := Lib.hid (by
            rw [HR.out, drop_at hat, hnw]
            show (Gl.rowAt _ l _ (Gl.nextTo _ l (Gl.closeTo l now l.length) ch l.length)).getD k false = _
            rw [HN.out])
          clear hat hnw HR
          go_wp2_with (at_make; refine wpList_make_full _ rfl (.tmp 49) (.tmp 49) 184 rfl _ 4 ib (.bool false) 1 Tryz.underlying184 HIB.out.1 HIB.out.2.1 HIB.out.2.2.1 .i64 .i64 ((k : Int) + 1) ((k : Int) + 1) (k + 1) rfl rfl (by omega) (by omega) (by rw [HIB.out.2.2.2]; omega) (by unfold maxLen; omega) (Nat.le_refl _) ?_)
          intro w2 how hgrow
          have hx2 : Ext wi w2 := Below.grown (Ext.refl wi) hgrow (Nat.le_refl _) (fun j e => by cases e)
          have hbn := made_row (by simpa [Value.cells] using how)
          have HBN : Hid (BR w wi.heap.size (List.replicate (k + 1) false) w2) := Lib.hid ⟨hbn.blk, HX.out.size_le⟩
          have HBO := Lib.hid (HB.out.ext hx2)
          have HX2 := Lib.hid (HX.out.trans hx2)
          have hgg : g ≠ wi.heap.size := by have := HB.out.blk.lt; omega
          obtain ⟨g2, hg2⟩ : ∃ z, z = wi.heap.size := ⟨_, rfl⟩
          rw [← hg2] at HBN hgg
          rw [← hg2]
          clear how hgrow hx2 hbn HB HX hg2
          go_wp2_with fail
          go_loopw [9] (fun u wr => ∃ j : Nat, u = .int .i64 j ∧ j ≤ k ∧ Hid (BR w g nw wr) ∧ Hid (BR w g2 (Gl.nextTo (fun (p : UInt8 → Bool) c => p c) l nw ch j) wr) ∧ Hid (Ext w wr)) (fun u _ => k - (intOf u).toNat)
          case atStart => exact ⟨0, rfl, Nat.zero_le _, HBO, Lib.hid (by show BR w g2 (List.replicate (l.length + 1) false) w2; rw [HN.out]; exact HBN.out), HX2⟩
          case round =>
            clear HBO HBN HX2
            rename World => wj
            obtain ⟨j, rfl, hj, HB, HBN, HX⟩ := hrel
            have hln2 : (Gl.nextTo (fun (p : UInt8 → Bool) c => p c) l nw ch j).length = k + 1 := by rw [Gl.nextTo_length, HN.out]
            by_cases hjl : j < k
            · have hkl : j < l.length := by rw [HN.out]; exact hjl
              obtain ⟨e, he⟩ : ∃ e, l[j]? = some e := ⟨_, List.getElem?_eq_getElem hkl⟩
              obtain ⟨b, o, rfl, hbl, hst, hset⟩ := relt_get HL.out he
              have cst := (HX.out.cell (p := ⟨b, o + j * 258, none⟩) hbl).trans hst
              have cnow := HB.out.cell (i := j) (by omega)
              have hfz : ∀ i, wj.frozen? ⟨g2, i, none⟩ = false := HBN.out.blk.frozen
              have HEL := Lib.hid he
              obtain ⟨bv, hbv⟩ : ∃ b, nw.getD j false = b := ⟨_, rfl⟩
              rw [hbv] at cnow
              clear he hst hkl
              cases bv with
              | false =>
                have HB2 : Hid (BR w g2 (Gl.nextTo (fun (p : UInt8 → Bool) c => p c) l nw ch (j + 1)) wj) := Lib.hid (by rw [next_off hbv]; exact HBN.out)
                clear hbv hset
                go_wp2_with (go_quiet (fail))
                go_roundw
                case rel => first | exact ⟨j + 1, rfl, hjl, HB, HB2, HX⟩ | exact ⟨j + 1, rfl, hjl, Lib.hid (HB.out.ext ((Ext.refl _).drewN _)), Lib.hid (HB2.out.ext ((Ext.refl _).drewN _)), Lib.hid (Ext.drewN HX.out _)⟩
                case measure => simp [intOf]; omega
              | true =>
                cases e with
                | none =>
                  have HB2 : Hid (BR w g2 (Gl.nextTo (fun (p : UInt8 → Bool) c => p c) l nw ch (j + 1)) (wj.setCell ⟨g2, j, none⟩ (.bool true))) := Lib.hid (by rw [next_star hbv HEL.out]; exact HBN.out.set j true)
                  have HB3 : Hid (BR w g nw (wj.setCell ⟨g2, j, none⟩ (.bool true))) := Lib.hid (HB.out.far hgg _ _)
                  have HX3 : Hid (Ext w (wj.setCell ⟨g2, j, none⟩ (.bool true))) := Lib.hid (Ext.setCell (p := ⟨g2, j, none⟩) HX.out HBN.out.new _)
                  have cn2 := HBN.out.cell (i := j) (by omega)
                  clear hbv hset
                  simp only [Option.isNone_none] at cst
                  go_wp2_with (go_quiet (fail))
                  go_roundw
                  case rel => exact ⟨j + 1, rfl, hjl, HB3, HB2, HX3⟩
                  case measure => simp [intOf]; omega
                | some p =>
                  have cset := (HX.out.cell (p := ⟨b, o + j * 258 + 2 + ch.toNat, none⟩) hbl).trans (hset p rfl ch)
                  have hch256 : (ch.toNat : Int) < 256 := by have : ch.toNat < 256 := UInt8.toNat_lt ch; omega
                  have HNS := Lib.hid (next_some (f := fun (p : UInt8 → Bool) c => p c) (c := ch) hbv HEL.out)
                  obtain ⟨pv, hpv⟩ : ∃ z, p ch = z := ⟨_, rfl⟩
                  rw [hpv] at cset
                  simp only [Option.isNone_some] at cst
                  clear hbv hset
                  cases pv with
                  | false =>
                    have HB2 : Hid (BR w g2 (Gl.nextTo (fun (p : UInt8 → Bool) c => p c) l nw ch (j + 1)) wj) := Lib.hid (by rw [HNS.out, if_neg (by rw [hpv]; decide)]; exact HBN.out)
                    clear hpv
                    go_wp2_with (go_quiet (fail))
                    go_roundw
                    case rel => exact ⟨j + 1, rfl, hjl, Lib.hid (HB.out.ext ((Ext.refl _).drewN _)), Lib.hid (HB2.out.ext ((Ext.refl _).drewN _)), Lib.hid (Ext.drewN HX.out _)⟩
                    case measure => simp [intOf]; omega
                  | true =>
                    have HB2 : Hid (∀ q, BR w g2 (Gl.nextTo (fun (p : UInt8 → Bool) c => p c) l nw ch (j + 1)) ((wj.drewN q).setCell ⟨g2, j + 1, none⟩ (.bool true))) := Lib.hid (fun q => by rw [HNS.out, if_pos hpv]; exact (HBN.out.ext ((Ext.refl _).drewN q)).set (j + 1) true)
                    have HB3 : Hid (∀ q, BR w g nw ((wj.drewN q).setCell ⟨g2, j + 1, none⟩ (.bool true))) := Lib.hid (fun q => (HB.out.ext ((Ext.refl _).drewN q)).far hgg _ _)
                    have HX3 : Hid (∀ q, Ext w ((wj.drewN q).setCell ⟨g2, j + 1, none⟩ (.bool true))) := Lib.hid (fun q => Ext.setCell (p := ⟨g2, j + 1, none⟩) (Ext.drewN HX.out q) HBN.out.new _)
                    have cn2 := HBN.out.cell (i := j + 1) (by omega)
                    clear hpv
                    go_wp2_with (go_quiet (fail))
                    go_roundw
                    case rel => exact ⟨j + 1, rfl, hjl, Lib.hid (HB3.out _), Lib.hid (HB2.out _), Lib.hid (HX3.out _)⟩
                    case measure => simp [intOf]; omega
            · obtain rfl : j = k := by omega
              go_wp2_with fail
              go_roundw
              case rel => exact ⟨g2, i + 1, _, rfl, rfl, hend, hln2, HBN, HX, HR2⟩
              case measure => simp [intOf]; omega
        · have hne : ((i : Int) == (s.size : Int)) = true := by have : i = s.size := by omega
                                                                rw [this]; exact beq_self_eq_true _
          have HI : Hid ((Ig.L s).drop i = []) := Lib.hid (List.drop_eq_nil_of_le (by show s.size ≤ i; omega))
          have cnow := HB.out.cell (i := k) (by omega)
          have HV : Hid (R = (Gl.closeTo l now k).getD k false) := Lib.hid (by
            rw [HR.out, HI.out]
            show (Gl.closeTo l now l.length).getD k false = _
            rw [HN.out])
          obtain ⟨fv, hfv⟩ : ∃ b, (Gl.closeTo l now k).getD k false = b := ⟨_, rfl⟩
          rw [hfv] at HV cnow
          clear hfv
          go_wp2_with fail
          go_ret
          exact ⟨by rw [HV.out]; rfl, HX.out⟩
end Go.Proofs.YtnjcifppkijanaaGreatDoor
namespace Go.Proofs.YtnjcifppkijanaaGreatDoor
open Go Go.RowKit Go.Shelf
theorem drop_atG {α : Type} {l : List α} {j : Nat} {c : α} (h : l[j]? = some c) : l.drop j = c :: l.drop (j + 1) := by
  obtain ⟨h1, h2⟩ := List.getElem?_eq_some_iff.1 h
  rw [List.drop_eq_getElem_cons h1, h2]
/-- A component that lies in a list. -/
theorem rcpt_get {w : World} {A : Option Addr} {l : List Gl.Cp} (h : Sls 2 RCpt w All A l) {k : Nat} {e : Gl.Cp} (he : l[k]? = some e) : ∃ b o, A = some ⟨b, o, none⟩ ∧ b < w.heap.size ∧ w.cell? ⟨b, o + k * 2, none⟩ = some (.bool e.isNone) ∧ ∃ A' n' m', w.cell? ⟨b, o + k * 2 + 1, none⟩ = some (.slice A' n' m') ∧ (e.getD []).length = n' ∧ n' ≤ m' ∧ Sls 258 RElt w All A' (e.getD []) := by
  obtain ⟨b, o, cs, rfl, hbl, -, -, hr, A', n', m', rfl, h1, h2, h3⟩ := h.get he
  exact ⟨b, o, rfl, hbl, hr 0 _ rfl, A', n', m', hr 1 _ rfl, h1, h2, h3⟩
/-- What after hands back. -/
def AftF (n : Nat) (row : List Bool) (w : World) (e : Ending) (w' : World) : Prop := ∃ g, e = .returned (.slice (some ⟨g, 0, none⟩) (n + 1) (n + 1)) ∧ BR w g row w' ∧ Ext w w'
set_option maxHeartbeats 16000000 in
set_option maxRecDepth 100000 in
/-- quiltref32.after. -/
theorem rafter_any (A : Option Addr) (n c : Nat) (l : List Gl.Cp) (B : Option Addr) (m d : Nat) (ss : List (List UInt8)) (w : World) (h : Sls 2 RCpt w All A l) (hn : l.length = n) (hb : n ≤ 1000000) (h2 : Sls 1 LnR w All B ss) (hm : ss.length = m) (hb2 : m ≤ 1000000) (hls : ∀ e ∈ l, (e.getD []).length ≤ 1000000) (hss : ∀ x ∈ ss, x.length ≤ 1000000) :
    Calls Tryz.prog 150 #[.slice A n c, .slice B m d] w (AftF n (Gl.rowAt Gl.fitE l ss (Gl.row0 n)) w) := by
  obtain ⟨R, hR⟩ : ∃ R, R = Gl.rowAt Gl.fitE l ss (Gl.row0 n) := ⟨_, rfl⟩
  have HR : Hid (R = Gl.rowAt Gl.fitE l (ss.drop 0) (Gl.row0 n)) := Lib.hid hR
  rw [← hR]
  obtain ⟨ib, hib1, hib2, hib3, hib4⟩ := boolInfo
  have HIB := Lib.hid (⟨hib1, hib2, hib3, hib4⟩ : _ ∧ _ ∧ _ ∧ _)
  have HL := Lib.hid h
  have HS := Lib.hid h2
  have HM := Lib.hid hm
  have HLS := Lib.hid hls
  have HSS := Lib.hid hss
  have HN := Lib.hid hn
  clear hR h hn h2 hm hls hss hib1 hib2 hib3 hib4
  go_enter Tryz.func150, Tryz.ntmps150
  go_wp2_with (at_make; refine wpList_make_full _ rfl (.tmp 12) (.tmp 12) 184 rfl _ 4 ib (.bool false) 1 Tryz.underlying184 HIB.out.1 HIB.out.2.1 HIB.out.2.2.1 .i64 .i64 ((n : Int) + 1) ((n : Int) + 1) (n + 1) rfl rfl (by omega) (by omega) (by rw [HIB.out.2.2.2]; omega) (by unfold maxLen; omega) (Nat.le_refl _) ?_)
  intro w1 how hgrow
  have HX1 : Hid (Ext w w1) := Lib.hid (Below.grown (Ext.refl w) hgrow (Nat.le_refl _) (fun j e => by cases e))
  have hb1 := made_row (by simpa [Value.cells] using how)
  have HB1 := Lib.hid hb1
  have hc0 : w1.cell? ⟨w.heap.size, 0, none⟩ = some (.bool false) := by rw [hb1.cell (by simp)]; simp
  have hf0 : w1.frozen? ⟨w.heap.size, 0, none⟩ = false := hb1.blk.frozen _
  have HB2 : Hid (BR w w.heap.size (Gl.row0 n) (w1.setCell ⟨w.heap.size, 0, none⟩ (.bool true))) := Lib.hid (hb1.set 0 true)
  have HX2 : Hid (Ext w (w1.setCell ⟨w.heap.size, 0, none⟩ (.bool true))) := Lib.hid (Ext.setCell (p := ⟨w.heap.size, 0, none⟩) HX1.out (Nat.le_refl _) _)
  clear how hgrow hb1
  go_wp2_with fail
  go_loopw [5, 6, 7, 8, 9] (fun u5 u6 _ _ _ wr => ∃ (g i : Nat) (now : List Bool), u5 = .slice (some ⟨g, 0, none⟩) (n + 1) (n + 1) ∧ u6 = .int .i64 i ∧ i ≤ m ∧ now.length = n + 1 ∧ Hid (BR w g now wr) ∧ Hid (Ext w wr) ∧ Hid (R = Gl.rowAt Gl.fitE l (ss.drop i) now)) (fun _ u _ _ _ _ => m - (intOf u).toNat)
  case atStart => exact ⟨w.heap.size, 0, Gl.row0 n, rfl, rfl, Nat.zero_le _, by simp [Gl.row0], HB2, HX2, HR⟩
  case round =>
    clear HB2 HX2 HR hc0 hf0 HB1 HX1
    rename World => wo
    obtain ⟨g, i, now, rfl, rfl, his, hnow, HB, HX, HR⟩ := hrel
    go_wp2_with fail
    go_loopw [7] (fun u wr => ∃ k : Nat, u = .int .i64 k ∧ k ≤ n ∧ Hid (BR w g (Gl.closeTo l now k) wr) ∧ Hid (Ext w wr)) (fun u _ => n - (intOf u).toNat)
    case atStart => exact ⟨0, rfl, Nat.zero_le _, HB, HX⟩
    case round =>
      clear HB HX
      rename World => wi
      obtain ⟨k, rfl, hk, HB, HX⟩ := hrel
      have hln : (Gl.closeTo l now k).length = n + 1 := by rw [Gl.closeTo_length, hnow]
      by_cases hlt : k < n
      · have hkl : k < l.length := by rw [HN.out]; exact hlt
        obtain ⟨e, he⟩ : ∃ e, l[k]? = some e := ⟨_, List.getElem?_eq_getElem hkl⟩
        obtain ⟨b, o, rfl, hbl, hst, -⟩ := rcpt_get HL.out he
        have cst := (HX.out.cell (p := ⟨b, o + k * 2, none⟩) hbl).trans hst
        have cnow := HB.out.cell (i := k) (by omega)
        have hfz : ∀ i, wi.frozen? ⟨g, i, none⟩ = false := HB.out.blk.frozen
        have HEL := Lib.hid he
        obtain ⟨bv, hbv⟩ : ∃ b, (Gl.closeTo l now k).getD k false = b := ⟨_, rfl⟩
        rw [hbv] at cnow
        clear he hst hkl
        cases bv with
        | false =>
          have HB2 : Hid (BR w g (Gl.closeTo l now (k + 1)) wi) := Lib.hid (by rw [close_off hbv]; exact HB.out)
          clear hbv
          go_wp2_with fail
          go_roundw
          case rel => exact ⟨k + 1, rfl, hlt, HB2, HX⟩
          case measure => simp [intOf]; omega
        | true =>
          cases e with
          | some p =>
            have HB2 : Hid (BR w g (Gl.closeTo l now (k + 1)) wi) := Lib.hid (by rw [close_not HEL.out]; exact HB.out)
            clear hbv
            simp only [Option.isNone_some] at cst
            go_wp2_with fail
            go_roundw
            case rel => exact ⟨k + 1, rfl, hlt, HB2, HX⟩
            case measure => simp [intOf]; omega
          | none =>
            have HB2 : Hid (BR w g (Gl.closeTo l now (k + 1)) (wi.setCell ⟨g, k + 1, none⟩ (.bool true))) := Lib.hid (by rw [close_on hbv HEL.out]; exact HB.out.set (k + 1) true)
            have HX2 : Hid (Ext w (wi.setCell ⟨g, k + 1, none⟩ (.bool true))) := Lib.hid (Ext.setCell (p := ⟨g, k + 1, none⟩) HX.out HB.out.new _)
            have cn2 := HB.out.cell (i := k + 1) (by omega)
            clear hbv
            simp only [Option.isNone_none] at cst
            go_wp2_with fail
            go_roundw
            case rel => exact ⟨k + 1, rfl, hlt, HB2, HX2⟩
            case measure => simp [intOf]; omega
      · obtain rfl : k = n := by omega
        by_cases hend : i < m
        · have hne : ((i : Int) == (m : Int)) = false := beq_eq_false_iff_ne.2 (by omega)
          have hil : i < ss.length := by rw [HM.out]; exact hend
          obtain ⟨ch, hch⟩ : ∃ x, ss[i]? = some x := ⟨_, List.getElem?_eq_getElem hil⟩
          have HCH := Lib.hid hch
          obtain ⟨nw, hnw⟩ : ∃ nw, nw = Gl.closeTo l now k := ⟨_, rfl⟩
          rw [← hnw] at HB hln
          have HR2 : Hid (R = Gl.rowAt Gl.fitE l (ss.drop (i + 1)) (Gl.nextTo Gl.fitE l nw ch k)) := Lib.hid (by
            rw [HR.out, drop_atG hch, hnw]
            show Gl.rowAt _ l _ (Gl.nextTo _ l (Gl.closeTo l now l.length) ch l.length) = _
            rw [HN.out])
          clear hch hil hnw HR
          go_wp2_with (at_make; refine wpList_make_full _ rfl (.tmp 49) (.tmp 49) 184 rfl _ 4 ib (.bool false) 1 Tryz.underlying184 HIB.out.1 HIB.out.2.1 HIB.out.2.2.1 .i64 .i64 ((k : Int) + 1) ((k : Int) + 1) (k + 1) rfl rfl (by omega) (by omega) (by rw [HIB.out.2.2.2]; omega) (by unfold maxLen; omega) (Nat.le_refl _) ?_)
          intro w2 how hgrow
          have hx2 : Ext wi w2 := Below.grown (Ext.refl wi) hgrow (Nat.le_refl _) (fun j e => by cases e)
          have hbn := made_row (by simpa [Value.cells] using how)
          have HBN : Hid (BR w wi.heap.size (List.replicate (k + 1) false) w2) := Lib.hid ⟨hbn.blk, HX.out.size_le⟩
          have HBO := Lib.hid (HB.out.ext hx2)
          have HX2 := Lib.hid (HX.out.trans hx2)
          have hgg : g ≠ wi.heap.size := by have := HB.out.blk.lt; omega
          obtain ⟨g2, hg2⟩ : ∃ z, z = wi.heap.size := ⟨_, rfl⟩
          rw [← hg2] at HBN hgg
          rw [← hg2]
          clear how hgrow hx2 hbn HB HX hg2
          go_wp2_with fail
          go_loopw [9] (fun u wr => ∃ j : Nat, u = .int .i64 j ∧ j ≤ k ∧ Hid (BR w g nw wr) ∧ Hid (BR w g2 (Gl.nextTo Gl.fitE l nw ch j) wr) ∧ Hid (Ext w wr)) (fun u _ => k - (intOf u).toNat)
          case atStart => exact ⟨0, rfl, Nat.zero_le _, HBO, Lib.hid (by show BR w g2 (List.replicate (l.length + 1) false) w2; rw [HN.out]; exact HBN.out), HX2⟩
          case round =>
            clear HBO HBN HX2
            rename World => wj
            obtain ⟨j, rfl, hj, HB, HBN, HX⟩ := hrel
            have hln2 : (Gl.nextTo Gl.fitE l nw ch j).length = k + 1 := by rw [Gl.nextTo_length, HN.out]
            by_cases hjl : j < k
            · have hkl : j < l.length := by rw [HN.out]; exact hjl
              obtain ⟨e, he⟩ : ∃ e, l[j]? = some e := ⟨_, List.getElem?_eq_getElem hkl⟩
              obtain ⟨b, o, rfl, hbl, hst, hset⟩ := rcpt_get HL.out he
              have cst := (HX.out.cell (p := ⟨b, o + j * 2, none⟩) hbl).trans hst
              have cnow := HB.out.cell (i := j) (by omega)
              have hfz : ∀ i, wj.frozen? ⟨g2, i, none⟩ = false := HBN.out.blk.frozen
              have HEL := Lib.hid he
              obtain ⟨bv, hbv⟩ : ∃ b, nw.getD j false = b := ⟨_, rfl⟩
              rw [hbv] at cnow
              clear he hst hkl
              cases bv with
              | false =>
                have HB2 : Hid (BR w g2 (Gl.nextTo Gl.fitE l nw ch (j + 1)) wj) := Lib.hid (by rw [next_off hbv]; exact HBN.out)
                clear hbv hset
                go_wp2_with (go_quiet (fail))
                go_roundw
                case rel => first | exact ⟨j + 1, rfl, hjl, HB, HB2, HX⟩ | exact ⟨j + 1, rfl, hjl, Lib.hid (HB.out.ext ((Ext.refl _).drewN _)), Lib.hid (HB2.out.ext ((Ext.refl _).drewN _)), Lib.hid (Ext.drewN HX.out _)⟩
                case measure => simp [intOf]; omega
              | true =>
                cases e with
                | none =>
                  have HB2 : Hid (BR w g2 (Gl.nextTo Gl.fitE l nw ch (j + 1)) (wj.setCell ⟨g2, j, none⟩ (.bool true))) := Lib.hid (by rw [next_star hbv HEL.out]; exact HBN.out.set j true)
                  have HB3 : Hid (BR w g nw (wj.setCell ⟨g2, j, none⟩ (.bool true))) := Lib.hid (HB.out.far hgg _ _)
                  have HX3 : Hid (Ext w (wj.setCell ⟨g2, j, none⟩ (.bool true))) := Lib.hid (Ext.setCell (p := ⟨g2, j, none⟩) HX.out HBN.out.new _)
                  have cn2 := HBN.out.cell (i := j) (by omega)
                  clear hbv hset
                  simp only [Option.isNone_none] at cst
                  go_wp2_with (go_quiet (fail))
                  go_roundw
                  case rel => exact ⟨j + 1, rfl, hjl, HB3, HB2, HX3⟩
                  case measure => simp [intOf]; omega
                | some p =>
                  obtain ⟨A', n', m', hcl, hnl0, hmm, hsl⟩ := hset
                  have hnl : p.length = n' := hnl0
                  have hpl : p.length ≤ 1000000 := HLS.out _ (List.mem_of_getElem? HEL.out)
                  obtain ⟨sb, so, cs9, rfl, hsbl, -, -, hsr, st, rfl, hst9⟩ := HS.out.get HCH.out
                  have hst8 : st.size ≤ 1000000 := by
                    have h9 := HSS.out _ (List.mem_of_getElem? HCH.out)
                    have h8 : st.size = ch.length := by rw [← hst9]; rfl
                    omega
                  have HCS : Hid (∀ W, Ext w W → W.cell? ⟨sb, so + i, none⟩ = some (.string st)) := Lib.hid (fun W hW => by
                    have h9 := hsr 0 _ rfl
                    rw [Nat.mul_one, Nat.add_zero] at h9
                    exact (hW.cell (p := ⟨sb, so + i, none⟩) hsbl).trans h9)
                  have HCL : Hid (∀ W, Ext w W → W.cell? ⟨b, o + j * 2 + 1, none⟩ = some (.slice A' n' m')) := Lib.hid (fun W hW => (hW.cell (p := ⟨b, o + j * 2 + 1, none⟩) hbl).trans hcl)
                  have HCN : Hid (∀ W, Ext wj W → W.cell? ⟨g, j, none⟩ = some (.bool true)) := Lib.hid (fun W hW => by have := (HB.out.ext hW).cell (i := j) (by omega); rwa [hbv] at this)
                  have HNS := Lib.hid (next_some (f := Gl.fitE) (c := ch) hbv HEL.out)
                  obtain ⟨pv, hpv⟩ : ∃ z, Gl.fitE p ch = z := ⟨_, rfl⟩
                  have HCC : Hid (∀ W, Ext w W → Calls Tryz.prog 162 #[.slice A' n' m', .string st] W (Ret (.bool pv) W)) := Lib.hid (fun W hW => by
                    rw [← hpv, ← hst9]
                    exact rcomp1_any A' n' m' p st W (Sls.ext RElt.steadfast hsl hW) hnl (by omega) hst8)
                  simp only [Option.isNone_some] at cst
                  clear hbv hsl hcl hsr hst9 cnow
                  have hjk1 : (j : Int) < (k : Int) + 1 := by omega
                  have hjk2 : (j : Int) < (k : Int) := by omega
                  have him : (i : Int) < (m : Int) := by omega
                  have HPV := Lib.hid hpv
                  have cnow := HCN.out wj (Ext.refl wj)
                  clear hpv
                  go_wp2_with fail
                  refine wp_region_noPanic (wp_region_held_drew (S := fun w' => Ext wj w') (by kernel_rfl) (Ext.refl wj).drew1 (fun hv => ?_))
                  generalize wj.drew = v0 at hv ⊢
                  refine take_any (i := 0) (v := .slice (some ⟨g, 0, none⟩) (k + 1) (k + 1)) rfl rfl (by kernel_rfl) (by kernel_rfl) (by kernel_rfl) (.inl ⟨(by kernel_rfl), fun W' hW' => ?tq⟩) hv ?_
                  case tq =>
                    go_simp
                  try simp only [Act.put, sA, s0, sS]
                  refine take_any (i := 1) (v := .int .i64 j) rfl rfl (by kernel_rfl) (by kernel_rfl) (by kernel_rfl) (.inl ⟨(by kernel_rfl), fun W' hW' => ?tq⟩) hv ?_
                  case tq =>
                    go_simp
                  try simp only [Act.put, sA, s0, sS]
                  refine take_any (i := 2) (v := .pointer (some ⟨g, j, none⟩)) rfl rfl (by kernel_rfl) (by kernel_rfl) (by kernel_rfl) (.inl ⟨(by kernel_rfl), fun W' hW' => ?tq⟩) hv ?_
                  case tq =>
                    go_simp
                  try simp only [Act.put, sA, s0, sS]
                  refine take_any (i := 3) (v := .bool true) rfl rfl (by kernel_rfl) (by kernel_rfl) (by kernel_rfl) (.inl ⟨(by kernel_rfl), fun W' hW' => ?tq⟩) hv ?_
                  case tq =>
                    have hcx := HCN.out W' hW'
                    go_simp
                  try simp only [Act.put, sA, s0, sS]
                  refine take_any (i := 4) (v := .bool true) rfl rfl (by kernel_rfl) (by kernel_rfl) (by kernel_rfl) (.inl ⟨(by kernel_rfl), fun W' hW' => ?tq⟩) hv ?_
                  case tq =>
                    go_simp
                  try simp only [Act.put, sA, s0, sS]
                  refine take_any (i := 5) (v := .slice (some ⟨b, o, none⟩) k c) rfl rfl (by kernel_rfl) (by kernel_rfl) (by kernel_rfl) (.inl ⟨(by kernel_rfl), fun W' hW' => ?tq⟩) hv ?_
                  case tq =>
                    go_simp
                  try simp only [Act.put, sA, s0, sS]
                  refine take_any (i := 6) (v := .int .i64 j) rfl rfl (by kernel_rfl) (by kernel_rfl) (by kernel_rfl) (.inl ⟨(by kernel_rfl), fun W' hW' => ?tq⟩) hv ?_
                  case tq =>
                    go_simp
                  try simp only [Act.put, sA, s0, sS]
                  refine take_any (i := 7) (v := .pointer (some ⟨b, o + j * 2, none⟩)) rfl rfl (by kernel_rfl) (by kernel_rfl) (by kernel_rfl) (.inl ⟨(by kernel_rfl), fun W' hW' => ?tq⟩) hv ?_
                  case tq =>
                    go_simp
                  try simp only [Act.put, sA, s0, sS]
                  refine take_any (i := 8) (v := .pointer (some ⟨b, o + j * 2 + 1, none⟩)) rfl rfl (by kernel_rfl) (by kernel_rfl) (by kernel_rfl) (.inl ⟨(by kernel_rfl), fun W' hW' => ?tq⟩) hv ?_
                  case tq =>
                    go_simp
                  try simp only [Act.put, sA, s0, sS]
                  refine take_any (i := 9) (v := .slice A' n' m') rfl rfl (by kernel_rfl) (by kernel_rfl) (by kernel_rfl) (.inl ⟨(by kernel_rfl), fun W' hW' => ?tq⟩) hv ?_
                  case tq =>
                    have hcx := HCL.out W' (HX.out.trans hW')
                    go_simp
                  try simp only [Act.put, sA, s0, sS]
                  refine take_any (i := 10) (v := .slice (some ⟨sb, so, none⟩) m d) rfl rfl (by kernel_rfl) (by kernel_rfl) (by kernel_rfl) (.inl ⟨(by kernel_rfl), fun W' hW' => ?tq⟩) hv ?_
                  case tq =>
                    go_simp
                  try simp only [Act.put, sA, s0, sS]
                  refine take_any (i := 11) (v := .int .i64 i) rfl rfl (by kernel_rfl) (by kernel_rfl) (by kernel_rfl) (.inl ⟨(by kernel_rfl), fun W' hW' => ?tq⟩) hv ?_
                  case tq =>
                    go_simp
                  try simp only [Act.put, sA, s0, sS]
                  refine take_any (i := 12) (v := .pointer (some ⟨sb, so + i, none⟩)) rfl rfl (by kernel_rfl) (by kernel_rfl) (by kernel_rfl) (.inl ⟨(by kernel_rfl), fun W' hW' => ?tq⟩) hv ?_
                  case tq =>
                    go_simp
                  try simp only [Act.put, sA, s0, sS]
                  refine take_any (i := 13) (v := .string st) rfl rfl (by kernel_rfl) (by kernel_rfl) (by kernel_rfl) (.inl ⟨(by kernel_rfl), fun W' hW' => ?tq⟩) hv ?_
                  case tq =>
                    have hcx := HCS.out W' (HX.out.trans hW')
                    go_simp
                  try simp only [Act.put, sA, s0, sS]
                  refine wpAnyH_one (i := 14) (by kernel_rfl) rfl (by kernel_rfl) ?_
                  go_simp
                  refine (HCC.out _ (HX.out.trans hv)).mono ?_
                  rintro e x1 ⟨rfl, hx0⟩
                  have hv2 := hv.trans hx0
                  refine ⟨hv2, ?_⟩
                  try simp only [Act.put, sA, s0, sS]
                  have hv := hv2
                  clear hv2 hx0
                  refine take_any (i := 15) (v := .bool pv) rfl rfl (by kernel_rfl) (by kernel_rfl) (by kernel_rfl) (.inl ⟨(by kernel_rfl), fun W' hW' => ?tq⟩) hv ?_
                  case tq =>
                    go_simp
                  try simp only [Act.put, sA, s0, sS]
                  refine wpAnyH_done (by kernel_rfl) (NoPanic.normal ?_) _
                  have HBj := Lib.hid (HB.out.ext hv)
                  have HNj := Lib.hid (HBN.out.ext hv)
                  have HXj := Lib.hid (HX.out.trans hv)
                  clear hv HB HX hfz
                  have hfz : ∀ i, x1.frozen? ⟨g2, i, none⟩ = false := HNj.out.blk.frozen
                  cases pv with
                  | false =>
                    have HB2 : Hid (BR w g2 (Gl.nextTo Gl.fitE l nw ch (j + 1)) x1) := Lib.hid (by rw [HNS.out, if_neg (by rw [HPV.out]; decide)]; exact HNj.out)
                    go_wp2_with fail
                    go_roundw
                    case rel => exact ⟨j + 1, rfl, hjl, HBj, HB2, HXj⟩
                    case measure => simp [intOf]; omega
                  | true =>
                    have HB2 : Hid (BR w g2 (Gl.nextTo Gl.fitE l nw ch (j + 1)) (x1.setCell ⟨g2, j + 1, none⟩ (.bool true))) := Lib.hid (by rw [HNS.out, if_pos HPV.out]; exact HNj.out.set (j + 1) true)
                    have HB3 : Hid (BR w g nw (x1.setCell ⟨g2, j + 1, none⟩ (.bool true))) := Lib.hid (HBj.out.far hgg _ _)
                    have HX3 : Hid (Ext w (x1.setCell ⟨g2, j + 1, none⟩ (.bool true))) := Lib.hid (Ext.setCell (p := ⟨g2, j + 1, none⟩) HXj.out HBN.out.new _)
                    have cn2 := HNj.out.cell (i := j + 1) (by omega)
                    go_wp2_with fail
                    go_roundw
                    case rel => exact ⟨j + 1, rfl, hjl, HB3, HB2, HX3⟩
                    case measure => simp [intOf]; omega
            · obtain rfl : j = k := by omega
              go_wp2_with fail
              go_roundw
              case rel => exact ⟨g2, i + 1, _, rfl, rfl, hend, hln2, HBN, HX, HR2⟩
              case measure => simp [intOf]; omega
        · have hne : ((i : Int) == (m : Int)) = true := beq_iff_eq.2 (by omega)
          have HI : Hid (ss.drop i = []) := Lib.hid (List.drop_eq_nil_of_le (by rw [HM.out]; omega))
          have HV : Hid (R = Gl.closeTo l now k) := Lib.hid (by
            rw [HR.out, HI.out]
            show Gl.closeTo l now l.length = _
            rw [HN.out])
          go_wp2_with fail
          go_ret
          exact ⟨g, rfl, by rw [HV.out]; exact HB.out, HX.out⟩
end Go.Proofs.YtnjcifppkijanaaGreatDoor
namespace Go.Proofs.YtnjcifppkijanaaGreatDoor
open Go Go.RowKit Go.Shelf
theorem comp_small {s : List UInt8} {x : Gl.Cp} (h : Gl.comp s = some x) : (x.getD []).length ≤ s.length := by
  unfold Gl.comp at h
  split at h
  · cases h
  · split at h
    · obtain rfl := Option.some.inj h
      exact Nat.zero_le _
    · cases he : Gl.elems s.length s with
      | none => rw [he] at h; cases h
      | some l =>
        rw [he] at h
        obtain rfl := Option.some.inj h
        exact Gl.elems_le he
theorem comps_small {B : Nat} : ∀ {cs : List (List UInt8)} {l : List Gl.Cp}, Gl.comps cs = some l → (∀ s ∈ cs, s.length ≤ B) → l.length = cs.length ∧ ∀ x ∈ l, (x.getD []).length ≤ B
  | [], l, h, _ => by
    obtain rfl := Option.some.inj h
    exact ⟨rfl, fun x hx => by cases hx⟩
  | s :: r, l, h, hB => by
    have h2 : (match Gl.comp s with | none => none | some c => (Gl.comps r).map (c :: ·)) = some l := h
    cases hc : Gl.comp s with
    | none => rw [hc] at h2; cases h2
    | some c =>
      rw [hc] at h2
      cases hr : Gl.comps r with
      | none => rw [hr] at h2; cases h2
      | some l' =>
        rw [hr] at h2
        obtain rfl := Option.some.inj h2
        obtain ⟨h3, h4⟩ := comps_small hr (fun x hx => hB x (List.mem_cons_of_mem _ hx))
        refine ⟨by simp [h3], fun x hx => ?_⟩
        rcases List.mem_cons.1 hx with rfl | hx
        · exact Nat.le_trans (comp_small hc) (hB s (List.mem_cons_self ..))
        · exact h4 x hx
set_option maxHeartbeats 8000000 in
set_option maxRecDepth 100000 in
/-- quiltref32.Match. -/
theorem rmatch_any (g s : ByteArray) (w : World) (hg : g.size ≤ 1000000) (hs : s.size ≤ 900000) : Calls Tryz.prog 134 #[.string g, .string s] w (Ret (.bool (Ig.gmatch (Ig.L g) (Ig.L s))) w) := by
  have hlg : (Ig.L g).length = g.size := rfl
  have hls : (Ig.L s).length = s.size := rfl
  obtain ⟨R, hR⟩ : ∃ R, R = Ig.gmatch (Ig.L g) (Ig.L s) := ⟨_, rfl⟩
  have HR := Lib.hid hR
  have HGL := Lib.hid (rglob_any g w hg)
  have HSP : Hid (∀ W, Calls Tryz.prog 93 #[.string s] W (SplF (Ig.L s) W)) := Lib.hid fun W => rsplit32_any s W (by omega)
  rw [← hR]
  clear hR
  go_enter Tryz.func134, Tryz.ntmps134
  go_wp2_with fail
  refine HGL.out.mono ?_
  rintro e w1 ⟨A, n, m, ok, rfl, hx1, hok, hcs⟩
  have HX1 := Lib.hid hx1
  clear hx1 HGL
  cases ok with
  | false =>
    have HV : Hid (R = false) := Lib.hid (by
      rw [HR.out]
      unfold Ig.gmatch
      split
      · rfl
      · rename_i h200
        have h2 : decide ((Ig.L g).length ≤ 200) = true := decide_eq_true (by omega)
        rw [h2, Bool.and_true] at hok
        cases hc : Gl.comps (Ig.cut 47 (Ig.L g)) with
        | none => rfl
        | some l => rw [hc] at hok; cases hok)
    clear hcs hok
    go_wp2_with fail
    go_ret
    exact ⟨by rw [HV.out]; rfl, HX1.out⟩
  | true =>
    obtain ⟨cs, hcc⟩ : ∃ cs, Gl.comps (Ig.cut 47 (Ig.L g)) = some cs := by
      cases hc : Gl.comps (Ig.cut 47 (Ig.L g)) with
      | none => rw [hc] at hok; cases hok
      | some l => exact ⟨l, rfl⟩
    obtain ⟨hn, hnm, hsl⟩ := hcs cs rfl hcc
    have h200 : ¬ (200 < (Ig.L g).length) := by
      rw [hcc] at hok
      have h3 : decide ((Ig.L g).length ≤ 200) = true := hok.symm
      have := of_decide_eq_true h3
      omega
    have HV : Hid (R = (Gl.rowAt Gl.fitE cs (Ig.segs (Ig.L s)) (Gl.row0 n)).getD n false) := Lib.hid (by
      rw [HR.out]
      unfold Ig.gmatch
      rw [if_neg h200, hcc, ← hn]
      exact (Gl.row_fit cs _).symm)
    obtain ⟨hcl, hsm⟩ := comps_small (B := 200) hcc (fun x hx => by have := Ig.cut_len_le _ _ hx; omega)
    have hn2 : n ≤ 201 := by
      rw [← hn, hcl, Ig.cut_length]
      have : (Ig.L g).count 47 ≤ (Ig.L g).length := List.count_le_length
      omega
    have HSL := Lib.hid hsl
    have HN := Lib.hid hn
    have HSM := Lib.hid hsm
    clear hcs hok hcc hn hsl hsm hcl h200 HR
    go_wp2_with fail
    refine (HSP.out _).mono ?_
    rintro e w2 ⟨B, k, d, rfl, hk, hkd, hss, hx2⟩
    have hk2 : k ≤ 900001 := by
      rw [← hk]
      unfold Ig.segs
      split
      · simp
      · rw [Ig.cut_length]
        have : (Ig.L s).count 47 ≤ (Ig.L s).length := List.count_le_length
        omega
    have HX2 := Lib.hid (HX1.out.trans hx2)
    have HAF := Lib.hid (rafter_any A n m cs B k d (Ig.segs (Ig.L s)) w2 (Sls.ext RCpt.steadfast HSL.out hx2) HN.out (by omega) (Sls.mono LnR.steadfast hss (fun _ _ => trivial)) hk (by omega) (fun x hx => by have := HSM.out x hx; omega) (fun x hx => by
      unfold Ig.segs at hx
      split at hx
      · cases hx
      · have := Ig.cut_len_le _ _ hx
        omega))
    clear hx2 hss hk hkd hk2
    go_wp2_with fail
    refine HAF.out.mono ?_
    rintro e w3 ⟨g3, rfl, hbr, hx3⟩
    have HX3 := Lib.hid (HX2.out.trans hx3)
    have hln : (Gl.rowAt Gl.fitE cs (Ig.segs (Ig.L s)) (Gl.row0 n)).length = n + 1 := by
      have : ∀ (ss : List (List UInt8)) (now : List Bool), now.length = n + 1 → (Gl.rowAt Gl.fitE cs ss now).length = n + 1 := by
        intro ss
        induction ss with
        | nil => intro now h; show (Gl.closeTo cs now cs.length).length = _; rw [Gl.closeTo_length, h]
        | cons x r ih => intro now h; exact ih _ (by rw [Gl.nextTo_length, HN.out])
      exact this _ _ (by simp [Gl.row0])
    have hcell := hbr.cell (i := n) (by omega)
    obtain ⟨fv, hfv⟩ : ∃ b, (Gl.rowAt Gl.fitE cs (Ig.segs (Ig.L s)) (Gl.row0 n)).getD n false = b := ⟨_, rfl⟩
    rw [hfv] at HV hcell
    clear hfv hbr hx3 hln
    go_wp2_with fail
    go_ret
    exact ⟨by rw [HV.out]; rfl, HX3.out⟩
namespace Ig
theorem lastN_from {l : List UInt8} {f : Nat} (h : f = 0 ∨ (0 < f ∧ l[f - 1]? = some 47)) (hc : 47 ∉ l.drop f) : lastN l = l.drop f := by
  rcases h with rfl | ⟨h0, h1⟩
  · rw [List.drop_zero] at hc ⊢
    exact lastN_none hc
  · have e : l = l.take (f - 1) ++ 47 :: l.drop f := by
      have h2 := drop_at h1
      rw [show f - 1 + 1 = f by omega] at h2
      conv => lhs; rw [← List.take_append_drop (f - 1) l, h2]
    conv => lhs; rw [e]
    exact lastN_slash hc
end Ig
set_option maxHeartbeats 2000000 in
/-- quiltref39.last. -/
theorem rlast_any (s : ByteArray) (w : World) (hs : s.size ≤ 1000000) : Calls Tryz.prog 135 #[.string s] w (fun e w' => ∃ t : ByteArray, e = .returned (.string t) ∧ Ig.L t = Ig.lastN (Ig.L s) ∧ t.size ≤ s.size ∧ Ext w w') := by
  have hx := Ext.refl w
  go_enter Tryz.func135, Tryz.ntmps135
  go_wp2_with fail
  go_loopw [3, 4] (fun u3 u4 wr => ∃ f k : Nat, u3 = .int .i64 f ∧ u4 = .int .i64 k ∧ k ≤ s.size ∧ f ≤ k ∧ Hid ((f = 0 ∨ (0 < f ∧ (Ig.L s)[f - 1]? = some 47)) ∧ 47 ∉ ((Ig.L s).take k).drop f) ∧ Hid (Ext w wr)) (fun _ u _ => s.size - (intOf u).toNat)
  case atStart => exact ⟨0, 0, rfl, rfl, Nat.zero_le _, Nat.le_refl _, Lib.hid ⟨.inl rfl, by simp⟩, Lib.hid hx⟩
  case round =>
    clear hx
    rename World => wo
    obtain ⟨f, k, rfl, rfl, hk, hfk, HJ, HX⟩ := hrel
    by_cases hlt : k < s.size
    · have hat := byteAt s hlt
      obtain ⟨x, hxx⟩ : ∃ x, s[k] = x := ⟨_, rfl⟩
      rw [hxx] at hat
      have HAT := Lib.hid hat
      clear hat
      by_cases h : x = 47
      · subst h
        have HJ2 : Hid ((k + 1 = 0 ∨ (0 < k + 1 ∧ (Ig.L s)[k + 1 - 1]? = some 47)) ∧ 47 ∉ ((Ig.L s).take (k + 1)).drop (k + 1)) := Lib.hid ⟨.inr ⟨Nat.succ_pos _, by rw [Nat.add_sub_cancel]; exact HAT.out⟩, by rw [List.drop_eq_nil_of_le (by rw [List.length_take]; omega)]; simp⟩
        go_wp2_with fail
        go_roundw
        case rel => exact ⟨k + 1, k + 1, rfl, rfl, hlt, Nat.le_refl _, HJ2, HX⟩
        case measure => simp [intOf]; omega
      · have e1 : ((x.toNat : Int) == 47) = false := byte_ne (n := 47) (by omega) h
        have HJ2 : Hid ((f = 0 ∨ (0 < f ∧ (Ig.L s)[f - 1]? = some 47)) ∧ 47 ∉ ((Ig.L s).take (k + 1)).drop f) := Lib.hid ⟨HJ.out.1, fun hm => by
          rw [take_snoc HAT.out, List.drop_append_of_le_length (by rw [List.length_take]; have : (Ig.L s).length = s.size := rfl; omega)] at hm
          rcases List.mem_append.1 hm with hm | hm
          · exact HJ.out.2 hm
          · exact h (List.mem_singleton.1 hm).symm⟩
        go_wp2_with fail
        go_roundw
        case rel => exact ⟨f, k + 1, rfl, rfl, hlt, by omega, HJ2, HX⟩
        case measure => simp [intOf]; omega
    · obtain rfl : k = s.size := by omega
      have HV : Hid (Ig.lastN (Ig.L s) = (Ig.L s).drop f) := Lib.hid (by
        have h := HJ.out
        have e : (Ig.L s).take s.size = Ig.L s := List.take_of_length_le (Nat.le_refl _)
        rw [e] at h
        exact Ig.lastN_from h.1 h.2)
      go_wp2_with fail
      go_ret
      exact ⟨s.extract f s.size, rfl, by rw [HV.out]; exact L_from s f, by rw [ByteArray.size_extract]; omega, HX.out⟩
end Go.Proofs.YtnjcifppkijanaaGreatDoor
namespace Go.Proofs.YtnjcifppkijanaaGreatDoor
open Go Go.RowKit Go.Shelf
set_option maxHeartbeats 8000000 in
set_option maxRecDepth 100000 in
/-- quiltref39.fits. -/
theorem rfits_any (r : Ig.Ru) (home path : ByteArray) (isDir : Bool) (t : List UInt8) (w : World) (hw : Ig.rest (Ig.L home) (Ig.L path) = some t) (hg : r.glob.size ≤ 1000000) (hp : path.size ≤ 900000) :
    Calls Tryz.prog 107 #[.agg #[.bool r.neg, .bool r.dirOnly, .bool r.anch, .string r.glob], .string home, .string path, .bool isDir] w (Ret (.bool (Ig.fitsR (Ig.L home) (Ig.L path) isDir r)) w) := by
  obtain ⟨neg, dirOnly, anch, gb⟩ := r
  dsimp only at hg
  obtain ⟨R, hR⟩ : ∃ R, R = Ig.fitsR (Ig.L home) (Ig.L path) isDir ⟨neg, dirOnly, anch, gb⟩ := ⟨_, rfl⟩
  have HR : Hid (R = (!(dirOnly && !isDir) && Ig.gmatch (Ig.L gb) (if anch then t else Ig.lastN (Ig.L path)))) := Lib.hid (by
    rw [hR]
    unfold Ig.fitsR
    rw [hw])
  rw [← hR]
  have HX0 := Lib.hid ((Ext.refl w).alloc (.cells #[.bool neg, .bool dirOnly, .bool anch, .string gb] 60))
  have HB0 := Lib.hid (Blk.new' (w := w) (g := w.heap.size) (cs := #[.bool neg, .bool dirOnly, .bool anch, .string gb]) (t := 60) rfl)
  have HMA : Hid (∀ (x : ByteArray) W, x.size ≤ 900000 → Calls Tryz.prog 134 #[.string gb, .string x] W (Ret (.bool (Ig.gmatch (Ig.L gb) (Ig.L x))) W)) := Lib.hid fun x W hx => rmatch_any gb x W hg hx
  have HWI := Lib.hid hw
  obtain ⟨hc, hf, hl⟩ := HB0.out.all
  have hc0 : (w.alloc (.cells #[.bool neg, .bool dirOnly, .bool anch, .string gb] 60)).cell? ⟨w.heap.size, 0 + 3, none⟩ = some (.string gb) := hc 3
  have HCG : Hid (∀ W, Ext (w.alloc (.cells #[.bool neg, .bool dirOnly, .bool anch, .string gb] 60)) W → W.cell? ⟨w.heap.size, 3, none⟩ = some (.string gb)) := Lib.hid fun W hW => (Blk.ext hW HB0.out).cell 3
  clear hR hw hc0
  by_cases hdo : dirOnly = true ∧ isDir = false
  · obtain ⟨rfl, rfl⟩ := hdo
    go_enter Tryz.func107, Tryz.ntmps107
    go_wp2_with fail
    go_ret
    exact ⟨by rw [HR.out]; rfl, HX0.out⟩
  · have HR2 : Hid (R = Ig.gmatch (Ig.L gb) (if anch then t else Ig.lastN (Ig.L path))) := Lib.hid (by
      rw [HR.out]
      have : (dirOnly && !isDir) = false := by cases dirOnly <;> cases isDir <;> simp_all
      rw [this]
      rfl)
    have hdi : (dirOnly = true ∧ isDir = true) ∨ dirOnly = false := by cases dirOnly <;> cases isDir <;> simp_all
    clear HR hdo
    cases anch with
    | false =>
      have HLA : Hid (∀ W, Calls Tryz.prog 135 #[.string path] W (fun e w' => ∃ t : ByteArray, e = .returned (.string t) ∧ Ig.L t = Ig.lastN (Ig.L path) ∧ t.size ≤ path.size ∧ Ext W w')) := Lib.hid fun W => rlast_any path W (by omega)
      rcases hdi with ⟨rfl, rfl⟩ | rfl
      all_goals
        go_enter Tryz.func107, Tryz.ntmps107
        go_wp2_with fail
        refine wp_region_noPanic (wp_region_held_drew (S := fun w' => Ext (w.alloc (.cells _ 60)) w') (by kernel_rfl) (Ext.refl _).drew1 (fun hv => ?_))
        generalize World.drew _ = v0 at hv ⊢
        refine take_any (i := 0) (v := .pointer (some ⟨w.heap.size, 3, none⟩)) rfl rfl (by kernel_rfl) (by kernel_rfl) (by kernel_rfl) (.inl ⟨(by kernel_rfl), fun W' hW' => ?tq⟩) hv ?_
        case tq =>
          go_simp
        try simp only [Act.put, sA, s0, sS]
        refine take_any (i := 1) (v := .string gb) rfl rfl (by kernel_rfl) (by kernel_rfl) (by kernel_rfl) (.inl ⟨(by kernel_rfl), fun W' hW' => ?tq⟩) hv ?_
        case tq =>
          have hcx := HCG.out W' hW'
          go_simp
        try simp only [Act.put, sA, s0, sS]
        refine take_any (i := 2) (v := .string path) rfl rfl (by kernel_rfl) (by kernel_rfl) (by kernel_rfl) (.inl ⟨(by kernel_rfl), fun W' hW' => ?tq⟩) hv ?_
        case tq =>
          go_simp
        try simp only [Act.put, sA, s0, sS]
        refine wpAnyH_one (i := 3) (by kernel_rfl) rfl (by kernel_rfl) ?_
        go_simp
        refine (HLA.out _).mono ?_
        rintro e x1 ⟨z, rfl, hz1, hz2, hx0⟩
        have hv2 := hv.trans hx0
        refine ⟨hv2, ?_⟩
        try simp only [Act.put, sA, s0, sS]
        refine wpAnyH_one (i := 4) (by kernel_rfl) rfl (by kernel_rfl) ?_
        go_simp
        have HMZ := Lib.hid (HMA.out z x1 (by omega))
        rw [hz1] at HMZ
        have HV : Hid (R = Ig.gmatch (Ig.L gb) (Ig.lastN (Ig.L path))) := Lib.hid HR2.out
        clear hz1 hz2 hv hx0
        generalize Ig.gmatch (Ig.L gb) (Ig.lastN (Ig.L path)) = mv at HMZ HV
        refine HMZ.out.mono ?_
        rintro e x2 ⟨rfl, hx0⟩
        have hv := hv2.trans hx0
        refine ⟨hv, ?_⟩
        try simp only [Act.put, sA, s0, sS]
        refine take_any (i := 5) (v := .bool mv) rfl rfl (by kernel_rfl) (by kernel_rfl) (by kernel_rfl) (.inl ⟨(by kernel_rfl), fun W' hW' => ?tq⟩) hv ?_
        case tq =>
          go_simp
        try simp only [Act.put, sA, s0, sS]
        refine wpAnyH_done (by kernel_rfl) (NoPanic.normal ?_) _
        have HXE := Lib.hid (HX0.out.trans hv)
        clear hv hv2 hx0
        go_wp2_with fail
        go_ret
        exact ⟨by rw [HV.out]; rfl, HXE.out⟩
    | true =>
      by_cases hh : Ig.L home = []
      · have hq : (home.toList == ([] : List UInt8)) = true := by rw [ByteArray.toList_eq]; simpa using hh
        have ht : t = Ig.L path := by
          have h := HWI.out
          unfold Ig.rest at h
          rw [if_pos hh] at h
          exact (Option.some.inj h).symm
        subst ht
        have HMZ := Lib.hid (fun W => HMA.out path W hp)
        have HV : Hid (R = Ig.gmatch (Ig.L gb) (Ig.L path)) := Lib.hid HR2.out
        generalize Ig.gmatch (Ig.L gb) (Ig.L path) = mv at HMZ HV
        clear hh
        rcases hdi with ⟨rfl, rfl⟩ | rfl
        all_goals
          go_enter Tryz.func107, Tryz.ntmps107
          go_wp2_with fail
          refine (HMZ.out _).mono ?_
          rintro e w2 ⟨rfl, hx2⟩
          have HX2 := Lib.hid (HX0.out.trans hx2)
          clear hx2
          go_wp2_with fail
          go_ret
          exact ⟨by rw [HV.out]; rfl, HX2.out⟩
      · have hq : (home.toList == ([] : List UInt8)) = false := by rw [ByteArray.toList_eq]; simpa using hh
        obtain ⟨hpre, ht⟩ : ((Ig.L home) ++ [47]).isPrefixOf (Ig.L path) = true ∧ t = (Ig.L path).drop (home.size + 1) := by
          have h := HWI.out
          unfold Ig.rest at h
          rw [if_neg hh] at h
          split at h
          · rename_i h1
            exact ⟨h1, (Option.some.inj h).symm⟩
          · cases h
        have hsz : home.size + 1 ≤ path.size := by
          have h1 := (List.isPrefixOf_iff_prefix.1 hpre).length_le
          rw [List.length_append, List.length_singleton] at h1
          exact h1
        have hsz2 : (home.size : Int) + 1 ≤ (path.size : Int) := by omega
        have hwr : IntKind.i64.wrap ((home.size : Int) + 1) = (home.size : Int) + 1 := IntWalk.i64_in _ (by omega)
        have hnn : ¬ ((home.size : Int) + 1 < 0) := by omega
        obtain ⟨z, hz⟩ : ∃ z, path.extract (home.size + 1) path.size = z := ⟨_, rfl⟩
        have hzl : Ig.L z = t := by rw [← hz, ht]; exact L_from path _
        have hzs : z.size ≤ 900000 := by rw [← hz, ByteArray.size_extract]; omega
        have HMZ := Lib.hid (fun W => HMA.out z W hzs)
        rw [hzl] at HMZ
        have HV : Hid (R = Ig.gmatch (Ig.L gb) t) := Lib.hid HR2.out
        generalize Ig.gmatch (Ig.L gb) t = mv at HMZ HV
        clear hh hpre ht hzl hzs
        rcases hdi with ⟨rfl, rfl⟩ | rfl
        all_goals
          go_enter Tryz.func107, Tryz.ntmps107
          go_wp2_with fail
          refine wp_region_noPanic (wp_region_held_drew (S := fun w' => Ext (w.alloc (.cells _ 60)) w') (by kernel_rfl) (Ext.refl _).drew1 (fun hv => ?_))
          generalize World.drew _ = v0 at hv ⊢
          refine take_any (i := 0) (v := .pointer (some ⟨w.heap.size, 3, none⟩)) rfl rfl (by kernel_rfl) (by kernel_rfl) (by kernel_rfl) (.inl ⟨(by kernel_rfl), fun W' hW' => ?tq⟩) hv ?_
          case tq =>
            go_simp
          try simp only [Act.put, sA, s0, sS]
          refine take_any (i := 1) (v := .string gb) rfl rfl (by kernel_rfl) (by kernel_rfl) (by kernel_rfl) (.inl ⟨(by kernel_rfl), fun W' hW' => ?tq⟩) hv ?_
          case tq =>
            have hcx := HCG.out W' hW'
            go_simp
          try simp only [Act.put, sA, s0, sS]
          refine take_any (i := 2) (v := .string path) rfl rfl (by kernel_rfl) (by kernel_rfl) (by kernel_rfl) (.inl ⟨(by kernel_rfl), fun W' hW' => ?tq⟩) hv ?_
          case tq =>
            go_simp
          try simp only [Act.put, sA, s0, sS]
          refine take_any (i := 3) (v := .string home) rfl rfl (by kernel_rfl) (by kernel_rfl) (by kernel_rfl) (.inl ⟨(by kernel_rfl), fun W' hW' => ?tq⟩) hv ?_
          case tq =>
            go_simp
          try simp only [Act.put, sA, s0, sS]
          refine take_any (i := 4) (v := .int .i64 home.size) rfl rfl (by kernel_rfl) (by kernel_rfl) (by kernel_rfl) (.inl ⟨(by kernel_rfl), fun W' hW' => ?tq⟩) hv ?_
          case tq =>
            go_simp
          try simp only [Act.put, sA, s0, sS]
          refine take_any (i := 5) (v := .int .i64 ((home.size : Int) + 1)) rfl rfl (by kernel_rfl) (by kernel_rfl) (by kernel_rfl) (.inl ⟨(by kernel_rfl), fun W' hW' => ?tq⟩) hv ?_
          case tq =>
            go_simp
          try simp only [Act.put, sA, s0, sS]
          refine take_any (i := 6) (v := .string z) rfl rfl (by kernel_rfl) (by kernel_rfl) (by kernel_rfl) (.inl ⟨(by kernel_rfl), fun W' hW' => ?tq⟩) hv ?_
          case tq =>
            go_simp
          try simp only [Act.put, sA, s0, sS]
          refine wpAnyH_one (i := 7) (by kernel_rfl) rfl (by kernel_rfl) ?_
          go_simp
          refine (HMZ.out _).mono ?_
          rintro e x2 ⟨rfl, hx0⟩
          have hv2 := hv.trans hx0
          refine ⟨hv2, ?_⟩
          try simp only [Act.put, sA, s0, sS]
          have hv := hv2
          clear hx0 hv2
          refine take_any (i := 8) (v := .bool mv) rfl rfl (by kernel_rfl) (by kernel_rfl) (by kernel_rfl) (.inl ⟨(by kernel_rfl), fun W' hW' => ?tq⟩) hv ?_
          case tq =>
            go_simp
          try simp only [Act.put, sA, s0, sS]
          refine wpAnyH_done (by kernel_rfl) (NoPanic.normal ?_) _
          have HXE := Lib.hid (HX0.out.trans hv)
          clear hv
          go_wp2_with fail
          go_ret
          exact ⟨by rw [HV.out]; rfl, HXE.out⟩
end Go.Proofs.YtnjcifppkijanaaGreatDoor
namespace Go.Proofs.YtnjcifppkijanaaGreatDoor
open Go Go.RowKit Go.Shelf
/-- 1: selected, -1: not, 0: no rule fits. -/
def decCode : Option Bool → Int
  | none => 0
  | some true => 1
  | some false => -1
namespace Ig
def decTo (path : List UInt8) (isDir : Bool) (f : Fi) (k : Nat) : Option Bool := ((f.rules.take k).reverse.find? (fitsR (L f.dir) path isDir)).map fun r => !r.neg
theorem decTo_end (path : List UInt8) (isDir : Bool) (f : Fi) : decTo path isDir f f.rules.length = dec path isDir f := by unfold decTo; rw [List.take_length]; rfl
theorem decTo_next {path : List UInt8} {isDir : Bool} {f : Fi} {k : Nat} {r : Ru} (h : f.rules[k]? = some r) : decTo path isDir f (k + 1) = if fitsR (L f.dir) path isDir r = true then some (!r.neg) else decTo path isDir f k := by
  unfold decTo
  rw [take_snoc h, List.reverse_append, List.reverse_singleton, List.singleton_append]
  by_cases hx : fitsR (L f.dir) path isDir r = true
  · rw [if_pos hx, List.find?_cons_of_pos hx]
    rfl
  · rw [if_neg hx, List.find?_cons_of_neg hx]
def selTo (l : List Fi) (path : List UInt8) (isDir : Bool) (k : Nat) : Option (Nat × Bool) := (l.take k).foldl (pick path isDir) none
theorem selTo_end (l : List Fi) (path : List UInt8) (isDir : Bool) : selTo l path isDir l.length = sel l path isDir := by unfold selTo; rw [List.take_length]; rfl
theorem selTo_next {l : List Fi} {path : List UInt8} {isDir : Bool} {k : Nat} {f : Fi} (h : l[k]? = some f) : selTo l path isDir (k + 1) = pick path isDir (selTo l path isDir k) f := by
  unfold selTo
  rw [take_snoc h, List.foldl_append]
  rfl
theorem pick_none {path : List UInt8} {isDir : Bool} {o : Option (Nat × Bool)} {f : Fi} (h : dec path isDir f = none) : pick path isDir o f = o := by unfold pick; rw [h]
theorem pick_early {path : List UInt8} {isDir : Bool} {o : Option (Nat × Bool)} {f : Fi} (h : later o (L f.dir).length = false) : pick path isDir o f = o := by
  unfold pick
  split
  · rfl
  · rw [h]; rfl
theorem pick_some {path : List UInt8} {isDir : Bool} {o : Option (Nat × Bool)} {f : Fi} {b : Bool} (h : later o (L f.dir).length = true) (hd : dec path isDir f = some b) : pick path isDir o f = some ((L f.dir).length, b) := by
  unfold pick
  rw [hd]
  show (if later o (L f.dir).length = true then _ else _) = _
  rw [if_pos h]
end Ig
def oCode : Option (Nat × Bool) → Int
  | none => 0
  | some (_, b) => decCode (some b)
def oLen : Option (Nat × Bool) → Int
  | none => -1
  | some (m, _) => m
theorem later_len (o : Option (Nat × Bool)) (n : Nat) : Ig.later o n = decide (oLen o < (n : Int)) := by
  cases o with
  | none => exact (decide_eq_true (by show (-1 : Int) < n; omega)).symm
  | some z =>
    obtain ⟨m, b⟩ := z
    show decide (m < n) = decide ((m : Int) < (n : Int))
    exact decide_eq_decide.2 (by omega)
theorem oCode_one (o : Option (Nat × Bool)) : (oCode o == 1) = o.any (·.2) := by
  cases o with
  | none => rfl
  | some z => obtain ⟨m, b⟩ := z; cases b <;> rfl
set_option maxHeartbeats 8000000 in
set_option maxRecDepth 100000 in
/-- quiltref39.decide. -/
theorem rdecide_any (f : Ig.Fi) (A : Option Addr) (n m : Nat) (path : ByteArray) (isDir : Bool) (w : World) (hru : Rus w All A f.rules) (hn : f.rules.length = n) (hb : n ≤ 1000000) (hw : Ig.within (Ig.L path) f = true) (hg : ∀ r ∈ f.rules, r.glob.size ≤ 1000000) (hp : path.size ≤ 900000) :
    Calls Tryz.prog 79 #[.agg #[.string f.dir, .slice A n m], .string path, .bool isDir] w (Ret (.int .i64 (decCode (Ig.dec (Ig.L path) isDir f))) w) := by
  obtain ⟨R, hR⟩ : ∃ R, R = decCode (Ig.dec (Ig.L path) isDir f) := ⟨_, rfl⟩
  have HR := Lib.hid hR
  rw [← hR]
  obtain ⟨t, ht⟩ : ∃ t, Ig.rest (Ig.L f.dir) (Ig.L path) = some t := by
    unfold Ig.within at hw
    exact Option.isSome_iff_exists.1 hw
  have HT := Lib.hid ht
  have HL := Lib.hid hru
  have HN := Lib.hid hn
  have HG := Lib.hid hg
  have HX0 := Lib.hid ((Ext.refl w).alloc (.cells #[.string f.dir, .slice A n m] 32))
  have HB0 := Lib.hid (Blk.new' (w := w) (g := w.heap.size) (cs := #[.string f.dir, .slice A n m]) (t := 32) rfl)
  clear hR ht hru hn hg hw
  go_enter Tryz.func79, Tryz.ntmps79
  go_wp2_with fail
  go_loopw [7, 8] (fun u7 u8 wr => ∃ k : Nat, u7 = .int .i64 (decCode (Ig.decTo (Ig.L path) isDir f k)) ∧ u8 = .int .i64 k ∧ k ≤ n ∧ Hid (Blk wr w.heap.size 32 #[.string f.dir, .slice A n m]) ∧ Hid (Ext w wr)) (fun _ u _ => n - (intOf u).toNat)
  case atStart => exact ⟨0, rfl, rfl, Nat.zero_le _, HB0, HX0⟩
  case round =>
    clear HB0 HX0
    rename World => wo
    obtain ⟨k, rfl, rfl, hk, HB, HX⟩ := hrel
    obtain ⟨hc, hf, hl⟩ := HB.out.all
    obtain ⟨oz, hoz⟩ : ∃ z, z = decCode (Ig.decTo (Ig.L path) isDir f k) := ⟨_, rfl⟩
    have HOZ := Lib.hid hoz
    rw [← hoz]
    clear hoz
    by_cases hlt : k < n
    · have hkl : k < f.rules.length := by rw [HN.out]; exact hlt
      obtain ⟨r, hr⟩ : ∃ r, f.rules[k]? = some r := ⟨_, List.getElem?_eq_getElem hkl⟩
      obtain ⟨b, oo, cs, rfl, hbl, -, -, hrr, hcs⟩ := HL.out.get hr
      obtain rfl : cs = _ := hcs
      have hgr := HG.out _ (List.mem_of_getElem? hr)
      have HCE : Hid (∀ W, Ext w W → W.cell? ⟨b, oo + k * 4, none⟩ = some (.bool r.neg) ∧ W.cell? ⟨b, oo + k * 4 + 1, none⟩ = some (.bool r.dirOnly) ∧ W.cell? ⟨b, oo + k * 4 + 2, none⟩ = some (.bool r.anch) ∧ W.cell? ⟨b, oo + k * 4 + 3, none⟩ = some (.string r.glob)) := Lib.hid fun W hW =>
        ⟨(hW.cell (p := ⟨b, oo + k * 4, none⟩) hbl).trans (hrr 0 _ rfl), (hW.cell (p := ⟨b, oo + k * 4 + 1, none⟩) hbl).trans (hrr 1 _ rfl), (hW.cell (p := ⟨b, oo + k * 4 + 2, none⟩) hbl).trans (hrr 2 _ rfl), (hW.cell (p := ⟨b, oo + k * 4 + 3, none⟩) hbl).trans (hrr 3 _ rfl)⟩
      obtain ⟨fv, hfv⟩ : ∃ z, Ig.fitsR (Ig.L f.dir) (Ig.L path) isDir r = z := ⟨_, rfl⟩
      have HFI : Hid (∀ W, Calls Tryz.prog 107 #[.agg #[.bool r.neg, .bool r.dirOnly, .bool r.anch, .string r.glob], .string f.dir, .string path, .bool isDir] W (Ret (.bool fv) W)) := Lib.hid fun W => by rw [← hfv]; exact rfits_any r f.dir path isDir t W HT.out hgr hp
      have HNX := Lib.hid (Ig.decTo_next (path := Ig.L path) (isDir := isDir) hr)
      have HFV := Lib.hid hfv
      clear hr hkl hrr hfv hgr
      have hkn : (k : Int) < (n : Int) := by omega
      go_wp2_with fail
      refine wp_region_noPanic (wp_region_held_drew (S := fun w' => Ext wo w') (by kernel_rfl) (Ext.refl wo).drew1 (fun hv => ?_))
      generalize wo.drew = v0 at hv ⊢
      refine take_any (i := 0) (v := .pointer (some ⟨w.heap.size, 1, none⟩)) rfl rfl (by kernel_rfl) (by kernel_rfl) (by kernel_rfl) (.inl ⟨(by kernel_rfl), fun W' hW' => ?tq⟩) hv ?_
      case tq =>
        go_simp
      try simp only [Act.put, sA, s0, sS]
      refine take_any (i := 1) (v := .slice (some ⟨b, oo, none⟩) n m) rfl rfl (by kernel_rfl) (by kernel_rfl) (by kernel_rfl) (.inl ⟨(by kernel_rfl), fun W' hW' => ?tq⟩) hv ?_
      case tq =>
        have hcx := (Blk.ext hW' HB.out).cell 1
        go_simp
      try simp only [Act.put, sA, s0, sS]
      refine take_any (i := 2) (v := .int .i64 k) rfl rfl (by kernel_rfl) (by kernel_rfl) (by kernel_rfl) (.inl ⟨(by kernel_rfl), fun W' hW' => ?tq⟩) hv ?_
      case tq =>
        go_simp
      try simp only [Act.put, sA, s0, sS]
      refine take_any (i := 3) (v := .pointer (some ⟨b, oo + k * 4, none⟩)) rfl rfl (by kernel_rfl) (by kernel_rfl) (by kernel_rfl) (.inl ⟨(by kernel_rfl), fun W' hW' => ?tq⟩) hv ?_
      case tq =>
        go_simp
      try simp only [Act.put, sA, s0, sS]
      refine take_any (i := 4) (v := .agg #[.bool r.neg, .bool r.dirOnly, .bool r.anch, .string r.glob]) rfl rfl (by kernel_rfl) (by kernel_rfl) (by kernel_rfl) (.inl ⟨(by kernel_rfl), fun W' hW' => ?tq⟩) hv ?_
      case tq =>
        obtain ⟨y0, y1, y2, y3⟩ := HCE.out W' (HX.out.trans hW')
        go_simp
      try simp only [Act.put, sA, s0, sS]
      refine take_any (i := 5) (v := .pointer (some ⟨w.heap.size, 0, none⟩)) rfl rfl (by kernel_rfl) (by kernel_rfl) (by kernel_rfl) (.inl ⟨(by kernel_rfl), fun W' hW' => ?tq⟩) hv ?_
      case tq =>
        go_simp
      try simp only [Act.put, sA, s0, sS]
      refine take_any (i := 6) (v := .string f.dir) rfl rfl (by kernel_rfl) (by kernel_rfl) (by kernel_rfl) (.inl ⟨(by kernel_rfl), fun W' hW' => ?tq⟩) hv ?_
      case tq =>
        have hcx := (Blk.ext hW' HB.out).cell 0
        go_simp
      try simp only [Act.put, sA, s0, sS]
      refine take_any (i := 7) (v := .string path) rfl rfl (by kernel_rfl) (by kernel_rfl) (by kernel_rfl) (.inl ⟨(by kernel_rfl), fun W' hW' => ?tq⟩) hv ?_
      case tq =>
        go_simp
      try simp only [Act.put, sA, s0, sS]
      refine take_any (i := 8) (v := .bool isDir) rfl rfl (by kernel_rfl) (by kernel_rfl) (by kernel_rfl) (.inl ⟨(by kernel_rfl), fun W' hW' => ?tq⟩) hv ?_
      case tq =>
        go_simp
      try simp only [Act.put, sA, s0, sS]
      refine wpAnyH_one (i := 9) (by kernel_rfl) rfl (by kernel_rfl) ?_
      go_simp
      refine (HFI.out _).mono ?_
      rintro e x1 ⟨rfl, hx0⟩
      have hv2 := hv.trans hx0
      refine ⟨hv2, ?_⟩
      try simp only [Act.put, sA, s0, sS]
      refine wpAnyH_done (by kernel_rfl) (NoPanic.normal ?_) _
      have HBx := Lib.hid (Blk.ext hv2 HB.out)
      have HXx := Lib.hid (HX.out.trans hv2)
      obtain ⟨y0, -, -, -⟩ := HCE.out x1 HXx.out
      obtain ⟨hc2, hf2, hl2⟩ := HBx.out.all
      clear hv hv2 hx0 hc hf hl HB HX
      cases fv with
      | false =>
        have HV : Hid (decCode (Ig.decTo (Ig.L path) isDir f (k + 1)) = oz) := Lib.hid (by rw [HNX.out, if_neg (by rw [HFV.out]; decide), HOZ.out])
        go_wp2_with fail
        go_roundw
        case rel => exact ⟨k + 1, by rw [HV.out], rfl, hlt, HBx, HXx⟩
        case measure => simp [intOf]; omega
      | true =>
        have HV : Hid (decCode (Ig.decTo (Ig.L path) isDir f (k + 1)) = decCode (some (!r.neg))) := Lib.hid (by rw [HNX.out, if_pos HFV.out])
        generalize r.neg = ng at y0 HV
        cases ng
        all_goals
          go_wp2_with fail
          go_roundw
          case rel => exact ⟨k + 1, by rw [HV.out]; rfl, rfl, hlt, HBx, HXx⟩
          case measure => simp [intOf]; omega
    · obtain rfl : k = n := by omega
      have HV : Hid (R = oz) := Lib.hid (by rw [HR.out, HOZ.out, ← HN.out, Ig.decTo_end])
      go_wp2_with fail
      go_ret
      exact ⟨by rw [HV.out]; rfl, HX.out⟩
end Go.Proofs.YtnjcifppkijanaaGreatDoor
namespace Go.Proofs.YtnjcifppkijanaaGreatDoor
open Go Go.RowKit Go.Shelf
/-- What the reference's walks ask of files. -/
structure Ig.Tame (l : List Ig.Fi) : Prop where
  fits : Ig.Fits l
  globs : ∀ f ∈ l, ∀ r ∈ f.rules, r.glob.size ≤ 1000000
set_option maxHeartbeats 8000000 in
set_option maxRecDepth 100000 in
/-- quiltref39.selected. -/
theorem rselected_any (A : Option Addr) (n c : Nat) (l : List Ig.Fi) (path : ByteArray) (isDir : Bool) (w : World) (h : Fis w All A l) (hn : l.length = n) (hb : n ≤ 1000000) (hf : Ig.Tame l) (hp : path.size ≤ 900000) :
    Calls Tryz.prog 58 #[.slice A n c, .string path, .bool isDir] w (Ret (.bool (Ig.selected l (Ig.L path) isDir)) w) := by
  obtain ⟨R, hR⟩ : ∃ R, R = Ig.selected l (Ig.L path) isDir := ⟨_, rfl⟩
  have HR := Lib.hid hR
  rw [← hR]
  have HL := Lib.hid h
  have HN := Lib.hid hn
  have HF := Lib.hid hf
  have hx := Ext.refl w
  clear hR h hn hf
  go_enter Tryz.func58, Tryz.ntmps58
  go_wp2_with fail
  go_loopw [7, 8, 9, 10] (fun u7 u8 u9 _ wr => ∃ k : Nat, u7 = .int .i64 (oCode (Ig.selTo l (Ig.L path) isDir k)) ∧ u8 = .int .i64 (oLen (Ig.selTo l (Ig.L path) isDir k)) ∧ u9 = .int .i64 k ∧ k ≤ n ∧ Hid (Ext w wr)) (fun _ _ u _ _ => n - (intOf u).toNat)
  case atStart => exact ⟨0, rfl, rfl, rfl, Nat.zero_le _, Lib.hid hx⟩
  case round =>
    clear hx
    rename World => wo
    obtain ⟨k, rfl, rfl, rfl, hk, HX⟩ := hrel
    obtain ⟨o, ho⟩ : ∃ o, o = Ig.selTo l (Ig.L path) isDir k := ⟨_, rfl⟩
    have HO := Lib.hid ho
    rw [← ho]
    obtain ⟨oc, hoc⟩ : ∃ z, z = oCode o := ⟨_, rfl⟩
    obtain ⟨ol, hol⟩ : ∃ z, z = oLen o := ⟨_, rfl⟩
    have HOC := Lib.hid hoc
    have HOL := Lib.hid hol
    rw [← hoc, ← hol]
    clear ho hoc hol
    by_cases hlt : k < n
    · have hkl : k < l.length := by rw [HN.out]; exact hlt
      have e0 : l[k]? = some l[k] := List.getElem?_eq_getElem _
      have hmem := List.getElem_mem hkl
      have hfd := HF.out.fits.dirs _ hmem
      have hfr := HF.out.fits.rules _ hmem
      have hfg := HF.out.globs _ hmem
      obtain ⟨b, oo, cs, rfl, hbl, -, -, hr, A', n', m', rfl, hn', hnm', hru⟩ := HL.out.get e0
      have c0w := hr 0 _ rfl
      have c1w := hr 1 _ rfl
      rw [Nat.add_zero] at c0w
      have HRU := Lib.hid hru
      have HNX := Lib.hid (Ig.selTo_next (path := Ig.L path) (isDir := isDir) e0)
      clear hr e0 hru hmem
      generalize l[k] = f at c0w c1w HRU hn' hfd hfr hfg HNX
      clear hkl
      rw [← HO.out] at HNX
      have c0 := (HX.out.cell (p := ⟨b, oo + k * 2, none⟩) hbl).trans c0w
      have c1 := (HX.out.cell (p := ⟨b, oo + k * 2 + 1, none⟩) hbl).trans c1w
      obtain ⟨wv, hwv⟩ : ∃ z, Ig.within (Ig.L path) f = z := ⟨_, rfl⟩
      have HWI : Hid (∀ W, Calls Tryz.prog 27 #[.string path, .string f.dir] W (Same (.bool wv) W)) := Lib.hid fun W => by
        rw [← hwv, ← Ig.within_eq]
        exact rwithin39_same path f.dir W (by omega)
      have HWV := Lib.hid hwv
      have hlat := later_len o (Ig.L f.dir).length
      rw [show ((Ig.L f.dir).length : Int) = (f.dir.size : Int) from rfl, ← HOL.out] at hlat
      have HLA := Lib.hid hlat
      clear hwv hlat
      have hkn : (k : Int) < (n : Int) := by omega
      go_wp2_with fail
      refine (HWI.out _).mono ?_
      rintro e w1 ⟨rfl, hww⟩
      obtain rfl := hww.symm
      cases wv with
      | false =>
        have HV : Hid (Ig.selTo l (Ig.L path) isDir (k + 1) = o) := Lib.hid (by rw [HNX.out]; exact Ig.pick_none (Ig.dec_within HWV.out))
        go_wp2_with fail
        go_roundw
        case rel => exact ⟨k + 1, by rw [HV.out, HOC.out], by rw [HV.out, HOL.out], rfl, hlt, HX⟩
        case measure => simp [intOf]; omega
      | true =>
        by_cases hle : (f.dir.size : Int) ≤ ol
        · have HV : Hid (Ig.selTo l (Ig.L path) isDir (k + 1) = o) := Lib.hid (by rw [HNX.out]; exact Ig.pick_early (by rw [HLA.out]; exact decide_eq_false (by omega)))
          go_wp2_with fail
          go_roundw
          case rel => exact ⟨k + 1, by rw [HV.out, HOC.out], by rw [HV.out, HOL.out], rfl, hlt, HX⟩
          case measure => simp [intOf]; omega
        · have HLT : Hid (Ig.later o (Ig.L f.dir).length = true) := Lib.hid (by rw [HLA.out]; exact decide_eq_true (by omega))
          have HDE := Lib.hid (rdecide_any f A' n' m' path isDir wo (Sls.ext RuR.steadfast HRU.out HX.out) hn' (by omega) HWV.out hfg hp)
          obtain ⟨dv, hdv⟩ : ∃ z, Ig.dec (Ig.L path) isDir f = z := ⟨_, rfl⟩
          rw [hdv] at HDE
          have HDV := Lib.hid hdv
          clear hdv
          go_wp2_with fail
          refine HDE.out.mono ?_
          rintro e w2 ⟨rfl, hx2⟩
          have HX2 := Lib.hid (HX.out.trans hx2)
          have d0 := (HX2.out.cell (p := ⟨b, oo + k * 2, none⟩) hbl).trans c0w
          clear hx2 HX c0 c1 HDE
          cases dv with
          | none =>
            have HV : Hid (Ig.selTo l (Ig.L path) isDir (k + 1) = o) := Lib.hid (by rw [HNX.out]; exact Ig.pick_none HDV.out)
            have hz : decCode none = 0 := rfl
            simp only [hz]
            go_wp2_with fail
            go_roundw
            case rel => exact ⟨k + 1, by rw [HV.out, HOC.out], by rw [HV.out, HOL.out], rfl, hlt, HX2⟩
            case measure => simp [intOf]; omega
          | some bv =>
            have HV : Hid (Ig.selTo l (Ig.L path) isDir (k + 1) = some ((Ig.L f.dir).length, bv)) := Lib.hid (by rw [HNX.out]; exact Ig.pick_some HLT.out HDV.out)
            have hz : (decCode (some bv) != 0) = true := by cases bv <;> rfl
            have HVC : Hid (oCode (Ig.selTo l (Ig.L path) isDir (k + 1)) = decCode (some bv)) := Lib.hid (by rw [HV.out]; rfl)
            have HVL : Hid (oLen (Ig.selTo l (Ig.L path) isDir (k + 1)) = (f.dir.size : Int)) := Lib.hid (by rw [HV.out]; rfl)
            generalize decCode (some bv) = dz at hz HVC ⊢
            go_wp2_with (go_quiet (fail))
            go_roundw
            case rel => exact ⟨k + 1, by rw [HVC.out], by rw [HVL.out], rfl, hlt, Lib.hid (Ext.drewN HX2.out _)⟩
            case measure => simp [intOf]; omega
    · obtain rfl : k = n := by omega
      have HV : Hid (R = (oc == 1)) := Lib.hid (by
        rw [HR.out, HOC.out, oCode_one, HO.out, ← HN.out, Ig.selTo_end]
        rfl)
      go_wp2_with fail
      go_ret
      exact ⟨by rw [HV.out]; rfl, HX.out⟩
set_option maxHeartbeats 8000000 in
set_option maxRecDepth 100000 in
/-- quiltref39.Ignored. -/
theorem rIgnored_any (A : Option Addr) (n c : Nat) (l : List Ig.Fi) (p : ByteArray) (d : Bool) (w : World) (h : Fis w All A l) (hn : l.length = n) (hb : n ≤ 1000000) (hf : Ig.Tame l) (hp : p.size ≤ 900000) :
    Calls Tryz.prog 31 #[.slice A n c, .string p, .bool d] w (Ret (.bool (Ig.Ignored l p d)) w) := by
  have HCH := Lib.hid (rcheck39_any A n c l w h hn (by omega) hf.fits)
  have HIP : Hid (∀ W, Calls Tryz.prog 22 #[.string p] W (Same (.bool (Qm.isPath p)) W)) := Lib.hid fun W => rpath_same p W
  have HSE : Hid (∀ (q : ByteArray) (b : Bool) W, Ext w W → q.size ≤ 900000 → Calls Tryz.prog 58 #[.slice A n c, .string q, .bool b] W (Ret (.bool (Ig.selected l (Ig.L q) b)) W)) := Lib.hid fun q b W hW hq => rselected_any A n c l q b W (Sls.ext FiR.steadfast h hW) hn hb hf hq
  obtain ⟨R, hR⟩ : ∃ R, R = Ig.Ignored l p d := ⟨_, rfl⟩
  rw [← hR]
  unfold Ig.Ignored at hR
  generalize Ig.fcheck l = fc at HCH hR
  generalize Qm.isPath p = ip at HIP hR
  have HR := Lib.hid hR
  clear h hn hf hR
  go_enter Tryz.func31, Tryz.ntmps31
  go_wp2_with fail
  refine HCH.out.mono ?_
  rintro e w1 ⟨rfl, hx1⟩
  have HX1 := Lib.hid hx1
  clear hx1 HCH
  cases hz : (fc != 0) with
  | true =>
    have HV : Hid (R = false) := Lib.hid (by rw [HR.out, decide_eq_false (by simpa using hz)]; rfl)
    go_wp2_with fail
    go_ret
    exact ⟨by rw [HV.out]; rfl, HX1.out⟩
  | false =>
    obtain rfl : fc = 0 := by simpa using hz
    go_wp2_with fail
    refine (HIP.out _).mono ?_
    rintro e w2 ⟨rfl, hww⟩
    obtain rfl := hww.symm
    cases ip with
    | false =>
      have HV : Hid (R = false) := Lib.hid (by rw [HR.out]; simp)
      go_wp2_with fail
      go_ret
      exact ⟨by rw [HV.out]; rfl, HX1.out⟩
    | true =>
      have HV0 : Hid (R = Ig.ignored l (Ig.L p) d) := Lib.hid (by rw [HR.out]; simp)
      clear hz HR
      go_wp2_with fail
      go_loopw [7] (fun u wr => ∃ k : Nat, u = .int .i64 k ∧ k ≤ p.size ∧ Hid (∀ j, j < k → (Ig.L p)[j]? = some 47 → Ig.selected l ((Ig.L p).take j) true = false) ∧ Hid (Ext w wr)) (fun u _ => p.size - (intOf u).toNat)
      case atStart => exact ⟨0, rfl, Nat.zero_le _, Lib.hid (fun j hj => absurd hj (Nat.not_lt_zero j)), HX1⟩
      case round =>
        clear HX1
        rename World => wo
        obtain ⟨k, rfl, hk, HB, HX⟩ := hrel
        by_cases hlt : k < p.size
        · have hat := byteAt p hlt
          obtain ⟨x, hxx⟩ : ∃ x, p[k] = x := ⟨_, rfl⟩
          rw [hxx] at hat
          have HAT := Lib.hid hat
          clear hat
          by_cases h47 : x = 47
          · subst h47
            have hsz : (p.extract 0 k).size ≤ 900000 := by rw [ByteArray.size_extract]; omega
            have hle : Ig.L (p.extract 0 k) = (Ig.L p).take k := Pa.L_extract p 0 k
            have HS := Lib.hid (HSE.out (p.extract 0 k) true wo HX.out hsz)
            rw [hle] at HS
            generalize hsv : Ig.selected l ((Ig.L p).take k) true = b at HS
            have HSV := Lib.hid hsv
            clear hsv hsz hle
            go_wp2_with fail
            refine HS.out.mono ?_
            rintro e w3 ⟨rfl, hx1⟩
            have HX2 := Lib.hid (HX.out.trans hx1)
            clear hx1 HX HS
            cases b with
            | true =>
              have HV : Hid (R = true) := Lib.hid (by rw [HV0.out]; exact Ig.ignored_hit HAT.out HSV.out)
              go_wp2_with fail
              go_ret
              exact ⟨by rw [HV.out]; rfl, HX2.out⟩
            | false =>
              have HB2 : Hid (∀ j, j < k + 1 → (Ig.L p)[j]? = some 47 → Ig.selected l ((Ig.L p).take j) true = false) := Lib.hid fun j hj h => by
                rcases Nat.lt_succ_iff_lt_or_eq.1 hj with h1 | rfl
                · exact HB.out j h1 h
                · exact HSV.out
              go_wp2_with fail
              go_roundw
              case rel => exact ⟨k + 1, rfl, hlt, HB2, HX2⟩
              case measure => simp [intOf]; omega
          · have e1 : ((x.toNat : Int) == 47) = false := byte_ne (n := 47) (by omega) h47
            have HB2 : Hid (∀ j, j < k + 1 → (Ig.L p)[j]? = some 47 → Ig.selected l ((Ig.L p).take j) true = false) := Lib.hid fun j hj h => by
              rcases Nat.lt_succ_iff_lt_or_eq.1 hj with h1 | rfl
              · exact HB.out j h1 h
              · rw [HAT.out] at h; exact absurd (Option.some.inj h) h47
            go_wp2_with fail
            go_roundw
            case rel => exact ⟨k + 1, rfl, hlt, HB2, HX⟩
            case measure => simp [intOf]; omega
        · obtain rfl : k = p.size := by omega
          have HS := Lib.hid (HSE.out p d wo HX.out hp)
          have HV : Hid (R = Ig.selected l (Ig.L p) d) := Lib.hid (by rw [HV0.out]; exact Ig.ignored_miss HB.out)
          generalize Ig.selected l (Ig.L p) d = sv at HS HV
          go_wp2_with fail
          refine HS.out.mono ?_
          rintro e w3 ⟨rfl, hx1⟩
          have HX2 := Lib.hid (HX.out.trans hx1)
          clear hx1 HX HS
          go_wp2_with fail
          go_ret
          exact ⟨by rw [HV.out]; rfl, HX2.out⟩
end Go.Proofs.YtnjcifppkijanaaGreatDoor
namespace Go.Proofs.YtnjcifppkijanaaGreatDoor
open Go Go.RowKit Go.Shelf
theorem Ig.great_tame {l : List Ig.Fi} (h : Ig.great l = false) : Ig.Tame l := by
  refine ⟨(Ig.great_false h).2, fun f hf r hr => ?_⟩
  unfold Ig.great at h
  rw [Bool.or_eq_false_iff, List.any_eq_false] at h
  have h1 := h.1 f hf
  simp only [Bool.not_eq_true, Bool.or_eq_false_iff] at h1
  have h2 := h1.2
  unfold Ig.greatRules at h2
  rw [Bool.or_eq_false_iff, List.any_eq_false] at h2
  have h3 := h2.1 r hr
  simp at h3
  omega
set_option maxHeartbeats 8000000 in
set_option maxRecDepth 100000 in
/-- quiltref39.Filter. -/
theorem rfilter_any (A : Option Addr) (n c : Nat) (l : List Ig.Fi) (B : Option Addr) (m b' : Nat) (t : List Pf) (w : World) (hn : l.length = n) (hb : n ≤ 1000000) (hvs : Fis w All A l) (hf : Ig.Tame l) (ht : Trs w B t) (hm : t.length = m) (hbm : m ≤ 1000000) (hmc : m ≤ b') :
    Calls Tryz.prog 30 #[.slice A n c, .slice B m b'] w (GivesF (Ig.filt l t) w) := by
  have HX0 := Lib.hid ((Ext.refl w).alloc (.cells #[] 54))
  have HO0 := Lib.hid (OwnW.lit 4 PlR 54 w w)
  have HCH : Hid (∀ W, Ext w W → Calls Tryz.prog 19 #[.slice A n c] W (Ret (.int .i64 (Ig.fcheck l)) W)) := Lib.hid fun W hW => rcheck39_any A n c l W (Sls.ext FiR.steadfast hvs hW) hn (by omega) hf.fits
  have HCT : Hid (∀ W, Ext w W → Calls Tryz.prog 57 #[.slice B m b'] W (Ret (.int .i64 (Tr.checkTree t)) W)) := Lib.hid fun W hW => rchecktree_any B m b' t W (ht.ext hW) hm (by omega) hmc
  have HIG : Hid (Ig.fcheck l = 0 → ∀ (q : ByteArray) (d : Bool), q.size ≤ 200 → Qm.isPath q = true → ∀ W, Ext w W → Calls Tryz.prog 31 #[.slice A n c, .string q, .bool d] W (Ret (.bool (Ig.ignored l (Ig.L q) d)) W)) := Lib.hid fun h1 q d hq hip W hW => by
    have := rIgnored_any A n c l q d W (Sls.ext FiR.steadfast hvs hW) hn hb hf (by omega)
    unfold Ig.Ignored at this
    rw [decide_eq_true h1, hip, Bool.true_and, Bool.true_and] at this
    exact this
  have HTR := Lib.hid ht
  have HM := Lib.hid hm
  obtain ⟨fc, hfc⟩ : ∃ z, z = Ig.fcheck l := ⟨_, rfl⟩
  obtain ⟨tc, htc⟩ : ∃ z, z = Tr.checkTree t := ⟨_, rfl⟩
  have HFI : Hid (Ig.filt l t = if fc ≠ 0 then ([], fc) else if tc ≠ 0 then ([], tc) else (t.filter (Ig.keep l), 0)) := Lib.hid (by rw [hfc, htc]; rfl)
  have HTC := Lib.hid htc
  obtain ⟨R, hR⟩ : ∃ R, R = Ig.filt l t := ⟨_, rfl⟩
  rw [← hR]
  rw [← hR] at HFI
  rw [← hfc] at HCH HIG
  rw [← htc] at HCT
  clear hn hvs hf hR ht hm hfc htc hmc
  go_enter Tryz.func30, Tryz.ntmps30
  go_wp2_with fail
  refine (HCH.out _ HX0.out).mono ?_
  rintro e w1 ⟨rfl, hx1⟩
  have HX1 := Lib.hid (HX0.out.trans hx1)
  have HO1 := Lib.hid (HO0.out.ext hx1)
  clear hx1 HCH HX0 HO0
  cases hz : (fc != 0) with
  | true =>
    have HV : Hid (R = ([], fc)) := Lib.hid (by rw [HFI.out, if_pos (by simpa using hz)])
    clear HIG HCT HFI
    go_wp2_with fail
    go_ret2
    rw [HV.out]
    exact ⟨_, 0, 0, rfl, rfl, Nat.le_refl _, Trs.nil _ _, (fun a ha => by cases ha; exact Nat.le_refl _), HX1.out⟩
  | false =>
    obtain rfl : fc = 0 := by simpa using hz
    go_wp2_with fail
    refine (HCT.out _ HX1.out).mono ?_
    rintro e w2 ⟨rfl, hx2⟩
    have HX2 := Lib.hid (HX1.out.trans hx2)
    have HO2 := Lib.hid (HO1.out.ext hx2)
    clear hx2 HX1 HO1 HCT
    cases hz2 : (tc != 0) with
    | true =>
      have HV : Hid (R = ([], tc)) := Lib.hid (by rw [HFI.out, if_neg (by simp), if_pos (by simpa using hz2)])
      clear HIG HFI
      go_wp2_with fail
      go_ret2
      rw [HV.out]
      exact ⟨_, 0, 0, rfl, rfl, Nat.le_refl _, Trs.nil _ _, (fun a ha => by cases ha; exact Nat.le_refl _), HX2.out⟩
    | false =>
      obtain rfl : tc = 0 := by simpa using hz2
      have HV : Hid (R = (t.filter (Ig.keep l), 0)) := Lib.hid (by rw [HFI.out, if_neg (by simp), if_neg (by simp)])
      have HGD := Lib.hid (Tr.good_iff.1 HTC.out.symm)
      have HIG := Lib.hid (HIG.out (by simp))
      clear HFI hz hz2
      go_wp2_with fail
      go_loopw [6, 9] (fun o u wr => ∃ k : Nat, u = .int .i64 k ∧ k ≤ m ∧ Hid (OwnW 4 PlR 54 w wr w.heap.size All o ((t.take k).filter (Ig.keep l))) ∧ Hid (Ext w wr)) (fun _ u _ => m - (intOf u).toNat)
      case atStart => exact ⟨0, rfl, Nat.zero_le _, HO2, HX2⟩
      case round =>
        clear HX2 HO2
        rename World => wo
        obtain ⟨k, rfl, hk, HOW, HX⟩ := hrel
        by_cases hlt : k < m
        · have hkl : k < t.length := by rw [HM.out]; exact hlt
          have e0 : t[k]? = some (t[k]'hkl) := List.getElem?_eq_getElem hkl
          have hgd := HGD.out.el _ (List.getElem_mem hkl)
          obtain ⟨b, o, rfl, hbl, c0, c1, c2, c3⟩ := HTR.out.get e0
          have HCE : Hid (∀ W, Ext w W → W.cell? ⟨b, o + k * 4, none⟩ = some (.string (t[k]'hkl).path) ∧ W.cell? ⟨b, o + k * 4 + 1, none⟩ = some (.int .i64 (t[k]'hkl).ty) ∧ W.cell? ⟨b, o + k * 4 + 2, none⟩ = some (.int .i64 (t[k]'hkl).mode) ∧ W.cell? ⟨b, o + k * 4 + 3, none⟩ = some (.string (t[k]'hkl).data)) := Lib.hid fun W hW =>
            ⟨(hW.cell (p := ⟨b, o + k * 4, none⟩) hbl).trans c0, (hW.cell (p := ⟨b, o + k * 4 + 1, none⟩) hbl).trans c1, (hW.cell (p := ⟨b, o + k * 4 + 2, none⟩) hbl).trans c2, (hW.cell (p := ⟨b, o + k * 4 + 3, none⟩) hbl).trans c3⟩
          generalize t[k]'hkl = f at e0 c0 c1 c2 c3 hgd HCE
          have E0 := Lib.hid e0
          clear hkl e0 c0 c1 c2 c3
          have hpa := Tr.element_path hgd
          have hpz := Ig.path_size hpa
          have HFS := Lib.hid (filter_snoc l E0.out)
          obtain ⟨ig, hig⟩ : ∃ z, z = Ig.ignored l (Ig.L f.path) (f.ty == 4) := ⟨_, rfl⟩
          have HKE : Hid (Ig.keep l f = !ig) := Lib.hid (by rw [hig]; rfl)
          have HCA : Hid (∀ W, Ext w W → Calls Tryz.prog 31 #[.slice A n c, .string f.path, .bool (f.ty == 4)] W (Ret (.bool ig) W)) := Lib.hid fun W hW => by rw [hig]; exact HIG.out f.path (f.ty == 4) hpz hpa W hW
          clear hig hpz hgd hpa
          obtain ⟨d4, hd4⟩ : ∃ z, (f.ty == 4) = z := ⟨_, rfl⟩
          rw [hd4] at HCA
          have hkm : (k : Int) < (m : Int) := by omega
          go_wp2_with fail
          refine wp_region_noPanic (wp_region_held_drew (S := fun w' => Ext wo w') (by kernel_rfl) (Ext.refl wo).drew1 (fun hv => ?_))
          generalize wo.drew = v0 at hv ⊢
          refine take_any (i := 0) (v := .slice A n c) rfl rfl (by kernel_rfl) (by kernel_rfl) (by kernel_rfl) (.inl ⟨(by kernel_rfl), fun W' hW' => ?tq⟩) hv ?_
          case tq =>
            go_simp
          try simp only [Act.put, sA, s0, sS]
          refine take_any (i := 1) (v := .slice (some ⟨b, o, none⟩) m b') rfl rfl (by kernel_rfl) (by kernel_rfl) (by kernel_rfl) (.inl ⟨(by kernel_rfl), fun W' hW' => ?tq⟩) hv ?_
          case tq =>
            go_simp
          try simp only [Act.put, sA, s0, sS]
          refine take_any (i := 2) (v := .int .i64 k) rfl rfl (by kernel_rfl) (by kernel_rfl) (by kernel_rfl) (.inl ⟨(by kernel_rfl), fun W' hW' => ?tq⟩) hv ?_
          case tq =>
            go_simp
          try simp only [Act.put, sA, s0, sS]
          refine take_any (i := 3) (v := .pointer (some ⟨b, o + k * 4, none⟩)) rfl rfl (by kernel_rfl) (by kernel_rfl) (by kernel_rfl) (.inl ⟨(by kernel_rfl), fun W' hW' => ?tq⟩) hv ?_
          case tq =>
            go_simp
          try simp only [Act.put, sA, s0, sS]
          refine take_any (i := 4) (v := .pointer (some ⟨b, o + k * 4, none⟩)) rfl rfl (by kernel_rfl) (by kernel_rfl) (by kernel_rfl) (.inl ⟨(by kernel_rfl), fun W' hW' => ?tq⟩) hv ?_
          case tq =>
            go_simp
          try simp only [Act.put, sA, s0, sS]
          refine take_any (i := 5) (v := .string f.path) rfl rfl (by kernel_rfl) (by kernel_rfl) (by kernel_rfl) (.inl ⟨(by kernel_rfl), fun W' hW' => ?tq⟩) hv ?_
          case tq =>
            have hcx := (HCE.out W' (HX.out.trans hW')).1
            go_simp
          try simp only [Act.put, sA, s0, sS]
          refine take_any (i := 6) (v := .slice (some ⟨b, o, none⟩) m b') rfl rfl (by kernel_rfl) (by kernel_rfl) (by kernel_rfl) (.inl ⟨(by kernel_rfl), fun W' hW' => ?tq⟩) hv ?_
          case tq =>
            go_simp
          try simp only [Act.put, sA, s0, sS]
          refine take_any (i := 7) (v := .int .i64 k) rfl rfl (by kernel_rfl) (by kernel_rfl) (by kernel_rfl) (.inl ⟨(by kernel_rfl), fun W' hW' => ?tq⟩) hv ?_
          case tq =>
            go_simp
          try simp only [Act.put, sA, s0, sS]
          refine take_any (i := 8) (v := .pointer (some ⟨b, o + k * 4, none⟩)) rfl rfl (by kernel_rfl) (by kernel_rfl) (by kernel_rfl) (.inl ⟨(by kernel_rfl), fun W' hW' => ?tq⟩) hv ?_
          case tq =>
            go_simp
          try simp only [Act.put, sA, s0, sS]
          refine take_any (i := 9) (v := .pointer (some ⟨b, o + k * 4 + 1, none⟩)) rfl rfl (by kernel_rfl) (by kernel_rfl) (by kernel_rfl) (.inl ⟨(by kernel_rfl), fun W' hW' => ?tq⟩) hv ?_
          case tq =>
            go_simp
          try simp only [Act.put, sA, s0, sS]
          refine take_any (i := 10) (v := .int .i64 f.ty) rfl rfl (by kernel_rfl) (by kernel_rfl) (by kernel_rfl) (.inl ⟨(by kernel_rfl), fun W' hW' => ?tq⟩) hv ?_
          case tq =>
            have hcx := (HCE.out W' (HX.out.trans hW')).2.1
            go_simp
          try simp only [Act.put, sA, s0, sS]
          refine take_any (i := 11) (v := .bool d4) rfl rfl (by kernel_rfl) (by kernel_rfl) (by kernel_rfl) (.inl ⟨(by kernel_rfl), fun W' hW' => ?tq⟩) hv ?_
          case tq =>
            go_simp
          try simp only [Act.put, sA, s0, sS]
          refine wpAnyH_one (i := 12) (by kernel_rfl) rfl (by kernel_rfl) ?_
          go_simp
          refine (HCA.out _ (HX.out.trans hv)).mono ?_
          rintro e x1 ⟨rfl, hx0⟩
          have hv2 := hv.trans hx0
          refine ⟨hv2, ?_⟩
          try simp only [Act.put, sA, s0, sS]
          have hv := hv2
          clear hx0 hv2
          cases ig with
          | true =>
            refine take_any (i := 13) (v := .bool false) rfl rfl (by kernel_rfl) (by kernel_rfl) (by kernel_rfl) (.inl ⟨(by kernel_rfl), fun W' hW' => ?tq⟩) hv ?_
            case tq =>
              go_simp
            try simp only [Act.put, sA, s0, sS]
            refine wpAnyH_done (by kernel_rfl) (NoPanic.normal ?_) _
            have HX3 := Lib.hid (HX.out.trans hv)
            have HO4 : Hid (OwnW 4 PlR 54 w x1 w.heap.size All u6 ((t.take (k + 1)).filter (Ig.keep l))) := Lib.hid (by rw [HFS.out, HKE.out]; simpa using HOW.out.ext hv)
            clear hv
            go_wp2_with fail
            go_roundw
            case rel => exact ⟨k + 1, rfl, hlt, HO4, HX3⟩
            case measure => simp [intOf]; omega
          | false =>
            refine take_any (i := 13) (v := .bool true) rfl rfl (by kernel_rfl) (by kernel_rfl) (by kernel_rfl) (.inl ⟨(by kernel_rfl), fun W' hW' => ?tq⟩) hv ?_
            case tq =>
              go_simp
            try simp only [Act.put, sA, s0, sS]
            refine wpAnyH_done (by kernel_rfl) (NoPanic.normal ?_) _
            have HX3 := Lib.hid (HX.out.trans hv)
            have HOW3 := Lib.hid (HOW.out.ext hv)
            obtain ⟨y0, y1, y2, y3⟩ := HCE.out x1 HX3.out
            clear hv
            obtain ⟨i0, z0, hi0, hz0, hs0, hb0, hzk0⟩ := plInfo
            have HLE := Lib.hid (filter_le l t k)
            have hww := HX3.out.size_le
            have q1 : ((t.take k).filter (Ig.keep l)).length + 1 ≤ maxLen := by have := HLE.out; unfold maxLen; omega
            have q2 : (((t.take k).filter (Ig.keep l)).length + 1) * 48 ≤ 140737488355328 := by have := HLE.out; omega
            have q3 : w.heap.size ≤ (x1.alloc (.cells #[.string f.path, .int .i64 f.ty, .int .i64 f.mode, .string f.data] 54)).heap.size := by simp; omega
            have q4 := (Blk.new' (w := x1) (g := x1.heap.size) (cs := #[.string f.path, .int .i64 f.ty, .int .i64 f.mode, .string f.data]) (t := 54) rfl).range 0 [.string f.path, .int .i64 f.ty, .int .i64 f.mode, .string f.data] (fun j _ => by simp)
            have Q := Lib.hid (⟨q1, q2, q3, q4⟩ : _ ∧ _ ∧ _ ∧ _)
            clear q1 q2 q3 q4 hd4
            go_wp2_with (at_builtin; refine wpList_append_w (k := 4) (R := PlR) PlR.one w _ rfl (.tmp 43) (.tmp 48) 46 54 i0 z0 rfl Tryz.underlying46 hi0 hz0 hs0 hb0 hzk0 (by decide) w.heap.size (F := All) u6 ((t.take k).filter (Ig.keep l)) rfl (HOW3.out.ext ((Ext.refl x1).alloc _)) x1.heap.size 1 [.string f.path, .int .i64 f.ty, .int .i64 f.mode, .string f.data] f rfl Q.out.2.2.2 rfl rfl Q.out.1 Q.out.2.1 Q.out.2.2.1 ?_)
            intro g2 cap w4 how4 hgrow
            have HO4 := Lib.hid how4
            have HX4 : Hid (Ext w w4) := Lib.hid (Below.grown (HX3.out.alloc _) hgrow (HX3.out.alloc _).size_le (fun j e => (HOW3.out.block e).1))
            clear how4 hgrow
            go_wp2_with fail
            go_roundw
            case rel => exact ⟨k + 1, rfl, hlt, Lib.hid (by rw [HFS.out, HKE.out]; exact HO4.out), HX4⟩
            case measure => simp [intOf]; omega
        · obtain rfl : k = m := by omega
          have hv := HOW.out
          rw [← HM.out, List.take_length] at hv
          obtain ⟨A9, c9, rfl, hc9, hown⟩ := hv.slice
          have hhi : Hi w.heap.size A9 := fun a e => by
            obtain ⟨cs, h1, h2, ⟨h3, h5⟩, h4⟩ := hv
            rcases h5 with ⟨e0, _⟩ | ⟨g, cap, cur, e0, hb, _⟩
            · obtain rfl : A9 = none := by injection e0
              cases e
            · obtain rfl : A9 = some ⟨g, 0, none⟩ := by injection e0
              cases e
              exact hb
          obtain ⟨A8, c8, e8, _, hsl⟩ := hv.sls PlR.steadfast HX.out
          obtain ⟨rfl, rfl⟩ : A8 = A9 ∧ c8 = c9 := by injection e8 with e1 _ e2; exact ⟨e1.symm, e2.symm⟩
          have HS8 := Lib.hid (trs_of_sls hsl)
          have HH := Lib.hid hhi
          clear hv hown hhi hsl HOW
          go_wp2_with fail
          go_ret2
          rw [HV.out]
          exact ⟨A8, _, c8, rfl, rfl, hc9, HS8.out, HH.out, HX.out⟩
end Go.Proofs.YtnjcifppkijanaaGreatDoor
namespace Go.Proofs.YtnjcifppkijanaaGreatDoor
open Go Go.RowKit Go.Shelf
set_option maxHeartbeats 8000000 in
set_option maxRecDepth 100000 in
theorem paths_walk (A B : Option Addr) (n c m d : Nat) (l : List Ig.Fi) (path : ByteArray) (t : List Pf) (w : World) (hg : Glob w) (h : Fis w All A l) (hn : l.length = n) (hb : n ≤ 4611686018427387904) (hrl : ∀ f ∈ l, f.rules.length ≤ 4611686018427387904)
    (ht : Trs w B t) (hm : t.length = m) (hbm : m ≤ 1000000000000000) (hmd : m ≤ d) (hz : ∀ f ∈ t, f.path.size ≤ 140737488355328 ∧ f.data.size ≤ 140737488355328) :
    Calls Tryz.prog 8 #[.slice A n c, .string path, .slice B m d] w (Ret (.bool true) w) := by
  have HG := Lib.hid hg
  have HL := Lib.hid h
  have HN := Lib.hid hn
  have HT := Lib.hid ht
  have HM := Lib.hid hm
  have HMD := Lib.hid hmd
  have HGR := Lib.hid (great39_any A n c l w h hn hb hrl)
  have HGT : Hid (∀ W, Ext w W → Calls Tryz.prog 28 #[.slice B m d] W (Ret (.bool (Tr.great t)) W)) := Lib.hid fun W hW => greattree_any B m d t W (ht.ext hW) hm hbm hz
  obtain ⟨gr, hgr⟩ : ∃ gr, gr = Ig.great l := ⟨_, rfl⟩
  obtain ⟨gt, hgt⟩ : ∃ gt, gt = Tr.great t := ⟨_, rfl⟩
  rw [← hgr] at HGR
  rw [← hgt] at HGT
  have HE := Lib.hid hgr
  have HET := Lib.hid hgt
  have HAW : Hid (∀ W, Ext w W → Calls Tryz.prog 11 #[] W (Ret (.bool true) W)) := Lib.hid fun W hW => awake39_any W (HG.out.ext hW)
  have hx := Ext.refl w
  clear h hn hg hgr hrl ht hm hz hgt hmd
  go_enter Tryz.func8, Tryz.ntmps8
  go_wp2_with fail
  refine HGR.out.mono ?_
  rintro e w1 ⟨rfl, hx0⟩
  have HX := Lib.hid (hx.trans hx0)
  clear hx hx0 HGR
  cases gr with
  | true =>
    go_wp2_with fail
    refine (HAW.out _ HX.out).mono ?_
    rintro e w2 ⟨rfl, hx0⟩
    have HX2 := Lib.hid (HX.out.trans hx0)
    clear hx0
    go_wp2_with fail
    go_ret
    exact ⟨rfl, HX2.out⟩
  | false =>
    by_cases hp : 100 < path.size
    · have hp2 : (100 : Int) < (path.size : Int) := by omega
      go_wp2_with fail
      refine (HAW.out _ HX.out).mono ?_
      rintro e w2 ⟨rfl, hx0⟩
      have HX2 := Lib.hid (HX.out.trans hx0)
      clear hx0
      go_wp2_with fail
      go_ret
      exact ⟨rfl, HX2.out⟩
    · have hp2 : ¬ ((100 : Int) < (path.size : Int)) := by omega
      go_wp2_with fail
      refine (HGT.out _ HX.out).mono ?_
      rintro e w2 ⟨rfl, hx0⟩
      have HX2 := Lib.hid (HX.out.trans hx0)
      clear hx0 HX HGT
      cases gt with
      | true =>
        go_wp2_with fail
        refine (HAW.out _ HX2.out).mono ?_
        rintro e w3 ⟨rfl, hx0⟩
        have HX3 := Lib.hid (HX2.out.trans hx0)
        clear hx0
        go_wp2_with fail
        go_ret
        exact ⟨rfl, HX3.out⟩
      | false =>
        have hn1 : n ≤ 5 := by rw [← HN.out]; exact (Ig.great_false HE.out.symm).1
        have HTA := Lib.hid (Ig.great_tame HE.out.symm)
        have hm1 : m ≤ 12 := by
          have := HET.out.symm
          unfold Tr.great at this
          rw [Bool.or_eq_false_iff] at this
          have h1 := this.1
          simp at h1
          rw [← HM.out]
          exact h1
        have HFI := Lib.hid (filter_any A n c l B m d t w2 HN.out (by omega) (Sls.ext FiR.steadfast HL.out HX2.out) HTA.out.fits (HT.out.ext HX2.out) HM.out (by omega) (HG.out.ext HX2.out))
        have HFJ : Hid (∀ W, Ext w W → Calls Tryz.prog 30 #[.slice A n c, .slice B m d] W (GivesF (Ig.filt l t) W)) := Lib.hid fun W hW => rfilter_any A n c l B m d t W HN.out (by omega) (Sls.ext FiR.steadfast HL.out hW) HTA.out (HT.out.ext hW) HM.out (by omega) HMD.out
        have hfl : (Ig.filt l t).1.length ≤ m := by
          unfold Ig.filt
          split
          · exact Nat.zero_le _
          · split
            · exact Nat.zero_le _
            · exact Nat.le_trans (List.length_filter_le _ _) (Nat.le_of_eq HM.out)
        obtain ⟨fr, hfr⟩ : ∃ z, z = Ig.filt l t := ⟨_, rfl⟩
        rw [← hfr] at HFI HFJ hfl
        clear hfr
        obtain ⟨xs, er⟩ := fr
        dsimp only at hfl
        go_wp2_with fail
        refine HFI.out.mono ?_
        rintro e w3 ⟨A3, n3, c3, rfl, hn3, hnc3, ht3, -, hx3⟩
        have HX3 := Lib.hid (HX2.out.trans hx3)
        have HT3 := Lib.hid ht3
        have HN3 := Lib.hid hn3
        clear hx3 HFI HX2 ht3 hn3
        go_wp2_with fail
        refine (HFJ.out _ HX3.out).mono ?_
        rintro e w4 ⟨A4, n4, c4, rfl, hn4, hnc4, ht4, -, hx4⟩
        have HX4 := Lib.hid (HX3.out.trans hx4)
        have HT3b := Lib.hid (HT3.out.ext hx4)
        have HT4 := Lib.hid ht4
        have HN4 := Lib.hid hn4
        clear hx4 HFJ HX3 ht4 hn4
        have HI1 : Hid (∀ (b : Bool) W, Ext w W → Calls Tryz.prog 23 #[.slice A n c, .string path, .bool b] W (Ret (.bool (Ig.Ignored l path b)) W)) := Lib.hid fun b W hW => Ignored_any A n c l path b W HN.out (by omega) (Sls.ext FiR.steadfast HL.out hW) HTA.out.fits (by omega) (HG.out.ext hW)
        have HI2 : Hid (∀ (b : Bool) W, Ext w W → Calls Tryz.prog 31 #[.slice A n c, .string path, .bool b] W (Ret (.bool (Ig.Ignored l path b)) W)) := Lib.hid fun b W hW => rIgnored_any A n c l path b W (Sls.ext FiR.steadfast HL.out hW) HN.out (by omega) HTA.out (by omega)
        have HSA : Hid (∀ W, Ext w4 W → Calls Tryz.prog 32 #[.slice A3 n3 c3, .slice A4 n4 c4] W (Ret (.bool true) W)) := Lib.hid fun W hW => by
          have := sametree_any A3 A4 n3 n4 c3 c4 xs xs W (HT3b.out.ext hW) (HT4.out.ext hW) HN3.out HN4.out (by have := HN3.out; (try dsimp only at this); omega) (by have := HN4.out; (try dsimp only at this); omega)
          rwa [decide_eq_true rfl] at this
        obtain ⟨i1, hi1⟩ : ∃ z, Ig.Ignored l path false = z := ⟨_, rfl⟩
        obtain ⟨i2, hi2⟩ : ∃ z, Ig.Ignored l path true = z := ⟨_, rfl⟩
        have HA1 := Lib.hid (HI1.out false)
        have HA2 := Lib.hid (HI2.out false)
        have HB1 := Lib.hid (HI1.out true)
        have HB2 := Lib.hid (HI2.out true)
        rw [hi1] at HA1 HA2
        rw [hi2] at HB1 HB2
        have he1 : (i1 == i1) = true := by simp
        have he2 : (i2 == i2) = true := by simp
        have he3 : (er == er) = true := by simp
        clear hi1 hi2 HI1 HI2
        go_wp2_with fail
        refine (HA1.out _ HX4.out).mono ?_
        rintro e w5 ⟨rfl, hx5⟩
        have HX5 := Lib.hid (HX4.out.trans hx5)
        go_wp2_with fail
        refine (HA2.out _ HX5.out).mono ?_
        rintro e w6 ⟨rfl, hx6⟩
        have HX6 := Lib.hid (HX5.out.trans hx6)
        go_wp2_with fail
        refine (HB1.out _ HX6.out).mono ?_
        rintro e w7 ⟨rfl, hx7⟩
        have HX7 := Lib.hid (HX6.out.trans hx7)
        go_wp2_with fail
        refine (HB2.out _ HX7.out).mono ?_
        rintro e w8 ⟨rfl, hx8⟩
        have HX8 := Lib.hid (HX7.out.trans hx8)
        have HX48 := Lib.hid (((hx5.trans hx6).trans hx7).trans hx8)
        clear hx5 hx6 hx7 hx8
        go_wp2_with fail
        refine (HSA.out _ HX48.out).mono ?_
        rintro e w9 ⟨rfl, hx9⟩
        have HX9 := Lib.hid (HX8.out.trans hx9)
        clear hx9
        go_wp2_with fail
        refine (HAW.out _ HX9.out).mono ?_
        rintro e w10 ⟨rfl, hx10⟩
        have HX10 := Lib.hid (HX9.out.trans hx10)
        clear hx10
        go_wp2_with fail
        go_ret
        exact ⟨rfl, HX10.out⟩
end Go.Proofs.YtnjcifppkijanaaGreatDoor
