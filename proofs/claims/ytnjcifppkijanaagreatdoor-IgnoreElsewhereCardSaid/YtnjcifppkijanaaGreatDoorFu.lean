/- Walks: IgnoreElsewhere: what a path is within; files struck from a list. -/
import Derived.Test.YtnjcifppkijanaaGreatDoorPG
import Derived.Test.YtnjcifppkijanaaGreatDoorPH
import Derived.Test.YtnjcifppkijanaaGreatDoorYj
import Derived.Test.YtnjcifppkijanaaGreatDoorSe
set_option linter.unusedSimpArgs false
set_option linter.unusedVariables false
namespace Go.Proofs.YtnjcifppkijanaaGreatDoor
open Go Go.RowKit Go.Shelf
namespace Ig
theorem within_eq (p : ByteArray) (f : Fi) : (f.dir.toList == ([] : List UInt8) || Qm.below p f.dir) = within (L p) f := by
  unfold within rest Qm.below Lib.hasPrefix
  by_cases h : L f.dir = []
  · have h2 : f.dir.toList = [] := by rw [ByteArray.toList_eq]; exact h
    rw [if_pos h, h2]
    rfl
  · have h2 : (f.dir.toList == ([] : List UInt8)) = false := by rw [ByteArray.toList_eq]; simpa using h
    rw [if_neg h, h2, Bool.false_or]
    cases hp : ((L f.dir) ++ [47]).isPrefixOf (L p)
    · rw [if_neg (by simp)]; rfl
    · rw [if_pos rfl]; rfl
end Ig
/-- quiltref39.Within. -/
theorem rwithin39_same (p d : ByteArray) (w : World) (hp : p.size ≤ 4611686018427387904) : Calls Tryz.prog 27 #[.string p, .string d] w (Same (.bool (d.toList == ([] : List UInt8) || Qm.below p d)) w) := by
  have HB : Hid (∀ W, Calls Tryz.prog 56 #[.string p, .string d] W (Same (.bool (Qm.below p d)) W)) := Lib.hid fun W => rbelow_same p d W hp
  generalize Qm.below p d = bb at HB ⊢
  cases hq : (d.toList == ([] : List UInt8)) with
  | true =>
    go_enter Tryz.func27, Tryz.ntmps27
    go_wp2_with fail
    go_ret
    exact ⟨rfl, rfl⟩
  | false =>
    go_enter Tryz.func27, Tryz.ntmps27
    go_wp2_with fail
    refine (HB.out _).mono ?_
    rintro e w1 ⟨rfl, rfl⟩
    go_wp2_with fail
    go_ret
    exact ⟨rfl, rfl⟩
set_option maxHeartbeats 2000000 in
set_option maxRecDepth 100000 in
/-- The closure of IgnoreElsewhere. -/
theorem els1_any (p : ByteArray) (hp : p.size ≤ 1000000) (gp : Nat) (W : World) (c : List Value) (x : Ig.Fi) (hx : FiR W All c x) (hb : Blk W gp 9 #[.string p]) :
    Calls Tryz.prog 26 #[.agg c.toArray, .pointer (some ⟨gp, 0, none⟩)] W (Ret (.bool (!Ig.within (Ig.L p) x)) W) := by
  obtain ⟨A, n, m, rfl, _⟩ := hx
  rw [← Ig.within_eq]
  have HWI : Hid (∀ W, Calls Tryz.prog 27 #[.string p, .string x.dir] W (Same (.bool (x.dir.toList == ([] : List UInt8) || Qm.below p x.dir)) W)) := Lib.hid fun W => rwithin39_same p x.dir W (by omega)
  generalize (x.dir.toList == ([] : List UInt8) || Qm.below p x.dir) = bb at HWI ⊢
  obtain ⟨hc, hf, hl⟩ := (hb.ext ((Ext.refl W).alloc (.cells #[.string x.dir, .slice A n m] 32))).all
  have hx := Ext.refl W
  clear hb
  go_enter Tryz.func26, Tryz.ntmps26
  go_wp2_with fail
  refine (HWI.out _).mono ?_
  rintro e w1 ⟨rfl, rfl⟩
  go_wp2_with fail
  go_ret
  exact ⟨rfl, hx.alloc _⟩
theorem first_spec {β : Type} (q : β → Bool) (d : β) : ∀ (zs : List β) (i : Nat), (Lib.idxByFrom (fun _ y => q y) d zs i = -1 ∧ ∀ x ∈ zs, q x = false) ∨ ∃ k, Lib.idxByFrom (fun _ y => q y) d zs i = ((i + k : Nat) : Int) ∧ k < zs.length ∧ (∃ x, zs[k]? = some x ∧ q x = true) ∧ ∀ x ∈ zs.take k, q x = false
  | [], _ => .inl ⟨rfl, fun x hx => by cases hx⟩
  | y :: r, i => by
    cases h : q y with
    | true => exact .inr ⟨0, by simp [Lib.idxByFrom, h], by simp, ⟨y, rfl, h⟩, fun x hx => by simp at hx⟩
    | false =>
      have e0 : Lib.idxByFrom (fun _ y => q y) d (y :: r) i = Lib.idxByFrom (fun _ y => q y) d r (i + 1) := by simp [Lib.idxByFrom, h]
      rcases first_spec q d r (i + 1) with ⟨e, ha⟩ | ⟨k, e, hk, ⟨x, hx, ht⟩, ha⟩
      · refine .inl ⟨by rw [e0, e], fun x hx => ?_⟩
        rcases List.mem_cons.1 hx with rfl | hx
        · exact h
        · exact ha x hx
      · refine .inr ⟨k + 1, by rw [e0, e]; congr 1; omega, by simpa using hk, ⟨x, by simpa using hx, ht⟩, fun z hz => ?_⟩
        rw [List.take_succ_cons] at hz
        rcases List.mem_cons.1 hz with rfl | hz
        · exact h
        · exact ha z hz
/-- Where a predicate holds first. -/
def FirstAt {α : Type} (p : α → Bool) (l : List α) (i : Int) : Prop := (i = -1 ∧ ∀ x ∈ l, p x = false) ∨ ∃ k : Nat, i = k ∧ k < l.length ∧ (∃ x, l[k]? = some x ∧ p x = true) ∧ ∀ x ∈ l.take k, p x = false
theorem first_sls {P : Program} {ρ : Ren} (L : SlLaysH0.n6 P ρ) {α : Type} (k : Nat) (R : Reads α) (aE : ∀ w, (isAgg (ρ.t 23)).run P w = .ok true w) (zE : ∀ w, (Go.sizeOf (ρ.t 23)).run P w = .ok k w) (p : α → Bool) (g : Nat) (lb : Array Value) (eg : ∀ args w, (callFunc g args).run P w = .ok (.enter g args) w)
    (b o n c : Nat) (l : List α) (w0 w : World) (h : Sls k R w All (some ⟨b, o, none⟩) l) (hn : l.length = n) (h0 : 0 < n) (hb : n ≤ 1000000000) (hw : Ext w0 w)
    (hp : ∀ (W : World) (c : List Value) (x : α), Ext w0 W → R W All c x → c.length = k → Calls P g (#[.agg c.toArray] ++ lb) W (Ret (.bool (p x)) W)) (hR : Steadfast R) :
    Calls P (ρ.f 6) #[.slice (some ⟨b, o, none⟩) n c, .func (.func g) #[] lb] w fun e w' => ∃ i : Int, e = .returned (.int .i64 i) ∧ FirstAt p l i ∧ Ext w w' := by
  obtain ⟨cs, h1, h2, h3, h4⟩ := h
  obtain ⟨b', o', e, hlt, _, hr⟩ := h3 (by omega)
  obtain ⟨rfl, rfl⟩ : b = b' ∧ o = o' := by simpa using e
  have hall : ∀ x ∈ cs.zip l, R w All x.1 x.2 ∧ x.1.length = k := by
    intro x hx
    obtain ⟨i, hi⟩ := List.getElem?_of_mem hx
    obtain ⟨g1, g2⟩ : cs[i]? = some x.1 ∧ l[i]? = some x.2 := by
      rw [List.getElem?_zip_eq_some] at hi
      exact hi
    exact ⟨h4 i _ _ g1 g2, h2 _ (List.mem_of_getElem? g1)⟩
  obtain ⟨zs, hzs⟩ : ∃ zs : List { x : List Value × α // R w All x.1 x.2 ∧ x.1.length = k }, zs = (cs.zip l).pmap (fun x hx => ⟨x, hx⟩) hall := ⟨_, rfl⟩
  have hval : zs.map (fun x => x.1) = cs.zip l := by
    rw [hzs, List.map_pmap]
    simp
  have hlen : zs.length = n := by rw [hzs, List.length_pmap, List.length_zip]; omega
  have hmap : zs.map (fun x => x.1.2) = l := by
    have : zs.map (fun x => x.1.2) = (zs.map (fun x => x.1)).map Prod.snd := by rw [List.map_map]; rfl
    rw [this, hval, List.map_snd_zip (by omega)]
  have hcs : ∀ (j : Nat) z, zs[j]? = some z → cs[j]? = some z.1.1 := by
    intro j z hz
    have h5 : (zs.map (fun x => x.1))[j]? = some z.1 := by rw [List.getElem?_map, hz]; rfl
    rw [hval, List.getElem?_zip_eq_some] at h5
    exact h5.1
  clear hzs
  have : Inhabited { x : List Value × α // R w All x.1 x.2 ∧ x.1.length = k } := ⟨zs[0]'(by omega)⟩
  refine (AnyQ.slices_IndexFunc L k aE zE (fun x : { x : List Value × α // R w All x.1 x.2 ∧ x.1.length = k } => x.1.1) (fun x => x.2.2) (fun x => p x.1.2) g lb eg b o n c zs w
    (fun W x hW => (hp W x.1.1 x.1.2 (hw.trans hW) (hR.ext x.2.1 hW) x.2.2).mono fun e w' hh => ⟨hh.1, Ext.trans (a := w) hW hh.2⟩) (by omega) (by omega) hlt (fun j hj i v hv => ?_)).mono ?_
  · have hz : zs[j]? = some zs[j]! := by rw [List.getElem!_eq_getElem?_getD, List.getElem?_eq_getElem hj]; rfl
    have hc := hcs j _ hz
    have hi : i < k := by
      have := (List.getElem?_eq_some_iff.1 hv).1
      rwa [h2 _ (List.mem_of_getElem? hc)] at this
    have := hr (j * k + i) v (by rw [flatten_at h2 hc hi]; exact hv)
    rwa [← Nat.add_assoc] at this
  · rintro e w' ⟨rfl, hx⟩
    refine ⟨_, rfl, ?_, hx⟩
    rw [← hmap, List.take_of_length_le (by omega)]
    rcases first_spec (fun y : { x : List Value × α // R w All x.1 x.2 ∧ x.1.length = k } => p y.1.2) default zs 0 with ⟨e, ha⟩ | ⟨j, e, hj, ⟨x, hx, ht⟩, ha⟩
    · refine .inl ⟨e, fun x hx => ?_⟩
      obtain ⟨z, hz, rfl⟩ := List.mem_map.1 hx
      exact ha z hz
    · refine .inr ⟨j, by rw [Nat.zero_add] at e; exact e, by simpa using hj, ⟨x.1.2, by rw [List.getElem?_map, hx]; rfl, ht⟩, fun z hz => ?_⟩
      rw [← List.map_take] at hz
      obtain ⟨y, hy, rfl⟩ := List.mem_map.1 hz
      exact ha y hy
theorem indexF_zero (A : Option Addr) (c : Nat) (f : Value) (w : World) : Calls Tryz.prog 55 #[.slice A 0 c, f] w (Ret (.int .i64 (-1)) w) := by
  go_enter Tryz.func55, Tryz.ntmps55
  have hx := Ext.refl w
  go_wp2_with fail
  refine wp_loop_rounds 1 ?_
  rw [rounds_succ]
  go_wp2_with fail
  (go_ret; refine Ret.mk ?_ ?_; (focus (rfl; done)); (focus (exact EX; done)))
theorem sizeIF (w : World) : (Go.sizeOf 32).run Tryz.prog w = .ok 2 w := by kernel_rfl
theorem aggIF (w : World) : (isAgg 32).run Tryz.prog w = .ok true w := by kernel_rfl
theorem firstF_any (p : Ig.Fi → Bool) (g : Nat) (lb : Array Value) (eg : ∀ args w, (callFunc g args).run Tryz.prog w = .ok (.enter g args) w) (A : Option Addr) (n c : Nat) (l : List Ig.Fi) (w0 w : World) (h : Fis w All A l) (hn : l.length = n) (hb : n ≤ 1000000000) (hw : Ext w0 w)
    (hp : ∀ (W : World) (c : List Value) (x : Ig.Fi), Ext w0 W → FiR W All c x → Calls Tryz.prog g (#[.agg c.toArray] ++ lb) W (Ret (.bool (p x)) W)) :
    Calls Tryz.prog 55 #[.slice A n c, .func (.func g) #[] lb] w fun e w' => ∃ i : Int, e = .returned (.int .i64 i) ∧ FirstAt p l i ∧ Ext w w' := by
  rcases Nat.eq_zero_or_pos n with h0 | h0
  · subst h0
    obtain rfl := List.length_eq_zero_iff.1 hn
    refine (indexF_zero A c _ w).mono ?_
    rintro e w' ⟨rfl, hx⟩
    exact ⟨_, rfl, .inl ⟨rfl, fun x hx => by cases hx⟩, hx⟩
  · have h' := h
    obtain ⟨cs, h1, h2, h3, h4⟩ := h'
    obtain ⟨b, o, rfl, _⟩ := h3 (by omega)
    exact first_sls Tryz.laysIndexF 2 FiR aggIF sizeIF p g lb eg b o n c l w0 w h hn h0 hb hw (fun W c x h1 h2 _ => hp W c x h1 h2) FiR.steadfast
/-- The end of a row is wiped. -/
theorem run_clear_w {P : Program} {w : World} (t e : TypeId) (ht : P.underlying t = some (.slice e)) (z : Value)
    (hv : ∀ w, (zeroValue e).run P w = .ok z w) (k : Nat) (hk : z.cells.size = k) (hk0 : 0 < k) (h1 : ∀ u ∈ z.cells.toList, u.oneCell' = true) (b off n c : Nat) (hn : 0 < n) {t' : TypeId} {cur : Array Value} (hB : Blk w b t' cur) (hsz : off + n * k ≤ cur.size) :
    ∃ vs : List Value, vs.length = n * k ∧ ∀ ty, (Builtin.clear_ #[t] ty #[.slice (some ⟨b, off, none⟩) n c]).run P w = .ok (.tuple #[]) (w.setCells b off vs) := by
  have hlen : (Builtin.zeroCells z.cells n).toList.length = n * k := by simp [Builtin.zeroCells, hk]
  have hone : ∀ u ∈ (Builtin.zeroCells z.cells n).toList, u.oneCell' = true := by
    intro u hu
    simp only [Builtin.zeroCells, Array.toList_map, List.mem_map] at hu
    obtain ⟨i, _, rfl⟩ := hu
    have hi : i % z.cells.size < z.cells.size := Nat.mod_lt _ (by omega)
    rw [getElem!_pos z.cells _ hi]
    exact h1 _ (by simp)
  have hst := run_storeCells_cells (P := P) b off (Builtin.zeroCells z.cells n).toList 0 w (fun j hj => by rw [hlen] at hj; simp only [Nat.add_zero, hB.cell]; rw [Array.getElem?_eq_getElem (by omega)]; rfl) (fun j hj => by simp only [hB.frozen]) hone
  simp only [Nat.add_zero] at hst
  obtain ⟨m, rfl⟩ : ∃ m, n = m + 1 := ⟨n - 1, by omega⟩
  refine ⟨_, hlen, fun ty => ?_⟩
  simp [Builtin.clear_, run_underlying ht, hv, hst]
section
variable {α : Type} {k : Nat} {R : Reads α} {t : TypeId} {w0 w : World} {base g n cap : Nat} {F : Nat → Prop} {l : List α}
/-- What lies ahead of a place that is written on is as it was. -/
theorem OwnW.cut (hR : Steadfast R) (h : OwnW k R t w0 w base F (.slice (some ⟨g, 0, none⟩) n cap) l) (hx : Ext w0 w) (hb : w0.heap.size ≤ base) {i : Nat} (hi : i ≤ l.length) (vs : List Value) :
    Ext w0 (w.setCells g (i * k) vs) ∧ Sls k R (w.setCells g (i * k) vs) All (some ⟨g, 0, none⟩) (l.take i) := by
  obtain ⟨cs, h1, h2, ⟨h3, ⟨e, _⟩ | ⟨g', cap', cur, e, hbg, hg, hn, hcm, hs, ht⟩⟩, h4⟩ := h
  · cases e
  · simp only [Value.slice.injEq, Option.some.injEq, Addr.mk.injEq, and_true, true_and] at e
    obtain ⟨rfl, rfl, rfl⟩ := e
    have hxn : Ext w0 (w.setCells g (i * k) vs) := Ext.putMany (by omega) vs _ _ hx
    refine ⟨hxn, cs.take i, by rw [List.length_take, List.length_take]; omega, fun c hc => h2 c (List.mem_of_mem_take hc), fun h0 => ⟨g, 0, rfl, ?_, trivial, fun j u hu => ?_⟩, fun j c x hc hl => hR.mono (hR.ext (h4 j c x ?_ ?_) hxn) (fun _ _ => trivial)⟩
    · have hlt := (Array.getElem?_eq_some_iff.1 hg).1
      have : (w.setCells g (i * k) vs).heap.size = w.heap.size := by
        have : ∀ (vs : List Value) (o : Nat) (w : World), (w.setCells g o vs).heap.size = w.heap.size := by
          intro vs
          induction vs with
          | nil => intro o w; rfl
          | cons v vs ih => intro o w; show ((w.setCell ⟨g, o, none⟩ v).setCells g (o + 1) vs).heap.size = _; rw [ih]; simp [World.setCell]
        exact this _ _ _
      omega
    · have hpre : (cs.take i).flatten.length = i * k := by
        rw [flatten_len (fun c hc => h2 c (List.mem_of_mem_take hc)), List.length_take]
        congr 1
        omega
      have hj : j < i * k := by rw [← hpre]; exact (List.getElem?_eq_some_iff.1 hu).1
      have hfar : ∀ (vs : List Value) (o : Nat) (w : World), j < o → (w.setCells g o vs).cell? ⟨g, j, none⟩ = w.cell? ⟨g, j, none⟩ := by
        intro vs
        induction vs with
        | nil => intro o w _; rfl
        | cons v vs ih =>
          intro o w ho
          show ((w.setCell ⟨g, o, none⟩ v).setCells g (o + 1) vs).cell? ⟨g, j, none⟩ = _
          rw [ih _ _ (by omega)]
          exact World.cell?_setCell_other _ _ _ _ (by intro e; simp only [Addr.mk.injEq] at e; omega)
      have hB : Blk w g t cur := Blk.mk hg
      rw [Nat.zero_add, hfar _ _ _ hj, hB.cell]
      have hjl : j < l.length * k := Nat.lt_of_lt_of_le hj (Nat.mul_le_mul_right k hi)
      have e1 : cs.flatten[j]? = some u := by
        have : cs.flatten = (cs.take i).flatten ++ (cs.drop i).flatten := by rw [← List.flatten_append, List.take_append_drop]
        rw [this, List.getElem?_append_left (by omega)]
        exact hu
      rw [← e1, ← ht, List.getElem?_take_of_lt hjl, Array.getElem?_toList]
    · rw [List.getElem?_take] at hc
      split at hc
      · exact hc
      · cases hc
    · rw [List.getElem?_take] at hl
      split at hl
      · exact hl
      · cases hl
end
end Go.Proofs.YtnjcifppkijanaaGreatDoor
