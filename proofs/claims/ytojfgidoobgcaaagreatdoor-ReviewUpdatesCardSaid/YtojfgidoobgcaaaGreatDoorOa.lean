/- Walks: IndexFunc, ContainsFunc of structs, over a closure that reads them. -/
import Derived.Test.YtojfgidoobgcaaaGreatDoorNz
import Derived.Test.YtojfgidoobgcaaaGreatDoorSc
set_option linter.unusedSimpArgs false
set_option linter.unusedVariables false
namespace Go.Proofs.YtojfgidoobgcaaaGreatDoor
open Go Go.RowKit Go.Shelf

theorem index_sls {P : Program} {ρ : Ren} (L : SlLaysH0.n6 P ρ) {α : Type} (k : Nat) (R : Reads α) (aE : ∀ w, (isAgg (ρ.t 23)).run P w = .ok true w) (zE : ∀ w, (Go.sizeOf (ρ.t 23)).run P w = .ok k w) (Q : α → Prop) (p : α → Bool) (g : Nat) (lb : Array Value) (eg : ∀ args w, (callFunc g args).run P w = .ok (.enter g args) w)
    (b o n c : Nat) (l : List α) (w : World) (h : Sls k R w All (some ⟨b, o, none⟩) l) (hn : l.length = n) (h0 : 0 < n) (hb : n ≤ 1000000000) (hQ : ∀ x ∈ l, Q x)
    (hp : ∀ (W : World) (c : List Value) (x : α), Ext w W → R w All c x → c.length = k → Q x → Calls P g (#[.agg c.toArray] ++ lb) W (Ret (.bool (p x)) W)) :
    Calls P (ρ.f 6) #[.slice (some ⟨b, o, none⟩) n c, .func (.func g) #[] lb] w fun e w' => ∃ i : Int, e = .returned (.int .i64 i) ∧ decide (0 ≤ i) = l.any p ∧ Ext w w' := by
  obtain ⟨cs, h1, h2, h3, h4⟩ := h
  obtain ⟨b', o', e, hlt, _, hr⟩ := h3 (by omega)
  obtain ⟨rfl, rfl⟩ : b = b' ∧ o = o' := by simpa using e
  have hall : ∀ x ∈ cs.zip l, R w All x.1 x.2 ∧ x.1.length = k ∧ Q x.2 := by
    intro x hx
    obtain ⟨i, hi⟩ := List.getElem?_of_mem hx
    obtain ⟨g1, g2⟩ : cs[i]? = some x.1 ∧ l[i]? = some x.2 := by
      rw [List.getElem?_zip_eq_some] at hi
      exact hi
    exact ⟨h4 i _ _ g1 g2, h2 _ (List.mem_of_getElem? g1), hQ _ (List.mem_of_getElem? g2)⟩
  obtain ⟨zs, hzs⟩ : ∃ zs : List { x : List Value × α // R w All x.1 x.2 ∧ x.1.length = k ∧ Q x.2 }, zs = (cs.zip l).pmap (fun x hx => ⟨x, hx⟩) hall := ⟨_, rfl⟩
  have hval : zs.map (fun x => x.1) = cs.zip l := by
    rw [hzs, List.map_pmap]
    simp
  have hlen : zs.length = n := by rw [hzs, List.length_pmap, List.length_zip]; omega
  have hmap : zs.map (fun x => x.1.2) = l := by
    have : zs.map (fun x => x.1.2) = (zs.map (fun x => x.1)).map Prod.snd := by rw [List.map_map]; rfl
    rw [this, hval, List.map_snd_zip (by omega)]
  have hcs : ∀ (j : Nat) z, zs[j]? = some z → cs[j]? = some z.1.1 := by
    intro j z hz
    have h5 : (zs.map (fun x => x.1))[j]? = some z.1 := by rw [List.getElem?_map, hz]; rfl
    rw [hval, List.getElem?_zip_eq_some] at h5
    exact h5.1
  clear hzs
  have : Inhabited { x : List Value × α // R w All x.1 x.2 ∧ x.1.length = k ∧ Q x.2 } := ⟨zs[0]'(by omega)⟩
  have hany : zs.any (fun x => p x.1.2) = l.any p := by
    rw [← hmap, List.any_map]
    rfl
  refine (AnyQ.slices_IndexFunc L k aE zE (fun x : { x : List Value × α // R w All x.1 x.2 ∧ x.1.length = k ∧ Q x.2 } => x.1.1) (fun x => x.2.2.1) (fun x => p x.1.2) g lb eg b o n c zs w
    (fun W x hW => (hp W x.1.1 x.1.2 hW x.2.1 x.2.2.1 x.2.2.2).mono fun e w' hh => ⟨hh.1, Ext.trans (a := w) hW hh.2⟩) (by omega) (by omega) hlt (fun j hj i v hv => ?_)).mono ?_
  · have hz : zs[j]? = some zs[j]! := by rw [List.getElem!_eq_getElem?_getD, List.getElem?_eq_getElem hj]; rfl
    have hc := hcs j _ hz
    have hi : i < k := by
      have := (List.getElem?_eq_some_iff.1 hv).1
      rwa [h2 _ (List.mem_of_getElem? hc)] at this
    have := hr (j * k + i) v (by rw [flatten_at h2 hc hi]; exact hv)
    rwa [← Nat.add_assoc] at this
  · rintro e w' ⟨rfl, hx⟩
    refine ⟨_, rfl, ?_, hx⟩
    rw [← hany]
    have := Lib.idxBy_nonneg_iff (fun _ (y : { x : List Value × α // R w All x.1 x.2 ∧ x.1.length = k ∧ Q x.2 }) => p y.1.2) (zs.take n) default
    have ht : zs.take n = zs := List.take_of_length_le (by omega)
    rw [ht] at this ⊢
    exact this

theorem indexR_zero (A : Option Addr) (c : Nat) (f : Value) (w : World) : Calls Tryz.prog 88 #[.slice A 0 c, f] w (Ret (.int .i64 (-1)) w) := by
  go_enter Tryz.func88, Tryz.ntmps88
  have hx := Ext.refl w
  go_wp2_with fail
  refine wp_loop_rounds 1 ?_
  rw [rounds_succ]
  go_wp2_with fail
  (go_ret; refine Ret.mk ?_ ?_; (focus (rfl; done)); (focus (exact EX; done)))
theorem sizeR (w : World) : (Go.sizeOf 28).run Tryz.prog w = .ok 6 w := by kernel_rfl
theorem aggR (w : World) : (isAgg 28).run Tryz.prog w = .ok true w := by kernel_rfl
set_option maxHeartbeats 4000000 in
/-- slices.ContainsFunc. -/
theorem containsR_any (Q : Rv → Prop) (p : Rv → Bool) (g : Nat) (lb : Array Value) (eg : ∀ args w, (callFunc g args).run Tryz.prog w = .ok (.enter g args) w)
    (A : Option Addr) (n c : Nat) (l : List Rv) (w : World) (h : Rs w All A l) (hn : l.length = n) (hb : n ≤ 1000000000) (hQ : ∀ x ∈ l, Q x)
    (hp : ∀ (W : World) (c : List Value) (x : Rv), Ext w W → Rev w All c x → c.length = 6 → Q x → Calls Tryz.prog g (#[.agg c.toArray] ++ lb) W (Ret (.bool (p x)) W)) :
    Calls Tryz.prog 67 #[.slice A n c, .func (.func g) #[] lb] w (Ret (.bool (l.any p)) w) := by
  have HI : Hid (Calls Tryz.prog 88 #[.slice A n c, .func (.func g) #[] lb] w fun e w' => ∃ i : Int, e = .returned (.int .i64 i) ∧ decide (0 ≤ i) = l.any p ∧ Ext w w') := by
    refine Lib.hid ?_
    rcases Nat.eq_zero_or_pos n with h0 | h0
    · subst h0
      obtain rfl : l = [] := List.length_eq_zero_iff.1 hn
      refine (indexR_zero A c _ w).mono ?_
      rintro e w' ⟨rfl, hx⟩
      exact ⟨-1, rfl, rfl, hx⟩
    · obtain ⟨b, o, _, rfl, _⟩ := h.get (List.getElem?_eq_getElem (show 0 < l.length by omega))
      exact index_sls Tryz.laysIndexR 6 Rev aggR sizeR Q p g lb eg b o n c l w h hn h0 hb hQ hp
  clear hp hQ hn h
  generalize l.any p = z at HI ⊢
  go_enter Tryz.func67, Tryz.ntmps67
  have hx := Ext.refl w
  go_wp2_with fail
  refine HI.out.mono ?_
  rintro e w1 ⟨i, rfl, hi, hx0⟩
  clear hx
  have hx := hx0
  clear hx0 HI
  have HI2 := Lib.hid hi
  clear hi
  go_wp2_with fail
  (go_ret; refine Ret.mk ?_ ?_; (focus (show Value.bool (decide (0 ≤ i)) = Value.bool z; rw [HI2.out]; done)); (focus (exact EX; done)))

theorem indexV_zero (A : Option Addr) (c : Nat) (f : Value) (w : World) : Calls Tryz.prog 62 #[.slice A 0 c, f] w (Ret (.int .i64 (-1)) w) := by
  go_enter Tryz.func62, Tryz.ntmps62
  have hx := Ext.refl w
  go_wp2_with fail
  refine wp_loop_rounds 1 ?_
  rw [rounds_succ]
  go_wp2_with fail
  (go_ret; refine Ret.mk ?_ ?_; (focus (rfl; done)); (focus (exact EX; done)))
theorem sizeV (w : World) : (Go.sizeOf 39).run Tryz.prog w = .ok 4 w := by kernel_rfl
theorem aggV (w : World) : (isAgg 39).run Tryz.prog w = .ok true w := by kernel_rfl
set_option maxHeartbeats 4000000 in
/-- slices.ContainsFunc. -/
theorem containsV_any (Q : Vt → Prop) (p : Vt → Bool) (g : Nat) (lb : Array Value) (eg : ∀ args w, (callFunc g args).run Tryz.prog w = .ok (.enter g args) w)
    (A : Option Addr) (n c : Nat) (l : List Vt) (w : World) (h : Vs w All A l) (hn : l.length = n) (hb : n ≤ 1000000000) (hQ : ∀ x ∈ l, Q x)
    (hp : ∀ (W : World) (c : List Value) (x : Vt), Ext w W → Vot w All c x → c.length = 4 → Q x → Calls Tryz.prog g (#[.agg c.toArray] ++ lb) W (Ret (.bool (p x)) W)) :
    Calls Tryz.prog 36 #[.slice A n c, .func (.func g) #[] lb] w (Ret (.bool (l.any p)) w) := by
  have HI : Hid (Calls Tryz.prog 62 #[.slice A n c, .func (.func g) #[] lb] w fun e w' => ∃ i : Int, e = .returned (.int .i64 i) ∧ decide (0 ≤ i) = l.any p ∧ Ext w w') := by
    refine Lib.hid ?_
    rcases Nat.eq_zero_or_pos n with h0 | h0
    · subst h0
      obtain rfl : l = [] := List.length_eq_zero_iff.1 hn
      refine (indexV_zero A c _ w).mono ?_
      rintro e w' ⟨rfl, hx⟩
      exact ⟨-1, rfl, rfl, hx⟩
    · obtain ⟨b, o, _, rfl, _⟩ := h.get (List.getElem?_eq_getElem (show 0 < l.length by omega))
      exact index_sls Tryz.laysIndexV 4 Vot aggV sizeV Q p g lb eg b o n c l w h hn h0 hb hQ hp
  clear hp hQ hn h
  generalize l.any p = z at HI ⊢
  go_enter Tryz.func36, Tryz.ntmps36
  have hx := Ext.refl w
  go_wp2_with fail
  refine HI.out.mono ?_
  rintro e w1 ⟨i, rfl, hi, hx0⟩
  clear hx
  have hx := hx0
  clear hx0 HI
  have HI2 := Lib.hid hi
  clear hi
  go_wp2_with fail
  (go_ret; refine Ret.mk ?_ ?_; (focus (show Value.bool (decide (0 ≤ i)) = Value.bool z; rw [HI2.out]; done)); (focus (exact EX; done)))
end Go.Proofs.YtojfgidoobgcaaaGreatDoor
