/- Two structs copied into two cells, in a region that draws its order. No condition. -/
import Derived.Test.YtnjcifppkijanaaGreatDoorN
import Derived.Deep.RegionHeld3
import Derived.Deep.MidRow
set_option linter.unusedSimpArgs false
set_option linter.unusedVariables false
namespace Go.Proofs.YtnjcifppkijanaaGreatDoor
open Go.RowKit

theorem far_cell {w : World} {b b' k i : Nat} (h : b ≠ b') (v : Value) : (w.setCell ⟨b, k, none⟩ v).cell? ⟨b', i, none⟩ = w.cell? ⟨b', i, none⟩ := World.cell?_setCell_other _ _ _ _ (by intro e; simp only [Addr.mk.injEq] at e; omega)
theorem Blk.conv {w : World} {g : Nat} {t : TypeId} {cs cs' : Array Value} (h : Blk w g t cs) (e : cs = cs') : Blk w g t cs' := e ▸ h
theorem Blk.range {w : World} {g : Nat} {t : TypeId} {cs : Array Value} (h : Blk w g t cs) (o : Nat) (l : List Value) (hl : ∀ j, j < l.length → cs[o + j]? = l[j]?) : w.rangeAt g o l := fun j v hv => by
  have hj : j < l.length := (List.getElem?_eq_some_iff.1 hv).1
  rw [h.cell, hl j hj, hv]
theorem Blk.there {w : World} {g : Nat} {t : TypeId} {cs : Array Value} (h : Blk w g t cs) : w.there g 0 cs.size := fun j hj => by
  rw [h.cell, h.frozen]
  refine ⟨?_, rfl⟩
  rw [Array.getElem?_eq_getElem (by omega)]
  rfl
theorem Blk.farAll {w : World} {g b : Nat} {t : TypeId} {cs : Array Value} (hne : g ≠ b) : ∀ (vs : List Value) (o : Nat) (w : World), Blk w g t cs → Blk (w.setCells b o vs) g t cs
  | [], _, _, h => h
  | v :: vs, o, w, h => Blk.farAll (w := w) hne vs (o + 1) _ (Blk.far (p := ⟨b, o, none⟩) h hne v)
theorem Blk.rowSet {g : Nat} {t : TypeId} : ∀ (vs cs pre : List Value) (w : World), vs.length = cs.length → Blk w g t (pre ++ cs).toArray → Blk (w.setCells g pre.length vs) g t (pre ++ vs).toArray
  | [], [], pre, w, _, h => h
  | [], _ :: _, _, _, e, _ => nomatch e
  | _ :: _, [], _, _, e, _ => nomatch e
  | v :: vs, c :: cs, pre, w, e, h => by
    have h1 := h.set_ pre.length v
    have e1 : (pre ++ c :: cs).toArray.setIfInBounds pre.length v = ((pre ++ [v]) ++ cs).toArray := by simp
    rw [e1] at h1
    have h2 := Blk.rowSet vs cs (pre ++ [v]) _ (by simpa using e) h1
    have e2 : (pre ++ [v]).length = pre.length + 1 := by simp
    rw [e2] at h2
    have e3 : (pre ++ v :: vs).toArray = ((pre ++ [v]) ++ vs).toArray := by simp
    rw [e3]
    exact h2
/-- A block that is written whole. -/
theorem Blk.whole {w : World} {g : Nat} {t : TypeId} {cs vs : Array Value} (h : Blk w g t cs) (hs : vs.size = cs.size) : Blk (w.setCells g 0 vs.toList) g t vs := by
  have h1 := Blk.rowSet vs.toList cs.toList [] w (by simpa using hs) (by simpa using h)
  simpa using h1
theorem Ext.setAll {w : World} {b : Nat} (hb : w.heap.size ≤ b) : ∀ (vs : List Value) (o : Nat) (w' : World), Ext w w' → Ext w (w'.setCells b o vs)
  | [], _, _, h => h
  | v :: vs, o, _, h => Ext.setAll hb vs (o + 1) _ (Ext.setCell (p := ⟨b, o, none⟩) h hb v)
theorem Is.putAll {F : Nat → Prop} {p : Pv} {q : Qp} {b : Nat} (hb : ¬ F b) : ∀ (vs : List Value) (o : Nat) (w : World), Is w F p q → Is (w.setCells b o vs) F p q
  | [], _, _, h => h
  | v :: vs, o, _, h => Is.putAll hb vs (o + 1) _ (h.put hb v)

section
variable {P : Program} {ops : Array Oper} {Q : Exit → Act → World → Prop} {md : Region.Mode} {S : World → Prop}
/-- Any operation that yields its value under S is taken first. -/
theorem take_any {i : Nat} {oi : Oper} {v : Value} {fuel : Nat} {listed : Array Bool} {a : Act} {w : World} {d : Tmp} (hi : ops[i]? = some oi) (hd : oi.dst = some d)
    (hs : Region.noSelect ops = true) (hf : Region.free md ops listed i = true) (hr : (Region.ready md ops listed).contains i = true)
    (hy : YieldsIf P ops S oi v a) (hS : S w)
    (h : wpAnyH P md ops (NoPanic Q) S fuel (listed.setIfInBounds i true) (a.put (some d) v) w) : wpAnyH P md ops (NoPanic Q) S (fuel + 1) listed a w :=
  wpAnyH_take hi hs hf hr (fun _ _ _ h => h) hy hS (by rw [hd]; exact h)
/-- A load of a struct is taken first. -/
theorem take_load {i : Nat} {oi : Oper} {fuel : Nat} {listed : Array Bool} {a : Act} {w : World} {d : Tmp} {ty : TypeId} {x : Operand} {b o : Nat} {ds : TypeDesc} (cs : List Value) (hi : ops[i]? = some oi) (hd : oi.dst = some d) (ho : oi.op = .load ty x) (hg : oi.guard = none)
    (hs : Region.noSelect ops = true) (hf : Region.free md ops listed i = true) (hr : (Region.ready md ops listed).contains i = true)
    (hx : a.eval x = .pointer (some ⟨b, o, none⟩)) (hu : P.underlying ty = some ds) (hrow : ds.isRow = true) (hl : (P.info? ty).map (·.size) = some cs.length) (hSr : ∀ w, S w → w.rangeAt b o cs) (hS : S w)
    (h : wpAnyH P md ops (NoPanic Q) S fuel (listed.setIfInBounds i true) (a.put (some d) (.agg cs.toArray)) w) : wpAnyH P md ops (NoPanic Q) S (fuel + 1) listed a w :=
  take_any hi hd hs hf hr (yieldsIf_load_mid (by simp [Region.wanted, hg]) ty x ho b o hx cs ds hSr hu hrow hl) hS h
/-- One operation alone may come up. -/
theorem wpAnyH_one {i : Nat} {o : Oper} {fuel : Nat} {listed : Array Bool} {a : Act} {w : World} (hr : Region.ready md ops listed = [i]) (hi : ops[i]? = some o) (hw : Region.wanted o (yielded ops a.tmps) = true)
    (h : o.wp P a w (fun a' w' => S w' ∧ wpAnyH P md ops Q S fuel (listed.setIfInBounds i true) a' w') Q) : wpAnyH P md ops Q S (fuel + 1) listed a w := by
  refine wpAnyH_all hr (by simp) fun j hj => ?_
  obtain rfl : j = i := by simpa using hj
  unfold wpOp
  simp only [hi, hw, if_true]
  exact .inl h
theorem tf {i : Nat} {oi : Oper} {v : Value} {fuel : Nat} {listed : Array Bool} {a : Act} {w : World} {d : Tmp} (hi : ops[i]? = some oi) (hd : oi.dst = some d)
    (hy : ∀ w, (execOp a.eval oi).run P w = .ok (.value v) w) (hS : S w)
    (h : wpAnyH P md ops (NoPanic Q) S fuel (listed.setIfInBounds i true) (a.put (some d) v) w)
    (hw : Region.wanted oi (yielded ops a.tmps) = true := by kernel_rfl) (hs : Region.noSelect ops = true := by kernel_rfl) (hf : Region.free md ops listed i = true := by kernel_rfl) (hr : (Region.ready md ops listed).contains i = true := by kernel_rfl) : wpAnyH P md ops (NoPanic Q) S (fuel + 1) listed a w :=
  take_any hi hd hs hf hr (.inl ⟨hw, fun w _ => hy w⟩) hS h
theorem tk {i : Nat} {oi : Oper} {fuel : Nat} {listed : Array Bool} {a : Act} {w : World} {d : Tmp} (hi : ops[i]? = some oi) (hd : oi.dst = some d) (hS : S w)
    (h : wpAnyH P md ops (NoPanic Q) S fuel (listed.setIfInBounds i true) (a.put (some d) undef) w)
    (hw : Region.wanted oi (yielded ops a.tmps) = false := by kernel_rfl) (hs : Region.noSelect ops = true := by kernel_rfl) (hf : Region.free md ops listed i = true := by kernel_rfl) (hr : (Region.ready md ops listed).contains i = true := by kernel_rfl) : wpAnyH P md ops (NoPanic Q) S (fuel + 1) listed a w :=
  take_any hi hd hs hf hr (.inr ⟨hw, rfl⟩) hS h
theorem tl {i : Nat} {oi : Oper} {fuel : Nat} {listed : Array Bool} {a : Act} {w : World} {d : Tmp} {ty : TypeId} {x : Operand} {b o : Nat} {ds : TypeDesc} (cs : List Value) (hi : ops[i]? = some oi) (hd : oi.dst = some d) (ho : oi.op = .load ty x) (hg : oi.guard = none)
    (hx : a.eval x = .pointer (some ⟨b, o, none⟩)) (hu : P.underlying ty = some ds) (hrow : ds.isRow = true) (hSr : ∀ w, S w → w.rangeAt b o cs) (hS : S w)
    (h : wpAnyH P md ops (NoPanic Q) S fuel (listed.setIfInBounds i true) (a.put (some d) (.agg cs.toArray)) w)
    (hs : Region.noSelect ops = true := by kernel_rfl) (hf : Region.free md ops listed i = true := by kernel_rfl) (hr : (Region.ready md ops listed).contains i = true := by kernel_rfl) (hl : (P.info? ty).map (·.size) = some cs.length := by kernel_rfl) : wpAnyH P md ops (NoPanic Q) S (fuel + 1) listed a w :=
  take_any hi hd hs hf hr (yieldsIf_load_mid (by simp [Region.wanted, hg]) ty x ho b o hx cs ds hSr hu hrow hl) hS h
theorem tg {i : Nat} {oi : Oper} {fuel : Nat} {listed : Array Bool} {a : Act} {w : World} {d : Tmp} {ty : TypeId} {x : Operand} {b o : Nat} {ds : TypeDesc} (cs : List Value) (hi : ops[i]? = some oi) (hd : oi.dst = some d) (ho : oi.op = .load ty x)
    (hx : a.eval x = .pointer (some ⟨b, o, none⟩)) (hu : P.underlying ty = some ds) (hrow : ds.isRow = true) (hSr : ∀ w, S w → w.rangeAt b o cs) (hS : S w)
    (h : wpAnyH P md ops (NoPanic Q) S fuel (listed.setIfInBounds i true) (a.put (some d) (.agg cs.toArray)) w)
    (hw : Region.wanted oi (yielded ops a.tmps) = true := by kernel_rfl) (hs : Region.noSelect ops = true := by kernel_rfl) (hf : Region.free md ops listed i = true := by kernel_rfl) (hr : (Region.ready md ops listed).contains i = true := by kernel_rfl) (hl : (P.info? ty).map (·.size) = some cs.length := by kernel_rfl) : wpAnyH P md ops (NoPanic Q) S (fuel + 1) listed a w :=
  take_any hi hd hs hf hr (yieldsIf_load_mid hw ty x ho b o hx cs ds hSr hu hrow hl) hS h
end
end Go.Proofs.YtnjcifppkijanaaGreatDoor
