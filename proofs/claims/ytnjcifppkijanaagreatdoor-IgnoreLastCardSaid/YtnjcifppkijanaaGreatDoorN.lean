/- Walks: the inverse of a patch. -/
import Derived.Test.YtnjcifppkijanaaGreatDoorL
import Derived.Test.YtnjcifppkijanaaGreatDoorJ
import Derived.Test.YtnjcifppkijanaaGreatDoorD
import Derived.Deep.RegionHeld3
import Derived.Deep.DrawnRows
import Derived.Deep.CutBlock
import Derived.Deep.DeepCutAuto
set_option linter.unusedSimpArgs false
set_option linter.unusedVariables false
namespace Go.Proofs.YtnjcifppkijanaaGreatDoor
open Go.RowKit

/-- A patch with the lists that it holds. -/
structure Qp where
  kind : Int
  path : ByteArray
  to_ : ByteArray
  ty : Int
  at_ : Int
  old : List ByteArray
  new : List ByteArray
  off : Int
  so : ByteArray
  sn : ByteArray
  om : Int
  nm : Int
abbrev Qp.pv (q : Qp) (A1 : Option Addr) (c1 : Nat) (A2 : Option Addr) (c2 : Nat) : Pv :=
  ⟨q.kind, q.path, q.to_, q.ty, q.at_, A1, q.old.length, c1, A2, q.new.length, c2, q.off, q.so, q.sn, q.om, q.nm⟩
/-- Where a list that is not empty lies: F tells the blocks. -/
def Fp (F : Nat → Prop) (A : Option Addr) (n : Nat) : Prop := 0 < n → ∀ a, A = some a → F a.block
theorem Fp.mono {F G : Nat → Prop} {A : Option Addr} {n : Nat} (h : Fp F A n) (hg : ∀ b, F b → G b) : Fp G A n := fun hn a ha => hg _ (h hn a ha)
theorem Sl.put {w : World} {A : Option Addr} {n c g k : Nat} {F : Nat → Prop} {l : List ByteArray} (h : Sl w A n c l) (hf : Fp F A n) (hg : ¬ F g) (u : Value) : Sl (w.setCell ⟨g, k, none⟩ u) A n c l := by
  refine ⟨⟨h.1.1, fun hn => ?_⟩, h.2⟩
  obtain ⟨b, o, hA, hb, hc⟩ := h.1.2 hn
  have hne : b ≠ g := by
    rintro rfl
    exact hg (hf hn _ hA)
  refine ⟨b, o, hA, by simpa using hb, fun j hj => ?_⟩
  rw [← hc j hj]
  exact World.cell?_of_block (Below.heap_setCell w ⟨g, k, none⟩ u b hne)
/-- In world w the patch p reads as q; its lists lie in blocks of F. -/
def Is (w : World) (F : Nat → Prop) (p : Pv) (q : Qp) : Prop := ∃ A1 c1 A2 c2, p = q.pv A1 c1 A2 c2 ∧ (Sl w A1 q.old.length c1 q.old ∧ Sl w A2 q.new.length c2 q.new) ∧ Fp F A1 q.old.length ∧ Fp F A2 q.new.length
theorem Is.ext {w w' : World} {F : Nat → Prop} {p : Pv} {q : Qp} (h : Is w F p q) (hx : Ext w w') : Is w' F p q := by
  obtain ⟨A1, c1, A2, c2, e, ⟨h1, h2⟩, h3⟩ := h
  exact ⟨A1, c1, A2, c2, e, ⟨h1.ext hx, h2.ext hx⟩, h3⟩
theorem Is.mono {w : World} {F G : Nat → Prop} {p : Pv} {q : Qp} (h : Is w F p q) (hg : ∀ b, F b → G b) : Is w G p q := by
  obtain ⟨A1, c1, A2, c2, e, h1, h3, h4⟩ := h
  exact ⟨A1, c1, A2, c2, e, h1, h3.mono hg, h4.mono hg⟩
theorem Is.put {w : World} {F : Nat → Prop} {p : Pv} {q : Qp} {g k : Nat} (h : Is w F p q) (hg : ¬ F g) (u : Value) : Is (w.setCell ⟨g, k, none⟩ u) F p q := by
  obtain ⟨A1, c1, A2, c2, e, ⟨h1, h2⟩, h3, h4⟩ := h
  exact ⟨A1, c1, A2, c2, e, ⟨h1.put h3 hg u, h2.put h4 hg u⟩, h3, h4⟩
theorem Is.alloc {w : World} {F : Nat → Prop} {p : Pv} {q : Qp} (h : Is w F p q) (o : Obj) : Is (w.alloc o) F p q := h.ext ((Ext.refl w).alloc o)
theorem Is.drew {w : World} {F : Nat → Prop} {p : Pv} {q : Qp} (h : Is w F p q) : Is w.drew F p q := h.ext (Ext.refl w).drew1
theorem Is.drewN {w : World} {F : Nat → Prop} {p : Pv} {q : Qp} (h : Is w F p q) (n : Nat) : Is (w.drewN n) F p q := h.ext ((Ext.refl w).drewN n)
theorem Is.in {w : World} {F : Nat → Prop} {p : Pv} {q : Qp} (h : Is w F p q) : Is w (fun b => F b ∧ b < w.heap.size) p q := by
  obtain ⟨A1, c1, A2, c2, e, ⟨h1, h2⟩, h3, h4⟩ := h
  refine ⟨A1, c1, A2, c2, e, ⟨h1, h2⟩, fun hn a ha => ⟨h3 hn a ha, ?_⟩, fun hn a ha => ⟨h4 hn a ha, ?_⟩⟩
  · obtain ⟨b, o, hA, hb, _⟩ := h1.1.2 hn
    rw [ha] at hA
    cases hA
    exact hb
  · obtain ⟨b, o, hA, hb, _⟩ := h2.1.2 hn
    rw [ha] at hA
    cases hA
    exact hb
def Qp.zero : Qp := ⟨0, ⟨#[]⟩, ⟨#[]⟩, 0, 0, [], [], 0, ⟨#[]⟩, ⟨#[]⟩, 0, 0⟩
theorem Sl.none (w : World) : Sl w .none 0 0 [] := ⟨Lst.nil w _, fun _ => ⟨rfl, rfl⟩⟩
theorem Is.none (w : World) (F : Nat → Prop) (q : Qp) (h1 : q.old = []) (h2 : q.new = []) : Is w F (q.pv .none 0 .none 0) q :=
  ⟨.none, 0, .none, 0, rfl, ⟨by rw [h1]; exact Sl.none w, by rw [h2]; exact Sl.none w⟩, (fun _ a ha => nomatch ha), (fun _ a ha => nomatch ha)⟩
/-- primpatch.Check. -/
def Qp.check (q : Qp) : Int := (q.pv none 0 none 0).check q.old q.new
/-- The inverse of a valid patch. -/
def Qp.inv (q : Qp) : Qp :=
  if q.kind = 1 then { Qp.zero with kind := 2, path := q.path, ty := q.ty, om := q.nm, so := q.sn }
  else if q.kind = 3 then { Qp.zero with kind := 4, path := q.path }
  else if q.kind = 2 then { Qp.zero with kind := 1, path := q.path, ty := q.ty, nm := q.om, sn := q.so }
  else if q.kind = 4 then { Qp.zero with kind := 3, path := q.path }
  else if q.kind = 5 then { Qp.zero with kind := 5, path := q.to_, to_ := q.path }
  else { q with old := q.new, new := q.old, so := q.sn, sn := q.so, om := q.nm, nm := q.om }

end Go.Proofs.YtnjcifppkijanaaGreatDoor
