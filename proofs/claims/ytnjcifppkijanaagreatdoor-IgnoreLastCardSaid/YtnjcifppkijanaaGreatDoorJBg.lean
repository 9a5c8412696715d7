/- How globs lie in memory. -/
import Derived.Test.YtnjcifppkijanaaGreatDoorPA
import Derived.Test.YtnjcifppkijanaaGreatDoorNb
set_option linter.unusedSimpArgs false
set_option linter.unusedVariables false
namespace Go.Proofs.YtnjcifppkijanaaGreatDoor
open Go Go.RowKit

/-- A call that turns the block g alone, and lays new ones. -/
structure Save (g : Nat) (w w' : World) : Prop where
  ext : ∀ w0, Ext w0 w → w0.heap.size ≤ g → Ext w0 w'
  blk : ∀ g' t cs, Blk w g' t cs → g' ≠ g → Blk w' g' t cs
  size : w.heap.size ≤ w'.heap.size
theorem Save.refl (g : Nat) (w : World) : Save g w w := ⟨fun _ h _ => h, fun _ _ _ h _ => h, Nat.le_refl _⟩
theorem Save.of_ext {g : Nat} {w w' : World} (h : Ext w w') : Save g w w' := ⟨fun _ k _ => k.trans h, fun _ _ _ k _ => Blk.ext h k, h.size_le⟩
theorem Save.trans {g : Nat} {a b c : World} (h : Save g a b) (k : Save g b c) : Save g a c :=
  ⟨fun w0 h0 hg => k.ext w0 (h.ext w0 h0 hg) hg, fun g' t cs hb hn => k.blk g' t cs (h.blk g' t cs hb hn) hn, Nat.le_trans h.size k.size⟩
theorem Save.cell (g : Nat) (w : World) (i : Nat) (v : Value) : Save g w (w.setCell ⟨g, i, none⟩ v) :=
  ⟨fun w0 h0 hg => Ext.setCell (p := ⟨g, i, none⟩) h0 hg v, fun g' t cs hb hn => Blk.far (p := ⟨g, i, none⟩) hb hn v, by simp [World.setCell]⟩
theorem Save.set {g : Nat} {w w' : World} (h : Save g w w') (i : Nat) (v : Value) : Save g w (w'.setCell ⟨g, i, none⟩ v) := h.trans (Save.cell g w' i v)
theorem Save.alloc {g : Nat} {w w' : World} (h : Save g w w') (o : Obj) : Save g w (w'.alloc o) := h.trans (Save.of_ext ((Ext.refl w').alloc o))

/-- Blocks that closures of globs capture are kept: bytes, bools, rows of 256. -/
def Keep3 (w W : World) : Prop := ∀ b t cs, (t = 5 ∨ t = 4 ∨ t = 148) → Blk w b t cs → Blk W b t cs
theorem Keep3.refl (w : World) : Keep3 w w := fun _ _ _ _ h => h
theorem Keep3.trans {a b c : World} (h : Keep3 a b) (k : Keep3 b c) : Keep3 a c := fun b t cs ht hb => k b t cs ht (h b t cs ht hb)
theorem Keep3.of_ext {w W : World} (h : Ext w W) : Keep3 w W := fun _ _ _ _ hb => Blk.ext h hb
theorem Keep3.set {w : World} {b : Nat} {t : TypeId} {cs : Array Value} (h : Blk w b t cs) (ht : ¬ (t = 5 ∨ t = 4 ∨ t = 148)) (i : Nat) (v : Value) : Keep3 w (w.setCell ⟨b, i, none⟩ v) := fun b' t' cs' ht' hb => by
  refine Blk.far (p := ⟨b, i, none⟩) hb (fun e => ht ?_) v
  have e2 : b' = b := e
  subst e2
  have h0 : w.heap[b']? = some (.cells cs t (0, 0)) := h
  have h1 : w.heap[b']? = some (.cells cs' t' (0, 0)) := hb
  rw [h0] at h1
  cases h1
  exact ht'
theorem Keep3.grown {w W : World} {row : Option Nat} (h : w.grownBy W row) (hr : ∀ b, row = some b → ∃ t cs, Blk w b t cs ∧ ¬ (t = 5 ∨ t = 4 ∨ t = 148)) : Keep3 w W := fun b t cs ht hb => by
  refine (h.block b hb.lt fun e => ?_).trans hb
  obtain ⟨t', cs', h1, h2⟩ := hr b e.symm
  have h0 : w.heap[b]? = some (.cells cs t (0, 0)) := hb
  have h3 : w.heap[b]? = some (.cells cs' t' (0, 0)) := h1
  rw [h0] at h3
  cases h3
  exact h2 ht
/-- A closure that says whether a byte is in a set. -/
def FunP (w : World) (m : Value) (p : UInt8 → Bool) : Prop :=
  ∃ (g : Nat) (caps : Array Value), m = .func (.func g) #[] caps ∧ (∀ args W, (callFunc g args).run Tryz.prog W = .ok (.enter g args) W) ∧
    ∀ (W : World) (c : UInt8), Keep3 w W → Calls Tryz.prog g (#[.int .u8 c.toNat] ++ caps) W (Ret (.bool (p c)) W)
theorem FunP.keep {w w' : World} {m : Value} {p : UInt8 → Bool} (h : FunP w m p) (hx : Keep3 w w') : FunP w' m p := by
  obtain ⟨g, caps, h1, h2, h3⟩ := h
  exact ⟨g, caps, h1, h2, fun W c hW => h3 W c (hx.trans hW)⟩
theorem FunP.ext {w w' : World} {m : Value} {p : UInt8 → Bool} (h : FunP w m p) (hx : Ext w w') : FunP w' m p := h.keep (Keep3.of_ext hx)
/-- An element's cells. -/
def Elt : Reads Gl.El := fun w F c e => ∃ (lit : Bool) (b : UInt8) (m : Value), c = [.bool e.isNone, .bool lit, .int .u8 b.toNat, m] ∧ m.oneCell' = true ∧ ∀ p, e = some p → FunP w m p
theorem Elt.steadfast : Steadfast Elt :=
  ⟨fun ⟨lit, b, m, h1, h0, h2⟩ hx => ⟨lit, b, m, h1, h0, fun p e => (h2 p e).ext hx⟩, fun ⟨lit, b, m, h1, h0, h2⟩ _ => ⟨lit, b, m, h1, h0, h2⟩, fun ⟨lit, b, m, h1, h0, h2⟩ => ⟨lit, b, m, h1, h0, h2⟩⟩
theorem Elt.one {w : World} {F : Nat → Prop} {c : List Value} {e : Gl.El} (h : Elt w F c e) : ∀ u ∈ c, Value.oneCell' u = true := by
  obtain ⟨lit, b, m, rfl, h0, _⟩ := h
  intro u hu
  simp only [List.mem_cons, List.not_mem_nil, or_false] at hu
  rcases hu with rfl | rfl | rfl | rfl
  · rfl
  · rfl
  · rfl
  · exact h0
theorem Elt.keep {w w' : World} {F : Nat → Prop} {c : List Value} {e : Gl.El} (h : Elt w F c e) (hx : Keep3 w w') : Elt w' F c e := let ⟨lit, b, m, h1, h0, h2⟩ := h; ⟨lit, b, m, h1, h0, fun p e => (h2 p e).keep hx⟩
abbrev Els (w : World) (F : Nat → Prop) (A : Option Addr) (l : List Gl.El) : Prop := Sls 4 Elt w F A l
/-- A component pattern's cells. -/
def Cpt : Reads Gl.Cp := fun w F c e => ∃ (A : Option Addr) (n m : Nat), c = [.bool e.isNone, .slice A n m] ∧ (e.getD []).length = n ∧ n ≤ m ∧ Els w F A (e.getD [])
theorem Cpt.steadfast : Steadfast Cpt :=
  ⟨fun ⟨A, n, m, h1, h2, h3, h4⟩ hx => ⟨A, n, m, h1, h2, h3, Sls.ext Elt.steadfast h4 hx⟩, fun ⟨A, n, m, h1, h2, h3, h4⟩ hg => ⟨A, n, m, h1, h2, h3, h4.mono Elt.steadfast hg⟩,
   fun ⟨A, n, m, h1, h2, h3, h4⟩ => ⟨A, n, m, h1, h2, h3, h4.below Elt.steadfast⟩⟩
abbrev Cps (w : World) (F : Nat → Prop) (A : Option Addr) (l : List Gl.Cp) : Prop := Sls 2 Cpt w F A l

/-! ### Rules and files -/
def RuR : Reads Ig.Ru := fun _ _ c r => c = [.bool r.neg, .bool r.dirOnly, .bool r.anch, .string r.glob]
theorem RuR.steadfast : Steadfast RuR := ⟨fun h _ => h, fun h _ => h, fun h => h⟩
abbrev Rus (w : World) (F : Nat → Prop) (A : Option Addr) (l : List Ig.Ru) : Prop := Sls 4 RuR w F A l
def FiR : Reads Ig.Fi := fun w F c f => ∃ (A : Option Addr) (n m : Nat), c = [.string f.dir, .slice A n m] ∧ f.rules.length = n ∧ n ≤ m ∧ Rus w F A f.rules
theorem FiR.steadfast : Steadfast FiR :=
  ⟨fun ⟨A, n, m, h1, h2, h3, h4⟩ hx => ⟨A, n, m, h1, h2, h3, Sls.ext RuR.steadfast h4 hx⟩, fun ⟨A, n, m, h1, h2, h3, h4⟩ hg => ⟨A, n, m, h1, h2, h3, h4.mono RuR.steadfast hg⟩,
   fun ⟨A, n, m, h1, h2, h3, h4⟩ => ⟨A, n, m, h1, h2, h3, h4.below RuR.steadfast⟩⟩
abbrev Fis (w : World) (F : Nat → Prop) (A : Option Addr) (l : List Ig.Fi) : Prop := Sls 2 FiR w F A l
/-- The reference's element: two bools and a row of 256. -/
def RElt : Reads Gl.El := fun _ _ c e => ∃ fixed : Bool, c = .bool e.isNone :: .bool fixed :: (List.range 256).map fun i => .bool (match e with
  | none => false
  | some p => p (UInt8.ofNat i))
theorem RElt.steadfast : Steadfast RElt := ⟨fun h _ => h, fun h _ => h, fun h => h⟩
def RCpt : Reads Gl.Cp := fun w F c e => ∃ (A : Option Addr) (n m : Nat), c = [.bool e.isNone, .slice A n m] ∧ (e.getD []).length = n ∧ n ≤ m ∧ Sls 258 RElt w F A (e.getD [])
theorem RCpt.steadfast : Steadfast RCpt :=
  ⟨fun ⟨A, n, m, h1, h2, h3, h4⟩ hx => ⟨A, n, m, h1, h2, h3, Sls.ext RElt.steadfast h4 hx⟩, fun ⟨A, n, m, h1, h2, h3, h4⟩ hg => ⟨A, n, m, h1, h2, h3, h4.mono RElt.steadfast hg⟩,
   fun ⟨A, n, m, h1, h2, h3, h4⟩ => ⟨A, n, m, h1, h2, h3, h4.below RElt.steadfast⟩⟩
end Go.Proofs.YtnjcifppkijanaaGreatDoor
