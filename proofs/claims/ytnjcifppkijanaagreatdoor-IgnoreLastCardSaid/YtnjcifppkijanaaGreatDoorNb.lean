/- Lists of structs in memory, whatever their elements; digests, votes, reviews. -/
import Derived.Test.YtnjcifppkijanaaGreatDoorNa
import Derived.Test.YtnjcifppkijanaaGreatDoorBase
set_option linter.unusedSimpArgs false
set_option linter.unusedVariables false
namespace Go.Proofs.YtnjcifppkijanaaGreatDoor
open Go Go.RowKit

/-- What the cells of an element say; blocks in F alone are followed. -/
abbrev Reads (α : Type) := World → (Nat → Prop) → List Value → α → Prop
theorem flatten_at {k : Nat} : ∀ {cs : List (List Value)} {i j : Nat} {c : List Value}, (∀ c ∈ cs, c.length = k) → cs[i]? = some c → j < k → cs.flatten[i * k + j]? = c[j]?
  | [], i, j, c, _, h, _ => by simp at h
  | x :: cs, i, j, c, hk, h, hj => by
    have hx := hk x (List.mem_cons_self ..)
    rw [List.flatten_cons]
    cases i with
    | zero =>
      obtain rfl : x = c := by simpa using h
      rw [Nat.zero_mul, Nat.zero_add, List.getElem?_append_left (by omega)]
    | succ i =>
      have e : (i + 1) * k + j = k + (i * k + j) := by rw [Nat.succ_mul]; omega
      rw [e, List.getElem?_append_right (by omega), hx, Nat.add_sub_cancel_left]
      exact flatten_at (fun c hc => hk c (List.mem_cons_of_mem _ hc)) (by simpa using h) hj
theorem flatten_len {k : Nat} : ∀ {cs : List (List Value)}, (∀ c ∈ cs, c.length = k) → cs.flatten.length = cs.length * k
  | [], _ => by simp
  | x :: cs, h => by
    rw [List.flatten_cons, List.length_append, h x (List.mem_cons_self ..), flatten_len (fun c hc => h c (List.mem_cons_of_mem _ hc)), List.length_cons, Nat.succ_mul]
    omega
/-- A slice from A on holds the elements of l, k cells each. -/
def Sls {α : Type} (k : Nat) (R : Reads α) (w : World) (F : Nat → Prop) (A : Option Addr) (l : List α) : Prop :=
  ∃ cs : List (List Value), cs.length = l.length ∧ (∀ c ∈ cs, c.length = k) ∧ (0 < l.length → ∃ b o, A = some ⟨b, o, none⟩ ∧ b < w.heap.size ∧ F b ∧ w.rangeAt b o cs.flatten) ∧
    ∀ (i : Nat) c x, cs[i]? = some c → l[i]? = some x → R w F c x
/-- Later worlds read the same; fewer blocks, too. -/
structure Steadfast {α : Type} (R : Reads α) : Prop where
  ext : ∀ {w w' F c x}, R w F c x → Ext w w' → R w' F c x
  mono : ∀ {w F G c x}, R w F c x → (∀ b, F b → G b) → R w G c x
  below : ∀ {w F c x}, R w F c x → R w (fun b => F b ∧ b < w.heap.size) c x
section
variable {α : Type} {k : Nat} {R : Reads α} {w w' : World} {F G : Nat → Prop} {A : Option Addr} {l : List α}
theorem Sls.nil (k : Nat) (R : Reads α) (w : World) (F : Nat → Prop) {A : Option Addr} : Sls k R w F A [] := ⟨[], rfl, by simp, fun h => absurd h (Nat.lt_irrefl 0), fun i c x h => by simp at h⟩
theorem Sls.ext (hR : Steadfast R) (h : Sls k R w F A l) (hx : Ext w w') : Sls k R w' F A l := by
  obtain ⟨cs, h1, h2, h3, h4⟩ := h
  refine ⟨cs, h1, h2, fun h0 => ?_, fun i c x hc hl => hR.ext (h4 i c x hc hl) hx⟩
  obtain ⟨b, o, hA, hb, hF, hr⟩ := h3 h0
  exact ⟨b, o, hA, Nat.lt_of_lt_of_le hb hx.size_le, hF, fun j v hv => by rw [hx.cell (p := ⟨b, _, none⟩) hb]; exact hr j v hv⟩
theorem Sls.mono (hR : Steadfast R) (h : Sls k R w F A l) (hg : ∀ b, F b → G b) : Sls k R w G A l := by
  obtain ⟨cs, h1, h2, h3, h4⟩ := h
  refine ⟨cs, h1, h2, fun h0 => ?_, fun i c x hc hl => hR.mono (h4 i c x hc hl) hg⟩
  obtain ⟨b, o, hA, hb, hF, hr⟩ := h3 h0
  exact ⟨b, o, hA, hb, hg b hF, hr⟩
theorem Sls.below (hR : Steadfast R) (h : Sls k R w F A l) : Sls k R w (fun b => F b ∧ b < w.heap.size) A l := by
  obtain ⟨cs, h1, h2, h3, h4⟩ := h
  refine ⟨cs, h1, h2, fun h0 => ?_, fun i c x hc hl => hR.below (h4 i c x hc hl)⟩
  obtain ⟨b, o, hA, hb, hF, hr⟩ := h3 h0
  exact ⟨b, o, hA, hb, ⟨hF, hb⟩, hr⟩
/-- The element at a place. -/
theorem Sls.get (h : Sls k R w F A l) {i : Nat} {x : α} (hi : l[i]? = some x) :
    ∃ b o c, A = some ⟨b, o, none⟩ ∧ b < w.heap.size ∧ F b ∧ c.length = k ∧ w.rangeAt b (o + i * k) c ∧ R w F c x := by
  obtain ⟨cs, h1, h2, h3, h4⟩ := h
  have hl := (List.getElem?_eq_some_iff.1 hi).1
  obtain ⟨b, o, hA, hb, hF, hr⟩ := h3 (by omega)
  have hc : cs[i]? = some cs[i] := List.getElem?_eq_getElem (by omega)
  have hk := h2 _ (List.mem_of_getElem? hc)
  refine ⟨b, o, cs[i], hA, hb, hF, hk, fun j v hv => ?_, h4 i _ x hc hi⟩
  have hj : j < k := by rw [← hk]; exact (List.getElem?_eq_some_iff.1 hv).1
  have := hr (i * k + j) v (by rw [flatten_at h2 hc hj]; exact hv)
  rwa [← Nat.add_assoc] at this
end
/-- A digest's cells. -/
def Dig : Reads Dg := fun _ _ c d => c = d.cells
theorem Dig.steadfast : Steadfast Dig := ⟨fun h _ => h, fun h _ => h, fun h => h⟩
theorem Dg.cells_length (d : Dg) : d.cells.length = 32 := by unfold Dg.cells; rw [List.length_map, d.len]
/-- A list of digests. -/
abbrev Ds (w : World) (F : Nat → Prop) (A : Option Addr) (l : List Dg) : Prop := Sls 32 Dig w F A l
theorem Ds.ext {w w' : World} {F : Nat → Prop} {A : Option Addr} {l : List Dg} (h : Ds w F A l) (hx : Ext w w') : Ds w' F A l := Sls.ext Dig.steadfast h hx
/-- A vote's cells. -/
def Vot : Reads Vt := fun w F c v => ∃ A n m, c = [.string v.who, .int .i64 v.kind, .string v.text, .slice A n m] ∧ v.ids.length = n ∧ n ≤ m ∧ Ds w F A v.ids
theorem Vot.steadfast : Steadfast Vot :=
  ⟨fun ⟨A, n, m, h1, h2, h3, h4⟩ hx => ⟨A, n, m, h1, h2, h3, h4.ext hx⟩, fun ⟨A, n, m, h1, h2, h3, h4⟩ hg => ⟨A, n, m, h1, h2, h3, h4.mono Dig.steadfast hg⟩, fun ⟨A, n, m, h1, h2, h3, h4⟩ => ⟨A, n, m, h1, h2, h3, h4.below Dig.steadfast⟩⟩
/-- A list of votes. -/
abbrev Vs (w : World) (F : Nat → Prop) (A : Option Addr) (l : List Vt) : Prop := Sls 4 Vot w F A l
theorem Vs.ext {w w' : World} {F : Nat → Prop} {A : Option Addr} {l : List Vt} (h : Vs w F A l) (hx : Ext w w') : Vs w' F A l := Sls.ext Vot.steadfast h hx
/-- A review's cells. -/
def Rev : Reads Rv := fun w F c r => ∃ A n m B p q, c = [.int .i64 r.number, .string r.author, .string r.branch, .slice A n m, .int .i64 r.state, .slice B p q] ∧ (r.ids.length = n ∧ n ≤ m ∧ Ds w F A r.ids) ∧ r.votes.length = p ∧ p ≤ q ∧ Vs w F B r.votes
theorem Rev.steadfast : Steadfast Rev :=
  ⟨fun ⟨A, n, m, B, p, q, h1, ⟨h2, h3, h4⟩, h5, h6, h7⟩ hx => ⟨A, n, m, B, p, q, h1, ⟨h2, h3, h4.ext hx⟩, h5, h6, h7.ext hx⟩,
   fun ⟨A, n, m, B, p, q, h1, ⟨h2, h3, h4⟩, h5, h6, h7⟩ hg => ⟨A, n, m, B, p, q, h1, ⟨h2, h3, h4.mono Dig.steadfast hg⟩, h5, h6, h7.mono Vot.steadfast hg⟩,
   fun ⟨A, n, m, B, p, q, h1, ⟨h2, h3, h4⟩, h5, h6, h7⟩ => ⟨A, n, m, B, p, q, h1, ⟨h2, h3, h4.below Dig.steadfast⟩, h5, h6, h7.below Vot.steadfast⟩⟩
/-- A list of reviews. -/
abbrev Rs (w : World) (F : Nat → Prop) (A : Option Addr) (l : List Rv) : Prop := Sls 6 Rev w F A l
theorem Rs.ext {w w' : World} {F : Nat → Prop} {A : Option Addr} {l : List Rv} (h : Rs w F A l) (hx : Ext w w') : Rs w' F A l := Sls.ext Rev.steadfast h hx
end Go.Proofs.YtnjcifppkijanaaGreatDoor
