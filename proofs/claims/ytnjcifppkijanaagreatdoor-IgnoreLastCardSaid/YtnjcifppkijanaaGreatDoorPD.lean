/- Rows of elements and of component patterns: how they stand while the program goes on. Walks: globs are parsed. -/
import Derived.Test.YtnjcifppkijanaaGreatDoorPB
import Derived.Test.YtnjcifppkijanaaGreatDoorJBg
import Derived.Test.YtnjcifppkijanaaGreatDoorPC
set_option linter.unusedSimpArgs false
set_option linter.unusedVariables false
namespace Go.Proofs.YtnjcifppkijanaaGreatDoor
open Go Go.RowKit

theorem elInfo : ∃ i z, Tryz.prog.info? 116 = some i ∧ i.zero = some z ∧ i.size = 4 ∧ i.bytes = 16 ∧ z.cells.size = 4 := by
  have h : (Tryz.prog.info? 116).map (fun i => (i.zero.map (·.cells.size), i.size, i.bytes)) = some (some 4, 4, 16) := by kernel_rfl
  cases hi : Tryz.prog.info? 116 with
  | none => rw [hi] at h; cases h
  | some i =>
    rw [hi] at h
    simp only [Option.map_some, Option.some.injEq, Prod.mk.injEq] at h
    obtain ⟨h1, h2, h3⟩ := h
    cases hz : i.zero with
    | none => rw [hz] at h1; cases h1
    | some z => exact ⟨i, z, rfl, hz, h2, h3, by rw [hz] at h1; simpa using h1⟩
theorem coInfo : ∃ i z, Tryz.prog.info? 110 = some i ∧ i.zero = some z ∧ i.size = 2 ∧ i.bytes = 32 ∧ z.cells.size = 2 := by
  have h : (Tryz.prog.info? 110).map (fun i => (i.zero.map (·.cells.size), i.size, i.bytes)) = some (some 2, 2, 32) := by kernel_rfl
  cases hi : Tryz.prog.info? 110 with
  | none => rw [hi] at h; cases h
  | some i =>
    rw [hi] at h
    simp only [Option.map_some, Option.some.injEq, Prod.mk.injEq] at h
    obtain ⟨h1, h2, h3⟩ := h
    cases hz : i.zero with
    | none => rw [hz] at h1; cases h1
    | some z => exact ⟨i, z, rfl, hz, h2, h3, by rw [hz] at h1; simpa using h1⟩
section
variable {α : Type} {k : Nat} {R : Reads α} {t : TypeId} {w0 w1 w w' : World} {base : Nat} {F G : Nat → Prop} {v : Value} {l : List α}
/-- The elements are read elsewhere. -/
theorem OwnW.congr (h : OwnW k R t w0 w base F v l) (hr : ∀ c x, R w0 F c x → R w1 G c x) : OwnW k R t w1 w base G v l := by
  obtain ⟨cs, h1, h2, h3, h4⟩ := h
  exact ⟨cs, h1, h2, h3, fun i c x hc hx => hr c x (h4 i c x hc hx)⟩
/-- The row stands where it stood, or grew elsewhere. -/
theorem OwnW.kept (h : OwnW k R t w0 w base F v l) {row : Option Nat} (hg : w.grownBy w' row) (hr : ∀ b, row = some b → b < base) : OwnW k R t w0 w' base F v l := by
  obtain ⟨cs, h1, h2, ⟨h3, h5⟩, h4⟩ := h
  refine ⟨cs, h1, h2, ⟨h3, ?_⟩, h4⟩
  rcases h5 with h5 | ⟨g, cap, cur, e, hb, hgr, r⟩
  · exact .inl h5
  · exact .inr ⟨g, cap, cur, e, hb, (hg.block g (Array.getElem?_eq_some_iff.1 hgr).1 (fun e2 => by have := hr g e2.symm; omega)).trans hgr, r⟩
theorem OwnW.save (h : OwnW k R t w0 w base F v l) {g : Nat} (hs : Save g w w') (hb : g < base) : OwnW k R t w0 w' base F v l := by
  obtain ⟨cs, h1, h2, ⟨h3, h5⟩, h4⟩ := h
  refine ⟨cs, h1, h2, ⟨h3, ?_⟩, h4⟩
  rcases h5 with h5 | ⟨g', cap, cur, e, hb', hgr, r⟩
  · exact .inl h5
  · exact .inr ⟨g', cap, cur, e, hb', (hs.blk g' t cur (Blk.mk hgr) (by omega)).eq, r⟩
theorem OwnW.nil (k : Nat) (R : Reads α) (t : TypeId) (w0 w : World) (base : Nat) (F : Nat → Prop) : OwnW k R t w0 w base F (.slice none 0 0) [] :=
  ⟨[], rfl, by simp, World.ownsRow_nil _ _ _ _, fun i c x h => by simp at h⟩
/-- What an owned row's block is. -/
theorem OwnW.block (h : OwnW k R t w0 w base F v l) {g : Nat} (e : v.ownBlock = some g) : base ≤ g ∧ ∃ cs, Blk w g t cs := by
  obtain ⟨cs, h1, h2, ⟨h3, ⟨rfl, h0⟩ | ⟨g', cap, cur, rfl, hb, hgr, r⟩⟩, h4⟩ := h
  · simp [Value.ownBlock] at e
  · obtain rfl : g' = g := by simpa [Value.ownBlock] using e
    exact ⟨hb, cur, Blk.mk hgr⟩
theorem OwnW.slice (h : OwnW k R t w0 w base F v l) : ∃ A c, v = .slice A l.length c ∧ l.length ≤ c ∧ ∀ b o, A = some ⟨b, o, none⟩ → v.ownBlock = some b ∧ o = 0 := by
  obtain ⟨cs, h1, h2, ⟨h3, ⟨rfl, h0⟩ | ⟨g', cap, cur, rfl, hb, hgr, hn, r⟩⟩, h4⟩ := h
  · exact ⟨none, 0, by rw [h0], by omega, fun b o e => by cases e⟩
  · exact ⟨some ⟨g', 0, none⟩, cap, rfl, hn, fun b o e => by cases e; exact ⟨rfl, rfl⟩⟩
/-- Keep3 over a growth of a row. -/
theorem OwnW.keep3 (h : OwnW k R t w0 w base F v l) (hg : w.grownBy w' v.ownBlock) (ht : ¬ (t = 5 ∨ t = 4 ∨ t = 148)) : Keep3 w w' :=
  Keep3.grown hg fun b e => let ⟨_, cs, hb⟩ := h.block e; ⟨t, cs, hb, ht⟩
/-- The row as a reader sees it; its block alone is looked at. -/
theorem OwnW.read (h : OwnW k R t w0 w base F v l) (hr : ∀ c x, R w0 F c x → R w G c x) (hG : ∀ b, v.ownBlock = some b → G b) : ∃ A c, v = .slice A l.length c ∧ l.length ≤ c ∧ Sls k R w G A l := by
  obtain ⟨cs, h1, h2, ⟨h3, ⟨e, h0⟩ | ⟨g, cap, cur, e, hb, hg, hn, hc, hs, ht⟩⟩, h4⟩ := h
  · obtain rfl := List.length_eq_zero_iff.1 h0
    exact ⟨none, 0, e, Nat.le_refl _, Sls.nil k R w G⟩
  · refine ⟨_, cap, e, hn, cs, h1, h2, fun _ => ⟨g, 0, rfl, (Array.getElem?_eq_some_iff.1 hg).1, hG g (by rw [e]; rfl), fun j u hu => ?_⟩, fun i c x hc hl => hr c x (h4 i c x hc hl)⟩
    have hB : Blk w g t cur := Blk.mk hg
    have hj : j < l.length * k := by
      have := (List.getElem?_eq_some_iff.1 hu).1
      rwa [h3] at this
    rw [Nat.zero_add, hB.cell, ← hu, ← ht, List.getElem?_take_of_lt hj, Array.getElem?_toList]
end
theorem Elt.ext' {w w' : World} {F G : Nat → Prop} {c : List Value} {e : Gl.El} (h : Elt w F c e) (hx : Ext w w') : Elt w' G c e := let ⟨lit, b, m, h1, h0, h2⟩ := h; ⟨lit, b, m, h1, h0, fun p e => (h2 p e).ext hx⟩
/-- A reading of elements, or of components, while one row is turned. -/
theorem Els.turn {w w' : World} {F : Nat → Prop} {A : Option Addr} {l : List Gl.El} {row : Option Nat} (h : Els w F A l) (hg : w.grownBy w' row) (hF : ∀ b, F b → some b ≠ row) (hk : Keep3 w w') : Els w' F A l := by
  obtain ⟨cs, h1, h2, h3, h4⟩ := h
  refine ⟨cs, h1, h2, fun h0 => ?_, fun i c x hc hl => (h4 i c x hc hl).keep hk⟩
  obtain ⟨b, o, hA, hb, hFb, hr⟩ := h3 h0
  refine ⟨b, o, hA, Nat.lt_of_lt_of_le hb hg.size, hFb, fun j v hv => ?_⟩
  have := hr j v hv
  unfold World.cell? at this ⊢
  dsimp only at this ⊢
  rw [hg.block b hb (hF b hFb)]
  exact this
theorem Cpt.turn {w w' : World} {F : Nat → Prop} {c : List Value} {x : Gl.Cp} {row : Option Nat} (h : Cpt w F c x) (hg : w.grownBy w' row) (hF : ∀ b, F b → some b ≠ row) (hk : Keep3 w w') : Cpt w' F c x := by
  obtain ⟨A, n, m, h1, h2, h3, h4⟩ := h
  exact ⟨A, n, m, h1, h2, h3, Els.turn h4 hg hF hk⟩
theorem Cpt.one {w : World} {F : Nat → Prop} {c : List Value} {e : Gl.Cp} (h : Cpt w F c e) : ∀ u ∈ c, Value.oneCell' u = true := by
  obtain ⟨A, n, m, rfl, _⟩ := h
  intro u hu
  simp only [List.mem_cons, List.not_mem_nil, or_false] at hu
  rcases hu with rfl | rfl <;> rfl
/-- Keep3 where a parser goes on. -/
theorem Save.keep3 {w w' : World} {g : Nat} {t : TypeId} {cs : Array Value} (h : Save g w w') (hb : Blk w g t cs) (ht : ¬ (t = 5 ∨ t = 4 ∨ t = 148)) : Keep3 w w' := fun b t' cs' ht' hb' => by
  refine h.blk b t' cs' hb' fun e => ht ?_
  subst e
  have h0 : w.heap[b]? = some (.cells cs t (0, 0)) := hb
  have h1 : w.heap[b]? = some (.cells cs' t' (0, 0)) := hb'
  rw [h0] at h1
  cases h1
  exact ht'
/-- One struct appended, and where the row lies then. -/
theorem wpList_append_at {P : Program} {ops : Array Oper} {Q : Exit → Act → World → Prop} {α : Type} {k by_ : Nat} {R : Reads α} (ho1 : ∀ {w F c x}, R w F c x → ∀ u ∈ c, Value.oneCell' u = true) (w0 w : World) {rest : List Oper} {o : Oper} {a : Act} (hgd : o.guard = none) (s x : Operand) (t e : TypeId) (i : TypeInfo) (z : Value)
    (ho : o.op = .call { callee := .builtin .append, args := #[s, x], argTypes := #[t, t] }) (ht : P.underlying t = some (.slice e)) (hi : P.info? e = some i) (hz : i.zero = some z) (hsz : i.size = k) (hby : i.bytes = by_) (hzk : z.cells.size = k) (hk : 0 < k)
    (base : Nat) {F : Nat → Prop} (v : Value) (l : List α) (hs : a.eval s = v) (h : OwnW k R e w0 w base F v l) (b c : Nat) (cells : List Value) (y : α) (hx : a.eval x = .slice (some ⟨b, 0, none⟩) 1 c) (hr : w.rangeAt b 0 cells) (hlen : cells.length = k) (hy : R w0 F cells y)
    (hn : l.length + 1 ≤ maxLen) (hbig : (l.length + 1) * by_ ≤ 140737488355328) (hbase : base ≤ w.heap.size)
    (hK : ∀ g cap w', OwnW k R e w0 w' base F (.slice (some ⟨g, 0, none⟩) (l.length + 1) cap) (l ++ [y]) → w.grownBy w' v.ownBlock → (v.ownBlock = some g ∨ g = w.heap.size) → wpList P ops Q rest (a.put o.dst (.slice (some ⟨g, 0, none⟩) (l.length + 1) cap)) w') : wpList P ops Q (o :: rest) a w := by
  obtain ⟨cs, h1, h2, h3, h4⟩ := h
  refine wpList_append_lies w hgd s x t ho base e i z k by_ ht hi hz hsz hby hzk hk v l.length cs.flatten hs h3 ⟨b, 0, none⟩ 1 c cells hx (by rw [hlen, Nat.one_mul]) (fun j u hu => ?_) (fun u hu => ho1 hy u hu) (by omega) hn hbig hbase w.heap.size rfl (fun g cap w' hown hgrow hloc _ => ?_)
  · rw [Addr.add_mid]
    exact hr j u hu
  · refine hK g cap w' ⟨cs ++ [cells], by simp [h1], fun d hd => ?_, ?_, fun j d q hd hq => ?_⟩ hgrow hloc
    · rcases List.mem_append.1 hd with hd | hd
      · exact h2 d hd
      · obtain rfl : d = cells := by simpa using hd
        exact hlen
    · rw [List.length_append, List.flatten_append]
      simpa using hown
    · rcases Nat.lt_or_ge j cs.length with hj | hj
      · rw [List.getElem?_append_left hj] at hd
        rw [List.getElem?_append_left (by omega)] at hq
        exact h4 j d q hd hq
      · rw [List.getElem?_append_right hj] at hd
        rw [List.getElem?_append_right (by omega), ← h1] at hq
        have hj0 : j - cs.length = 0 := by
          have := (List.getElem?_eq_some_iff.1 hd).1
          simpa using this
        rw [hj0] at hd hq
        obtain rfl : cells = d := by simpa using hd
        obtain rfl : y = q := by simpa using hq
        exact hy


end Go.Proofs.YtnjcifppkijanaaGreatDoor
namespace Go.Proofs.YtnjcifppkijanaaGreatDoor
open Go Go.RowKit

/-- What parse hands back. -/
def ParseR (g : ByteArray) (w : World) (e : Ending) (w' : World) : Prop :=
  ∃ A n c, e = .returned (.tuple #[.slice A n c, .int .i64 (Ig.gcheck g.data.toList)]) ∧ Ext w w' ∧
    (Ig.gcheck g.data.toList = 0 → ∃ l, Gl.comps (Ig.cut 47 g.data.toList) = some l ∧ l.length = n ∧ n ≤ c ∧ n ≤ 201 ∧ (∀ x ∈ l, (x.getD []).length ≤ 200) ∧ Cps w' All A l)
namespace Gl
theorem comps_app : ∀ (a b : List (List UInt8)), comps (a ++ b) = (comps a).bind fun l => (comps b).map (l ++ ·)
  | [], b => by cases h : comps b <;> simp [comps, h]
  | s :: a, b => by
    show (match comp s with | none => none | some c => (comps (a ++ b)).map (c :: ·)) = _
    rw [comps_app a b]
    show _ = (match comp s with | none => none | some c => (comps a).map (c :: ·)).bind _
    cases comp s with
    | none => rfl
    | some c =>
      cases comps a with
      | none => rfl
      | some l => cases comps b <;> rfl
theorem comps_snoc {a : List (List UInt8)} {s : List UInt8} {l : List Cp} (h : comps a = some l) : comps (a ++ [s]) = (comp s).map fun c => l ++ [c] := by
  rw [comps_app, h]
  show (comps [s]).map _ = _
  unfold comps
  cases comp s <;> rfl
theorem comps_bad {cs : List (List UInt8)} {k : Nat} {s : List UInt8} (h : cs[k]? = some s) (hs : comp s = none) : comps cs = none := by
  have h1 : cs = cs.take k ++ (s :: cs.drop (k + 1)) := by
    obtain ⟨h2, h3⟩ := List.getElem?_eq_some_iff.1 h
    rw [← h3, ← List.drop_eq_getElem_cons h2, List.take_append_drop]
  rw [h1, comps_app]
  have h4 : comps (s :: cs.drop (k + 1)) = none := by unfold comps; rw [hs]
  rw [h4]
  cases comps (cs.take k) <;> rfl
theorem comp_stars : comp [42, 42] = some none := rfl
theorem comp_other {s : List UInt8} (h0 : s ≠ []) (h1 : s ≠ [42, 42]) : comp s = (elems s.length s).map some := by
  unfold comp
  rw [if_neg h0, if_neg h1]
theorem elems_cons {n : Nat} {s r : List UInt8} {e : El} (h : one s = some (e, r)) (hn : s.length ≤ n) : ∃ m, r.length ≤ m ∧ elems n s = (elems m r).map (e :: ·) := by
  have h1 := one_lt h
  cases n with
  | zero => omega
  | succ n =>
    cases s with
    | nil => cases h
    | cons c s =>
      refine ⟨n, by omega, ?_⟩
      show (match one (c :: s) with | none => none | some (e, r) => (elems n r).map (e :: ·)) = _
      rw [h]
theorem elems_bad {n : Nat} {s : List UInt8} (h : one s = none) (h0 : s ≠ []) : elems n s = none := by
  cases s with
  | nil => exact (h0 rfl).elim
  | cons c s =>
    cases n with
    | zero => rfl
    | succ n =>
      show (match one (c :: s) with | none => none | some (e, r) => (elems n r).map (e :: ·)) = _
      rw [h]
theorem elems_le : ∀ {n : Nat} {s : List UInt8} {l : List El}, elems n s = some l → l.length ≤ s.length
  | n, [], l, h => by
    cases n <;> (cases h; exact Nat.le_refl _)
  | 0, c :: s, l, h => by cases h
  | n + 1, c :: s, l, h => by
    have h2 : (match one (c :: s) with | none => none | some (e, r) => (elems n r).map (e :: ·)) = some l := h
    cases ho : one (c :: s) with
    | none => rw [ho] at h2; cases h2
    | some z =>
      obtain ⟨e, r⟩ := z
      rw [ho] at h2
      dsimp only at h2
      cases he : elems n r with
      | none => rw [he] at h2; cases h2
      | some l2 =>
        rw [he] at h2
        obtain rfl := Option.some.inj h2
        have h3 := elems_le he
        have h4 := one_lt ho
        simp only [List.length_cons] at h4 ⊢
        omega
end Gl
theorem take_snoc {α : Type} {l : List α} {k : Nat} {x : α} (h : l[k]? = some x) : l.take (k + 1) = l.take k ++ [x] := by
  rw [List.take_add_one, h]
  rfl
theorem toList_nil_iff (s : ByteArray) : s.toList.isEmpty = true ↔ s.data.toList = [] := by rw [ByteArray.toList_eq, List.isEmpty_iff]
theorem toList_beq (s : ByteArray) (l : List UInt8) : (s.toList == l) = true ↔ s.data.toList = l := by rw [ByteArray.toList_eq, beq_iff_eq]
/-- A component being read. -/
structure ComI (w0 : World) (s : ByteArray) (any : Bool) (i : Nat) (es : List Gl.El) (v : Value) (W : World) : Prop where
  prs : Prs W (w0.heap.size + 1) s i
  box : Blk W w0.heap.size 110 #[.bool any, v]
  ext : Ext w0 W
  own : OwnW 4 Elt 116 W W (w0.heap.size + 1 + 1) All v es
  room : w0.heap.size + 1 + 1 ≤ W.heap.size
  le : i ≤ s.size
  read : (any = true → es = []) ∧ (any = false → es.length ≤ i ∧ ∃ m, (s.data.toList.drop i).length ≤ m ∧ Gl.elems s.size s.data.toList = (Gl.elems m (s.data.toList.drop i)).map (es ++ ·))
/-- Between two rounds of parse. -/
structure ParI (w1 : World) (cs : List (List UInt8)) (k : Nat) (v : Value) (l : List Gl.Cp) (W : World) : Prop where
  read : Gl.comps (cs.take k) = some l
  len : l.length = k
  small : ∀ x ∈ l, (x.getD []).length ≤ 200
  ext : Ext w1 W
  own : OwnW 2 Cpt 110 W W w1.heap.size (fun b => some b ≠ v.ownBlock) v l
/-- The parser goes on. -/
theorem ComI.one {w0 W w3 : World} {s : ByteArray} {any : Bool} {i : Nat} {es : List Gl.El} {v : Value} (h : ComI w0 s any i es v W) (hs : Save (w0.heap.size + 1) W w3) :
    Blk w3 w0.heap.size 110 #[.bool any, v] ∧ Ext w0 w3 ∧ OwnW 4 Elt 116 w3 w3 (w0.heap.size + 1 + 1) All v es ∧ w0.heap.size + 1 + 1 ≤ w3.heap.size := by
  have hk := Save.keep3 hs h.prs (by decide)
  exact ⟨hs.blk _ _ _ h.box (by omega), hs.ext _ h.ext (by omega), (h.own.save hs (by omega)).congr fun c x hx => hx.keep hk, Nat.le_trans h.room hs.size⟩
/-- An element has been appended. -/
theorem ComI.next {w0 w3 W5 w6 : World} {s : ByteArray} {i j : Nat} {es : List Gl.El} {v : Value} {el : Gl.El} {g cap : Nat} (hp : Prs w3 (w0.heap.size + 1) s j) (hb : Blk w3 w0.heap.size 110 #[.bool false, v]) (hx : Ext w0 w3) (hr : w0.heap.size + 1 + 1 ≤ w3.heap.size)
    (h5 : Ext w3 W5) (hv : OwnW 4 Elt 116 w3 W5 (w0.heap.size + 1 + 1) All v es) (hown : OwnW 4 Elt 116 w3 w6 (w0.heap.size + 1 + 1) All (.slice (some ⟨g, 0, none⟩) (es.length + 1) cap) (es ++ [el])) (hg : W5.grownBy w6 v.ownBlock)
    (hj : j ≤ s.size) (hij : i < j) (hes : es.length ≤ i) (hread : ∃ m, (s.data.toList.drop j).length ≤ m ∧ Gl.elems s.size s.data.toList = (Gl.elems m (s.data.toList.drop j)).map ((es ++ [el]) ++ ·)) :
    Blk w6 w0.heap.size 110 #[.bool false, v] ∧ ComI w0 s false j (es ++ [el]) (.slice (some ⟨g, 0, none⟩) (es.length + 1) cap) (w6.setCell ⟨w0.heap.size, 1, none⟩ (.slice (some ⟨g, 0, none⟩) (es.length + 1) cap)) := by
  have hne : ∀ b, v.ownBlock = some b → w0.heap.size + 1 + 1 ≤ b := fun b e => (hv.block e).1
  have hb6 : Blk w6 w0.heap.size 110 #[.bool false, v] := Blk.mk ((hg.block _ (Blk.ext h5 hb).lt (fun e => by have := hne _ e.symm; omega)).trans (Blk.ext h5 hb).eq)
  have hp6 : Prs w6 (w0.heap.size + 1) s j := Blk.mk ((hg.block _ (Blk.ext h5 hp).lt (fun e => by have := hne _ e.symm; omega)).trans (Blk.ext h5 hp).eq)
  have hx6 : Ext w0 w6 := Below.grown (hx.trans h5) hg (Nat.le_trans hx.size_le h5.size_le) (fun b e => by have := hne b e; omega)
  have hk : Keep3 w3 (w6.setCell ⟨w0.heap.size, 1, none⟩ (.slice (some ⟨g, 0, none⟩) (es.length + 1) cap)) := ((Keep3.of_ext h5).trans (hv.keep3 hg (by decide))).trans (Keep3.set hb6 (by decide) _ _)
  refine ⟨hb6, Blk.far (p := ⟨w0.heap.size, 1, none⟩) hp6 (by show w0.heap.size + 1 ≠ w0.heap.size; omega) _, Blk.convG (hb6.set_ 1 _) (by simp), Ext.setCell (p := ⟨w0.heap.size, 1, none⟩) hx6 (Nat.le_refl _) _,
    (hown.save (Save.cell w0.heap.size w6 1 _) (by omega)).congr fun c x h => h.keep hk, ?_, hj, (fun h => by cases h), fun _ => ⟨(by rw [List.length_append]; simp only [List.length_cons, List.length_nil]; omega), hread⟩⟩
  have := hg.size
  have := h5.size_le
  simp only [World.size_setCell]
  omega
/-- What the append of a component is given. -/
theorem ParI.arg {w1 wo W : World} {cs : List (List UInt8)} {k : Nat} {v : Value} {l : List Gl.Cp} {s : ByteArray} {any : Bool} {i : Nat} {es : List Gl.El} {A : Option Addr} {c : Nat} {x : Gl.Cp} (h : ParI w1 cs k v l wo) (hc : ComI wo s any i es (.slice A es.length c) W) (hcc : es.length ≤ c)
    (hx : x.isNone = any) (hxe : x.getD [] = es) (o : Obj) :
    OwnW 2 Cpt 110 (W.alloc o) (W.alloc o) w1.heap.size (fun b => some b ≠ v.ownBlock ∧ b < (W.alloc o).heap.size) v l ∧ Cpt (W.alloc o) (fun b => some b ≠ v.ownBlock ∧ b < (W.alloc o).heap.size) [.bool any, .slice A es.length c] x := by
  have hxx : Ext wo (W.alloc o) := hc.ext.alloc o
  constructor
  · refine (h.own.ext hxx).congr fun c y hy => ?_
    have h1 := Cpt.steadfast.below (Cpt.steadfast.ext hy hxx)
    exact h1
  · have ho := (hc.own.ext ((Ext.refl W).alloc o))
    have hlt : ∀ b, v.ownBlock = some b → b < wo.heap.size := fun b e => let ⟨_, cs', hb⟩ := h.own.block e; hb.lt
    obtain ⟨A', c', e, hc', hs⟩ := ho.read (G := fun b => some b ≠ v.ownBlock ∧ b < (W.alloc o).heap.size) (fun c y hy => hy.ext' ((Ext.refl W).alloc o)) fun b e => by
      obtain ⟨h1, cs', hb⟩ := ho.block e
      exact ⟨fun e2 => by have := hlt b e2.symm; omega, hb.lt⟩
    simp only [Value.slice.injEq, true_and] at e
    obtain ⟨rfl, rfl⟩ := e
    exact ⟨A, es.length, c, by rw [hx], by rw [hxe], hcc, by rw [hxe]; exact hs⟩
/-- A component has been appended. -/
theorem ParI.next {w1 wo W w7 : World} {cs : List (List UInt8)} {k : Nat} {v : Value} {l : List Gl.Cp} {s : ByteArray} {any : Bool} {i : Nat} {es : List Gl.El} {v2 : Value} {x : Gl.Cp} {o : Obj} {g cap : Nat} (h : ParI w1 cs k v l wo) (hc : ComI wo s any i es v2 W)
    (hk : cs[k]? = some s.data.toList) (hx : Gl.comp s.data.toList = some x) (hsm : (x.getD []).length ≤ 200)
    (hv : OwnW 2 Cpt 110 (W.alloc o) (W.alloc o) w1.heap.size (fun b => some b ≠ v.ownBlock ∧ b < (W.alloc o).heap.size) v l)
    (hown : OwnW 2 Cpt 110 (W.alloc o) w7 w1.heap.size (fun b => some b ≠ v.ownBlock ∧ b < (W.alloc o).heap.size) (.slice (some ⟨g, 0, none⟩) (l.length + 1) cap) (l ++ [x])) (hg : (W.alloc o).grownBy w7 v.ownBlock)
    (hloc : v.ownBlock = some g ∨ g = (W.alloc o).heap.size) : ParI w1 cs (k + 1) (.slice (some ⟨g, 0, none⟩) (l.length + 1) cap) (l ++ [x]) w7 := by
  refine ⟨by rw [take_snoc hk, Gl.comps_snoc h.read, hx]; rfl, by rw [List.length_append, h.len]; rfl, fun y hy => ?_, Below.grown (h.ext.trans (hc.ext.alloc o)) hg ((h.ext.trans (hc.ext.alloc o)).size_le) (fun b e => (hv.block e).1), hown.congr fun c y hy => ?_⟩
  · rcases List.mem_append.1 hy with hy | hy
    · exact h.small y hy
    · obtain rfl := List.mem_singleton.1 hy
      exact hsm
  · refine Cpt.steadfast.mono (Cpt.turn hy hg (fun b hb => hb.1) (hv.keep3 hg (by decide))) fun b hb e => ?_
    have e2 : b = g := by simpa [Value.ownBlock] using e
    subst e2
    rcases hloc with h1 | h1
    · exact hb.1 h1.symm
    · have := hb.2
      omega
theorem cell_lt {w : World} {b o : Nat} {v : Value} (h : w.cell? ⟨b, o, none⟩ = some v) : b < w.heap.size := by
  unfold World.cell? at h
  cases hh : w.heap[b]? with
  | none => simp [hh] at h
  | some x => exact (Array.getElem?_eq_some_iff.1 hh).1
set_option maxHeartbeats 8000000 in
set_option maxRecDepth 100000 in
theorem parse_any (g : ByteArray) (w : World) (hgl : Glob w) : Calls Tryz.prog 70 #[.string g] w (ParseR g w) := by
  by_cases hs : 200 < g.size
  · have hv : Ig.gcheck g.data.toList = 4 := by unfold Ig.gcheck; exact if_pos hs
    unfold ParseR
    rw [hv]
    have hx := Ext.refl w
    have hsb : (200 : Int) < (g.size : Int) := by omega
    clear hv
    go_enter Tryz.func70, Tryz.ntmps70
    go_wp2_with fail
    go_ret2
    exact ⟨none, 0, 0, rfl, hx, fun h => by cases h⟩
  have hs2 : g.size ≤ 200 := by omega
  have hsb : ¬ ((200 : Int) < (g.size : Int)) := by omega
  have HV : Hid (Ig.gcheck g.data.toList = if (Gl.comps (Ig.cut 47 g.data.toList)).isSome then 0 else 3) := Lib.hid (by unfold Ig.gcheck; exact if_neg (by show ¬ 200 < g.size; omega))
  have HPC : Hid (pieces g = (Ig.cut 47 g.data.toList).map Ig.bs) := Lib.hid (Ig.pieces_cut g.size g (Nat.le_refl _))
  have hx := Ext.refl w
  clear hs
  go_enter Tryz.func70, Tryz.ntmps70
  go_wp2_with (go_at_call 91; refine (split_path _ _ (by omega) hgl).mono ?_; rintro e w1 ⟨n, hn, hn2, rfl, hx1, hcl⟩; have HNN := Lib.hid hn; clear hn; replace hx := hx1)
  have HCL := Lib.hid hcl
  have HN : Hid (n = (Ig.cut 47 g.data.toList).length) := Lib.hid (by rw [HNN.out, HPC.out, List.length_map])
  have HX1 := Lib.hid hx
  have hwl : w.heap.size < w1.heap.size := by have := hcl 0 (by rw [HNN.out, HPC.out, List.length_map, Ig.cut_length]; omega); exact cell_lt this
  clear hcl HNN hx hgl hx1
  go_loopw [17, 4] (fun u v wr => ∃ (k : Nat) (l : List Gl.Cp), u = .int .i64 k ∧ k ≤ n ∧ Hid (ParI w1 (Ig.cut 47 g.data.toList) k v l wr)) (fun u _ wr => n - (intOf u).toNat)
  case atStart => exact ⟨0, [], rfl, Nat.zero_le _, Lib.hid ⟨rfl, rfl, by simp, Ext.refl _, OwnW.nil ..⟩⟩
  case round =>
    rename World => wo
    obtain ⟨k, l, rfl, hk, HI⟩ := hrel
    by_cases hlt : k < n
    · have hkl : k < (Ig.cut 47 g.data.toList).length := by rw [← HN.out]; exact hlt
      have e0 : (Ig.cut 47 g.data.toList)[k]? = some (Ig.cut 47 g.data.toList)[k] := List.getElem?_eq_getElem _
      have c0 := (HI.out.ext.cell (p := ⟨w.heap.size, k, none⟩) hwl).trans (HCL.out k hlt)
      have e1 : (pieces g).getD k ByteArray.empty = Ig.bs (Ig.cut 47 g.data.toList)[k] := by rw [HPC.out]; simp [List.getD, e0]
      rw [e1] at c0
      have hsz : (Ig.bs (Ig.cut 47 g.data.toList)[k]).size ≤ 200 := by
        have h1 := pieces_small ⟨#[47]⟩ (by decide) (Lib.countB g ⟨#[47]⟩) g (Ig.bs (Ig.cut 47 g.data.toList)[k]) (by show _ ∈ pieces g; rw [HPC.out]; exact List.mem_map_of_mem (List.getElem_mem hkl))
        omega
      have HE0 := Lib.hid e0
      clear e0 e1
      generalize (Ig.cut 47 g.data.toList)[k] = x at c0 hsz HE0
      clear hkl
      obtain ⟨s, hs⟩ : ∃ s, s = Ig.bs x := ⟨_, rfl⟩
      have hxs : x = s.data.toList := by rw [hs]; rfl
      subst hxs
      rw [← hs] at c0 hsz
      clear hs
      by_cases hem : s.data.toList = []
      · have h1 : s.toList.isEmpty = true := (toList_nil_iff s).2 hem
        have hv : Ig.gcheck g.data.toList = 3 := by rw [HV.out, Gl.comps_bad HE0.out (by rw [hem]; rfl)]; rfl
        have HXX : Hid (Ext w wo) := Lib.hid (HX1.out.trans HI.out.ext)
        clear HI HV HPC HE0
        unfold ParseR
        rw [hv]
        go_wp2_with fail
        go_ret2
        exact ⟨none, 0, 0, rfl, HXX.out, fun h => by cases h⟩
      have h1 : s.toList.isEmpty = false := by
        cases h : s.toList.isEmpty
        · rfl
        · exact (hem ((toList_nil_iff s).1 h)).elim
      obtain ⟨any, hany⟩ : ∃ b, (s.toList == [42, 42]) = b := ⟨_, rfl⟩
      have HAN : Hid (any = true ↔ s.data.toList = [42, 42]) := Lib.hid (by rw [← hany]; exact toList_beq s _)
      go_wp2_with fail
      have HC0 : Hid (ComI wo s any 0 [] (.slice none 0 0) ((wo.alloc (.cells #[.bool any, .slice none 0 0] 110)).alloc (.cells #[.string s, .int .i64 0] 113))) := Lib.hid
        ⟨Blk.new' (by simp), Blk.alloc (Blk.new' rfl) _, ((Ext.refl wo).alloc _).alloc _, OwnW.nil .., by simp, Nat.zero_le _, fun _ => rfl, fun _ => ⟨Nat.le_refl _, s.size, Nat.le_refl _, by rw [List.drop_zero]; cases Gl.elems s.size s.data.toList <;> rfl⟩⟩
      clear hany c0
      obtain ⟨i1, z1, hi1, hz1, hs1, hby1, hzk1⟩ := coInfo
      have HI1 := Lib.hid hi1
      have HZ1 := Lib.hid hz1
      clear hi1 hz1
      obtain ⟨i0, z0, hi0, hz0, hs0, hby0, hzk0⟩ := elInfo
      have HII := Lib.hid hi0
      have HZZ := Lib.hid hz0
      clear hi0 hz0
      go_loopw [10] (fun _ wq => ∃ (i : Nat) (es : List Gl.El) (v : Value), Hid (ComI wo s any i es v wq)) (fun _ wq => s.size - prsAt (wo.heap.size + 1) wq)
      case atStart => exact ⟨0, [], _, HC0⟩
      case round =>
        clear HC0
        obtain ⟨i, es, v, HC⟩ := hrel
        have HMS := Lib.hid (prsAt_eq HC.out.prs)
        obtain ⟨hcp, hfp, hlp⟩ := HC.out.prs.all
        obtain ⟨hcb, hfb, hlb⟩ := HC.out.box.all
        have hile := HC.out.le
        by_cases hgo : i < s.size
        · have hgb : (i : Int) < (s.size : Int) := by omega
          cases any with
          | true =>
            have hes := HC.out.read.1 rfl
            subst hes
            have HCP : Hid (Gl.comp s.data.toList = some none) := Lib.hid (by rw [HAN.out.1 rfl]; exact Gl.comp_stars)
            have hsm : (Option.getD (none : Gl.Cp) []).length ≤ 200 := by simp
            obtain ⟨A, cc, hvv, hcc, _⟩ := HC.out.own.slice
            subst hvv
            have harg := HI.out.arg (x := none) HC.out hcc rfl rfl (.cells #[.bool true, .slice A ([] : List Gl.El).length cc] 110)
            have HO := Lib.hid harg.1
            have HY := Lib.hid harg.2
            have HLL := Lib.hid HI.out.len
            have hbs : w1.heap.size ≤ (wr.alloc (.cells #[.bool true, .slice A ([] : List Gl.El).length cc] 110)).heap.size := ((HI.out.ext.trans HC.out.ext).alloc _).size_le
            clear harg hcc
            go_wp2_with (at_builtin; refine wpList_append_at (R := Cpt) (fun h => Cpt.one h) (wr.alloc (.cells #[.bool true, .slice A ([] : List Gl.El).length cc] 110)) _ rfl _ _ 83 110 i1 z1 rfl Tryz.underlying83 HI1.out HZ1.out hs1 hby1 hzk1 (by decide) w1.heap.size u4 l rfl HO.out wr.heap.size 1 [.bool true, .slice A ([] : List Gl.El).length cc] (none) rfl ((Blk.new' rfl).range 0 _ (fun j _ => by simp)) rfl HY.out (by have := HLL.out; unfold maxLen; omega) (by have := HLL.out; omega) hbs ?_; intro gg cap w7 hown hgrow hloc; have HP7 := Lib.hid (HI.out.next HC.out HE0.out HCP.out hsm HO.out hown hgrow hloc); clear hown hgrow hloc)
            go_roundw
            case rel => exact ⟨k + 1, l ++ [none], rfl, hlt, HP7⟩
            case measure => simp [intOf]; omega
          | false =>
            clear hlb hfb
            go_wp2_with fail
            refine (one_any (wo.heap.size + 1) s i wr HC.out.prs hgo (by omega)).mono ?_
            rintro e w3 ⟨cs4, ok, j, rfl, ⟨x, y, b, m, rfl, hm⟩, hij, hjs, hsv, hp3, hv⟩
            obtain ⟨hb3, hx3, ho3, hr3⟩ := HC.out.one hsv
            obtain ⟨hesl, m0, hm1, hm2⟩ := HC.out.read.2 rfl
            obtain ⟨A, cc, hvv, hcc, _⟩ := ho3.slice
            subst hvv
            have HO3 := Lib.hid ho3
            have HX3 := Lib.hid hx3
            have HB3 := Lib.hid hb3
            have HP3 := Lib.hid hp3
            obtain ⟨hcb, hfb, hlb⟩ := hb3.all
            cases ok with
            | false =>
              have hno : Gl.comp s.data.toList = none := by
                rw [Gl.comp_other hem (fun h => by have := HAN.out.2 h; cases this), show s.data.toList.length = s.size from rfl, hm2, Gl.elems_bad (show Gl.one (s.data.toList.drop i) = none from hv) (by rw [drop_get hgo]; simp)]
                rfl
              have hvv : Ig.gcheck g.data.toList = 3 := by rw [HV.out, Gl.comps_bad HE0.out hno]; rfl
              have HXX : Hid (Ext w w3) := Lib.hid (HX1.out.trans (HI.out.ext.trans hx3))
              clear HI HV HPC HE0 hno HC ho3 hx3 hb3 hp3 hsv hv hm1 hm2 HMS HAN HO3 HX3 HB3 HP3 HCL HN
              rcases hm with rfl | ⟨fn, f, cp, rfl⟩
              all_goals
                go_wp2_with fail
                go_ret2
                exact ⟨none, 0, 0, by rw [hvv]; rfl, (HXX.out.alloc _), fun h => by rw [hvv] at h; cases h⟩
            | true =>
              obtain ⟨el, hone, hel⟩ := hv
              have hij2 : i < j := by have h7 := Gl.one_lt hone; rw [List.length_drop, List.length_drop] at h7; have h8 : s.data.toList.length = s.size := rfl; omega
              have HJJ := Lib.hid hij2
              have HEL := Lib.hid hel
              have HRD : Hid (∃ m, (s.data.toList.drop j).length ≤ m ∧ Gl.elems s.size s.data.toList = (Gl.elems m (s.data.toList.drop j)).map ((es ++ [el]) ++ ·)) := Lib.hid (by
                obtain ⟨m2, h7, h8⟩ := Gl.elems_cons hone hm1
                refine ⟨m2, h7, ?_⟩
                rw [hm2, h8]
                cases Gl.elems m2 (s.data.toList.drop j) <;> simp)
              clear HC ho3 hx3 hb3 hp3 hsv hm1 hm2 hone hel hcp hfp hlp
              rcases hm with rfl | ⟨fn, f, cp, rfl⟩
              focus
                go_wp2_with (at_builtin; refine wpList_append_at (R := Elt) (fun h => Elt.one h) w3 _ rfl _ _ 108 116 i0 z0 rfl Tryz.underlying108 HII.out HZZ.out hs0 hby0 hzk0 (by decide) (wo.heap.size + 1 + 1) (.slice A es.length cc) es rfl (HO3.out.ext (((Ext.refl w3).alloc _).alloc _)) (w3.heap.size + 1) 1 [.bool x, .bool y, .int .u8 b.toNat, .nilFunc] el rfl ((Blk.new' (by simp)).range 0 _ (fun j _ => by simp)) rfl HEL.out (by unfold maxLen; omega) (by omega) (by simp; omega) ?_; intro gg cap w6 hown hgrow hloc; have hnx := ComI.next HP3.out HB3.out HX3.out hr3 (((Ext.refl w3).alloc _).alloc _) (HO3.out.ext (((Ext.refl w3).alloc _).alloc _)) hown hgrow hjs HJJ.out hesl HRD.out; have HB6 := Lib.hid hnx.1; have HC6 := Lib.hid hnx.2; clear hown hgrow hloc hnx hcb hfb hlb; obtain ⟨hcb, hfb, hlb⟩ := HB6.out.all)
                have hms := HMS.out
                have hms2 := prsAt_eq HC6.out.prs
                have hjj := HJJ.out
                go_roundw
                case rel => exact ⟨j, _, _, HC6⟩
                case measure => rw [hms, hms2]; omega
              focus
                go_wp2_with (at_builtin; refine wpList_append_at (R := Elt) (fun h => Elt.one h) w3 _ rfl _ _ 108 116 i0 z0 rfl Tryz.underlying108 HII.out HZZ.out hs0 hby0 hzk0 (by decide) (wo.heap.size + 1 + 1) (.slice A es.length cc) es rfl (HO3.out.ext (((Ext.refl w3).alloc _).alloc _)) (w3.heap.size + 1) 1 [.bool x, .bool y, .int .u8 b.toNat, .func fn f cp] el rfl ((Blk.new' (by simp)).range 0 _ (fun j _ => by simp)) rfl HEL.out (by unfold maxLen; omega) (by omega) (by simp; omega) ?_; intro gg cap w6 hown hgrow hloc; have hnx := ComI.next HP3.out HB3.out HX3.out hr3 (((Ext.refl w3).alloc _).alloc _) (HO3.out.ext (((Ext.refl w3).alloc _).alloc _)) hown hgrow hjs HJJ.out hesl HRD.out; have HB6 := Lib.hid hnx.1; have HC6 := Lib.hid hnx.2; clear hown hgrow hloc hnx hcb hfb hlb; obtain ⟨hcb, hfb, hlb⟩ := HB6.out.all)
                have hms := HMS.out
                have hms2 := prsAt_eq HC6.out.prs
                have hjj := HJJ.out
                go_roundw
                case rel => exact ⟨j, _, _, HC6⟩
                case measure => rw [hms, hms2]; omega
        · have hgb : decide ((i : Int) < (s.size : Int)) = false := decide_eq_false (by omega)
          cases any with
          | true =>
            have hes := HC.out.read.1 rfl
            subst hes
            have HCP : Hid (Gl.comp s.data.toList = some none) := Lib.hid (by rw [HAN.out.1 rfl]; exact Gl.comp_stars)
            have hsm : (Option.getD (none : Gl.Cp) []).length ≤ 200 := by simp
            obtain ⟨A, cc, hvv, hcc, _⟩ := HC.out.own.slice
            subst hvv
            have harg := HI.out.arg (x := none) HC.out hcc rfl rfl (.cells #[.bool true, .slice A ([] : List Gl.El).length cc] 110)
            have HO := Lib.hid harg.1
            have HY := Lib.hid harg.2
            have HLL := Lib.hid HI.out.len
            have hbs : w1.heap.size ≤ (wr.alloc (.cells #[.bool true, .slice A ([] : List Gl.El).length cc] 110)).heap.size := ((HI.out.ext.trans HC.out.ext).alloc _).size_le
            clear harg hcc
            go_wp2_with (at_builtin; refine wpList_append_at (R := Cpt) (fun h => Cpt.one h) (wr.alloc (.cells #[.bool true, .slice A ([] : List Gl.El).length cc] 110)) _ rfl _ _ 83 110 i1 z1 rfl Tryz.underlying83 HI1.out HZ1.out hs1 hby1 hzk1 (by decide) w1.heap.size u4 l rfl HO.out wr.heap.size 1 [.bool true, .slice A ([] : List Gl.El).length cc] (none) rfl ((Blk.new' rfl).range 0 _ (fun j _ => by simp)) rfl HY.out (by have := HLL.out; unfold maxLen; omega) (by have := HLL.out; omega) hbs ?_; intro gg cap w7 hown hgrow hloc; have HP7 := Lib.hid (HI.out.next HC.out HE0.out HCP.out hsm HO.out hown hgrow hloc); clear hown hgrow hloc)
            go_roundw
            case rel => exact ⟨k + 1, l ++ [none], rfl, hlt, HP7⟩
            case measure => simp [intOf]; omega
          | false =>
            have hel : Gl.elems s.size s.data.toList = some es := by
              obtain ⟨_, m, hm1, hm2⟩ := HC.out.read.2 rfl
              rw [hm2, drop_end (by omega)]
              cases m <;> simp [Gl.elems]
            have HCP : Hid (Gl.comp s.data.toList = some (some es)) := Lib.hid (by rw [Gl.comp_other hem (fun h => by have := HAN.out.2 h; cases this)]; exact congrArg (Option.map some) hel)
            have hsm : (Option.getD (some es : Gl.Cp) []).length ≤ 200 := by have h5 := Gl.elems_le hel; have h6 : s.data.toList.length = s.size := rfl; show es.length ≤ 200; omega
            clear hel
            obtain ⟨A, cc, hvv, hcc, _⟩ := HC.out.own.slice
            subst hvv
            have harg := HI.out.arg (x := some es) HC.out hcc rfl rfl (.cells #[.bool false, .slice A (es : List Gl.El).length cc] 110)
            have HO := Lib.hid harg.1
            have HY := Lib.hid harg.2
            have HLL := Lib.hid HI.out.len
            have hbs : w1.heap.size ≤ (wr.alloc (.cells #[.bool false, .slice A (es : List Gl.El).length cc] 110)).heap.size := ((HI.out.ext.trans HC.out.ext).alloc _).size_le
            clear harg hcc
            go_wp2_with (at_builtin; refine wpList_append_at (R := Cpt) (fun h => Cpt.one h) (wr.alloc (.cells #[.bool false, .slice A (es : List Gl.El).length cc] 110)) _ rfl _ _ 83 110 i1 z1 rfl Tryz.underlying83 HI1.out HZ1.out hs1 hby1 hzk1 (by decide) w1.heap.size u4 l rfl HO.out wr.heap.size 1 [.bool false, .slice A (es : List Gl.El).length cc] (some es) rfl ((Blk.new' rfl).range 0 _ (fun j _ => by simp)) rfl HY.out (by have := HLL.out; unfold maxLen; omega) (by have := HLL.out; omega) hbs ?_; intro gg cap w7 hown hgrow hloc; have HP7 := Lib.hid (HI.out.next HC.out HE0.out HCP.out hsm HO.out hown hgrow hloc); clear hown hgrow hloc)
            go_roundw
            case rel => exact ⟨k + 1, l ++ [some es], rfl, hlt, HP7⟩
            case measure => simp [intOf]; omega
    · obtain rfl : k = n := by omega
      have HRR : Hid (Gl.comps (Ig.cut 47 g.data.toList) = some l) := Lib.hid (by have h5 := HI.out.read; rw [HN.out, List.take_length] at h5; exact h5)
      have hvv : Ig.gcheck g.data.toList = 0 := by rw [HV.out, HRR.out]; rfl
      have HXX : Hid (Ext w wo) := Lib.hid (HX1.out.trans HI.out.ext)
      obtain ⟨A, cc, h5, h6, h7⟩ := HI.out.own.read (G := All) (fun c x h => Cpt.steadfast.mono h fun _ _ => trivial) (fun _ _ => trivial)
      subst h5
      have HS := Lib.hid h7
      have hlen : l.length ≤ 201 := by have := HI.out.len; omega
      have HSM := Lib.hid HI.out.small
      clear HI HV HPC HCL HN
      go_wp2_with fail
      go_ret2
      exact ⟨A, l.length, cc, by rw [hvv]; rfl, HXX.out, fun _ => ⟨l, HRR.out, rfl, h6, hlen, HSM.out, HS.out⟩⟩
end Go.Proofs.YtnjcifppkijanaaGreatDoor
