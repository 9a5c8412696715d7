/- Sets of numbers kept as maps: what lies in memory, and the laws at a walk's operations. Walks: the parser of globs: plain, peek, and the closures. Rows of structs that a slice owns: appended to, stored into, read. (Printed out of XNu, XNv, XNw, XOk.) Walks: the parser of globs: classes and elements. -/
import Derived.Test.YtnjcifppkijanaaGreatDoorPA
import Derived.Test.YtnjcifppkijanaaGreatDoorBase
import Derived.Maps.RangeWalk
import Derived.Maps.OwnIn
import Derived.Maps.OwnOps
import Derived.Sort.MapsRangeIn
import Derived.Test.YtnjcifppkijanaaGreatDoorJBg
import Derived.Test.YtnjcifppkijanaaGreatDoorTd
import Derived.Deep.QuietTactic
import Derived.BigQuiet
import Derived.Test.YtnjcifppkijanaaGreatDoorNb
import Derived.Test.YtnjcifppkijanaaGreatDoorMf
import Derived.Test.YtnjcifppkijanaaGreatDoorHeld
import Derived.Deep.AppendLies
import Derived.WalkKit
import Derived.WalkLawsBesides
import Derived.WalkSpells
import Derived.Lib.Hide
set_option linter.unusedSimpArgs false
set_option linter.unusedVariables false
namespace Go.Proofs.YtnjcifppkijanaaGreatDoor
open Go Go.RowKit Go.Maps Go.WideMaps

theorem nodup_le : ∀ (M : Nat) (ks : List Nat), ks.Nodup → (∀ i ∈ ks, i < M) → ks.length ≤ M
  | 0, [], _, _ => Nat.le_refl _
  | 0, k :: r, _, h => absurd (h k (List.mem_cons_self ..)) (Nat.not_lt_zero k)
  | M + 1, ks, hn, h => by
    by_cases hm : M ∈ ks
    · have h1 := nodup_le M (ks.erase M) (hn.erase M) fun i hi => by
        have h2 := (hn.mem_erase_iff).1 hi
        have := h i h2.2
        omega
      rw [List.length_erase_of_mem hm] at h1
      omega
    · have := nodup_le M ks hn fun i hi => by
        have h2 := h i hi
        have h3 : i ≠ M := fun e => hm (e ▸ hi)
        omega
      omega
/-- A map that holds a set of numbers up to N. -/
structure NumD (D : DatU) (S : Nat → Prop) (N : Nat) : Prop where
  sets : Sets D S
  only : ∀ es, D = .map es → ∀ p ∈ es, ∃ i : Nat, p.1 = ikey i
  le : ∀ i, S i → i ≤ N
theorem NumD.empty (N : Nat) : NumD (.map []) (fun _ => False) N := ⟨Sets.empty, fun es h p hp => (by cases h; cases hp), fun i h => h.elim⟩
theorem NumD.congr {D : DatU} {S T : Nat → Prop} {N : Nat} (h : NumD D S N) (e : ∀ i, S i ↔ T i) : NumD D T N := ⟨h.sets.congr e, h.only, fun i hi => h.le i ((e i).2 hi)⟩
theorem NumD.put {D : DatU} {S : Nat → Prop} {N : Nat} (h : NumD D S N) {k : Nat} (hk : k ≤ N) : NumD (D.put (ikey k) (.lit (.bool true))) (fun i => S i ∨ i = k) N := by
  refine ⟨h.sets.put k, fun es he p hp => ?_, fun i hi => ?_⟩
  · obtain ⟨es0, rfl⟩ := h.sets.isMap
    have he2 : DataW.insert (ikey k, .lit (.bool true)) (es0.filter fun p => !p.1.sameKey (ikey k)) = es := by
      have : (DataW.map (DataW.insert (ikey k, .lit (.bool true)) (es0.filter fun p => !p.1.sameKey (ikey k))) : DatU) = .map es := he
      cases this
      rfl
    rw [← he2] at hp
    have hp := (WideShapes.insert_perm _ _).mem_iff.1 hp
    rcases List.mem_cons.1 hp with rfl | hp
    · exact ⟨k, rfl⟩
    · exact h.only es0 rfl p (List.mem_filter.1 hp).1
  · rcases hi with hi | rfl
    · exact h.le i hi
    · exact hk
theorem NumD.size {D : DatU} {S : Nat → Prop} {N : Nat} (h : NumD D S N) (ht : Tidy D) : Maps.size D ≤ N + 1 := by
  obtain ⟨es, rfl, hp⟩ := ht
  have hex : ∀ (l : List (Lit × DatU)), (∀ p ∈ l, p ∈ es) → ∃ ks : List Nat, l.map (·.1) = ks.map ikey ∧ ∀ i ∈ ks, S i := by
    intro l
    induction l with
    | nil => intro _; exact ⟨[], rfl, by simp⟩
    | cons p l ih =>
      intro hl
      obtain ⟨ks, h1, h2⟩ := ih fun q hq => hl q (List.mem_cons_of_mem _ hq)
      obtain ⟨i, hi⟩ := h.only es rfl p (hl p (List.mem_cons_self ..))
      refine ⟨i :: ks, by simp [h1, hi], fun j hj => ?_⟩
      rcases List.mem_cons.1 hj with rfl | hj
      · refine (h.sets.has j).1 ?_
        rw [has_eq, List.any_eq_true]
        exact ⟨p, hl p (List.mem_cons_self ..), by rw [hi]; simp [ikey, Lit.sameKey]⟩
      · exact h2 j hj
  obtain ⟨ks, h1, h2⟩ := hex es fun p hp => hp
  have hnd : ks.Nodup := by
    have h3 : (es.map (·.1)).Pairwise (· ≠ ·) := List.pairwise_map.2 hp
    rw [h1, List.pairwise_map] at h3
    exact h3.imp fun h4 e => h4 (by rw [e])
  have h4 := nodup_le (N + 1) ks hnd fun i hi => Nat.lt_succ_of_le (h.le i (h2 i hi))
  have h5 : es.length = ks.length := by
    have := congrArg List.length h1
    simpa using this
  rw [size_eq, h5]
  exact h4

theorem plainElem_bool_inv {P : Program} {e : TypeId} (he : P.underlying e = some .bool) {v : Value} {z : DatU × List MemPlace} (h : plainElem P e v = some z) : ∃ x, v = .bool x ∧ z = (.lit (.bool x), []) := by
  unfold plainElem at h
  rw [he] at h
  cases v <;> simp at h
  exact ⟨_, rfl, h.symm⟩
theorem ilaw : Keyed Tryz.prog 3 := int_keyed Tryz.underlying3
abbrev OwnsB (w : World) (b n : Nat) (D : DatU) : Prop := w.ownsMap Tryz.prog 3 (plainElem Tryz.prog 4) b n D
theorem OwnsB.tight {w : World} {b n : Nat} {D : DatU} (h : OwnsB w b n D) : OwnsB w b (Maps.size D) D := by
  obtain ⟨es, clock, hb, F, hs, rfl⟩ := h
  exact ⟨es, clock, hb, F, by rw [size_eq, length_sorted]; simp, rfl⟩
theorem OwnsB.ext {w w' : World} {b n : Nat} {D : DatU} (h : OwnsB w b n D) (hx : Ext w w') : OwnsB w' b n D := by
  have hl := h.lt
  obtain ⟨es, clock, hb, F, hs, hD⟩ := h
  exact ⟨es, clock, (Below.block hx b hl).trans hb, F, hs, hD⟩
/-- Block b is a map that holds just the numbers of S, all of them up to N. -/
def Num (w : World) (b N : Nat) (S : Nat → Prop) : Prop := ∃ D, OwnsB w b (N + 1) D ∧ NumD D S N
section
variable {w w' : World} {b N : Nat} {S T : Nat → Prop}
theorem Num.lt (h : Num w b N S) : b < w.heap.size := let ⟨_, h, _⟩ := h; h.lt
theorem Num.congr (h : Num w b N S) (e : ∀ i, S i ↔ T i) : Num w b N T := let ⟨D, h1, h2⟩ := h; ⟨D, h1, h2.congr e⟩
theorem Num.ext (h : Num w b N S) (hx : Ext w w') : Num w' b N S := let ⟨D, h1, h2⟩ := h; ⟨D, h1.ext hx, h2⟩
theorem Num.kept {row : Option Nat} (h : Num w b N S) (hg : w.grownBy w' row) (hne : some b ≠ row) : Num w' b N S := let ⟨D, h1, h2⟩ := h; ⟨D, World.ownsMap.kept h1 hg hne, h2⟩
theorem Num.setCell (h : Num w b N S) {a : Addr} (ha : b ≠ a.block) (u : Value) : Num (w.setCell a u) b N S := let ⟨D, h1, h2⟩ := h; ⟨D, World.ownsMap.setCell h1 ha u, h2⟩
theorem Num.le (h : Num w b N S) {i : Nat} (hi : S i) : i ≤ N := let ⟨_, _, h2⟩ := h; h2.le i hi
theorem Num.made (w : World) (N : Nat) : Num (w.alloc (.map #[] 0)) w.heap.size N (fun _ => False) :=
  ⟨.map [], (World.ownsMap_made w Tryz.prog 3 (plainElem Tryz.prog 4)).mono (Nat.zero_le _), NumD.empty N⟩
end
/-- What 'm[k] = true' does. -/
theorem Num.store {w : World} {b N k : Nat} {S : Nat → Prop} (h : Num w b N S) (hN : N < 1000000) (hk : k ≤ N) :
    ∃ w', (Instr.mapUpdate 182 (.map (some b)) (.int .i64 k) (.bool true)).run Tryz.prog w = .ok () w' ∧ Num w' b N (fun i => S i ∨ i = k) ∧ w.grownBy w' (some b) := by
  obtain ⟨D, h1, h2⟩ := h
  have hkey : keyOf Tryz.prog 3 (.int .i64 k) = some (ikey k) := keyOf_int_mk Tryz.underlying3 (WalkArith.wf_i64 (by omega))
  obtain ⟨w', hr, h3, h4⟩ := World.ownsMap.update h1 ilaw Tryz.underlying182 (by unfold maxLen; omega) hkey (plainElem_bool Tryz.underlying4 true)
  have h5 := h2.put hk
  have h6 := OwnsB.tight h3
  exact ⟨w', hr, ⟨_, h6.mono (h5.size (World.ownsMap.tidy h3 ilaw)), h5⟩, h4⟩
section
variable {w : World} {ops : Array Oper} {rest : List Oper} {o : Oper} {a : Act} {Q : Exit → Act → World → Prop}
theorem wp_put_num (hg : o.guard = none) (m x v : Operand) (hop : o.op = Op.mapUpdate 182 m x v) (b N : Nat) (S : Nat → Prop) (hm : a.eval m = .map (some b)) (h : Num w b N S) (hN : N < 1000000)
    (z : Int) (k : Nat) (hz : z = k) (hk : k ≤ N) (hx : a.eval x = .int .i64 z) (hv : a.eval v = .bool true)
    (hK : ∀ w', Num w' b N (fun i => S i ∨ i = k) → w.grownBy w' (some b) → wpList Tryz.prog ops Q rest (a.put o.dst undef) w') : wpList Tryz.prog ops Q (o :: rest) a w := by
  subst hz
  refine wpList_plain hg fun K' hK' => ?_
  obtain ⟨w', hrun, r1, r2⟩ := h.store hN hk
  unfold Oper.wp
  simp [execOp, hop, hm, hx, hv, hrun, Result.andThen]
  exact hK' _ _ (hK w' r1 r2)
theorem wpIn_put_num {F : Fence} {nF : Nat} (hg : o.guard = none) (m x v : Operand) (hop : o.op = Op.mapUpdate 182 m x v) (b N : Nat) (S : Nat → Prop) (hm : a.eval m = .map (some b)) (h : Num w b N S) (hN : N < 1000000)
    (z : Int) (k : Nat) (hz : z = k) (hk : k ≤ N) (hx : a.eval x = .int .i64 z) (hv : a.eval v = .bool true)
    (hK : ∀ w', Num w' b N (fun i => S i ∨ i = k) → w.grownBy w' (some b) → wpListIn F nF Tryz.prog ops Q rest (a.put o.dst undef) w') : wpListIn F nF Tryz.prog ops Q (o :: rest) a w := by
  subst hz
  refine wpListIn_plain hg fun K' hK' => ?_
  obtain ⟨w', hrun, r1, r2⟩ := h.store hN hk
  unfold Oper.wpIn
  refine ⟨by simp [Oper.about, hop], ?_⟩
  rw [Oper.semAt_plain F _ _ (by rw [hop]; intro c hc'; cases hc')]
  simp [execOp, hop, hm, hx, hv, hrun, Result.andThen]
  exact hK' _ _ (hK w' r1 r2)
/-- What 'm[k]' says. -/
theorem Num.look {w : World} {b N k : Nat} {S : Nat → Prop} (h : Num w b N S) (hk : k ≤ 1000000) :
    ∃ x : Bool, (Instr.lookup 182 (.map (some b)) (.int .i64 k) false).run Tryz.prog w = .ok (.bool x) w ∧ (x = true ↔ S k) := by
  obtain ⟨D, h1, h2⟩ := h
  have hkey : keyOf Tryz.prog 3 (.int .i64 k) = some (ikey k) := keyOf_int_mk Tryz.underlying3 (WalkArith.wf_i64 (by omega))
  obtain ⟨v, ps, hr, hv⟩ := World.ownsMap.lookup h1 ilaw Tryz.underlying182 (z := .bool false) (by kernel_rfl) (plainElem_bool Tryz.underlying4 false) hkey
  obtain ⟨x, rfl, e⟩ := plainElem_bool_inv Tryz.underlying4 hv
  refine ⟨x, hr, ?_⟩
  have e1 : D.atKey (ikey k) (.lit (.bool false)) = .lit (.bool x) := congrArg Prod.fst e
  rw [← h2.sets.has]
  cases hh : Maps.has D (ikey k) with
  | true =>
    rw [h2.sets.val k hh] at e1
    cases e1
    simp
  | false =>
    rw [atKey_of_not_has hh] at e1
    cases e1
    simp
theorem wp_look_num (hg : o.guard = none) (m x : Operand) (hop : o.op = Op.lookup 182 m x false) (b N : Nat) (S : Nat → Prop) (hm : a.eval m = .map (some b)) (h : Num w b N S)
    (z : Int) (k : Nat) (hz : z = k) (hk : k ≤ 1000000) (hx : a.eval x = .int .i64 z)
    (hK : ∀ c : Bool, (c = true ↔ S k) → wpList Tryz.prog ops Q rest (a.put o.dst (.bool c)) w) : wpList Tryz.prog ops Q (o :: rest) a w := by
  subst hz
  refine wpList_plain hg fun K' hK' => ?_
  obtain ⟨c, hrun, hc⟩ := h.look hk
  unfold Oper.wp
  simp [execOp, hop, hm, hx, hrun, Result.andThen]
  exact hK' _ _ (hK c hc)

/-- A range over such a map under way: what is still to come; how many. -/
def NumR (w : World) (b r N : Nat) (S left : Nat → Prop) (cnt : Nat) : Prop :=
  ∃ D lf, w.ranges Tryz.prog 3 (plainElem Tryz.prog 4) b r (N + 1) D lf cnt ∧ NumD D S N ∧ ∀ i, left i ↔ S i ∧ lf (ikey i) = true
theorem NumR.owns {w : World} {b r N cnt : Nat} {S left : Nat → Prop} (h : NumR w b r N S left cnt) : Num w b N S := let ⟨D, _, h1, h2, _⟩ := h; ⟨D, h1.owns, h2⟩
theorem NumR.eq {w : World} {b r N cnt : Nat} {S left : Nat → Prop} (h : NumR w b r N S left cnt) : w.rangeLeft b r = cnt := let ⟨_, _, h1, _⟩ := h; h1.left_eq
theorem NumR.lt {w : World} {b r N cnt : Nat} {S left : Nat → Prop} (h : NumR w b r N S left cnt) : r < w.heap.size := let ⟨_, _, h1, _⟩ := h; h1.lt
theorem NumR.kept {w w' : World} {b r N cnt : Nat} {S left : Nat → Prop} {row : Option Nat} (h : NumR w b r N S left cnt) (hg : w.grownBy w' row) (h1 : some b ≠ row) (h2 : some r ≠ row) : NumR w' b r N S left cnt :=
  let ⟨D, lf, k1, k2, k3⟩ := h; ⟨D, lf, k1.kept hg h1 h2, k2, k3⟩
theorem NumR.ext {w w' : World} {b r N cnt : Nat} {S left : Nat → Prop} (h : NumR w b r N S left cnt) (hx : Ext w w') : NumR w' b r N S left cnt := by
  have h1 := h.lt
  have h2 := h.owns.lt
  obtain ⟨D, lf, ⟨es, clock, since, seen, c0, k1, k2, k3, k4, k5, k6⟩, h3, h4⟩ := h
  exact ⟨D, lf, ⟨es, clock, since, seen, c0, (Below.block hx b h2).trans k1, k2, k3, k4, (Below.block hx r h1).trans k5, k6⟩, h3, h4⟩
theorem wp_range_num (hg : o.guard = none) (m : Operand) (hop : o.op = Op.range 182 m) (b N : Nat) (S : Nat → Prop) (hm : a.eval m = .map (some b)) (h : Num w b N S)
    (hK : ∀ w' cnt, NumR w' b w.heap.size N S S cnt → w.grownBy w' none → w'.heap.size = w.heap.size + 1 → wpList Tryz.prog ops Q rest (a.put o.dst (.pointer (some ⟨w.heap.size, 0, none⟩))) w') : wpList Tryz.prog ops Q (o :: rest) a w := by
  obtain ⟨D, h1, h2⟩ := h
  exact wpList_range_own w hg m 182 hop 3 4 ilaw Tryz.underlying182 (plainElem Tryz.prog 4) b (N + 1) D hm h1 fun w' r1 r2 r3 => hK w' _ ⟨D, _, r1, h2, fun i => by rw [h2.sets.has]; simp⟩ r2 r3
theorem wp_next_num (hg : o.guard = none) (it : Operand) (hop : o.op = Op.next it false) (b r N : Nat) (S left : Nat → Prop) (cnt : Nat) (hit : a.eval it = .pointer (some ⟨r, 0, none⟩)) (h : NumR w b r N S left cnt)
    (hDone : (∀ i, ¬ left i) → wpList Tryz.prog ops Q rest (a.put o.dst (.tuple #[.bool false])) w)
    (hMore : ∀ (i : Nat) (w' : World) (cnt' : Nat), left i → S i → NumR w' b r N S (fun j => left j ∧ j ≠ i) cnt' → cnt' < cnt → w.grownBy w' (some r) → w'.heap.size = w.heap.size →
      (Instr.entry (.pointer (some ⟨r, 0, none⟩))).run Tryz.prog w' = .ok (.tuple #[.int .i64 i, .bool true]) w' → wpList Tryz.prog ops Q rest (a.put o.dst (.tuple #[.bool true, .int .i64 i, .bool true])) w') :
    wpList Tryz.prog ops Q (o :: rest) a w := by
  obtain ⟨D, lf, h1, h2, h3⟩ := h
  refine wpList_next_ranges w hg it hop 3 ilaw (plainElem Tryz.prog 4) (Value.int .i64) Value.bool (fun key kl hk => by obtain ⟨x, e, _⟩ := keyOf_int_inv Tryz.underlying3 hk; exact ⟨x, e⟩) (fun v y hv => by obtain ⟨c, e, _⟩ := plainElem_bool_inv Tryz.underlying4 hv; exact ⟨c, e⟩) b r (N + 1) D lf cnt hit h1
    (fun _ hl => hDone fun i hi => by have := ((h3 i).1 hi).2; rw [hl] at this; cases this) ?_
  intro x c kl y w' cnt' hkey hlk hv hat hrg hlt hgr hsz hen
  obtain ⟨x', e', rfl, _⟩ := keyOf_int_inv Tryz.underlying3 hkey
  cases e'
  have hhas : Maps.has D (.int .i64 x) = true := has_true_of_atKey hat
  obtain ⟨es, rfl⟩ := h2.sets.isMap
  rw [has_eq, List.any_eq_true] at hhas
  obtain ⟨p, hp, hpk⟩ := hhas
  obtain ⟨i, hi⟩ := h2.only es rfl p hp
  rw [hi] at hpk
  have hxi : (i : Int) = x := by simpa [ikey, Lit.sameKey] using hpk
  subst hxi
  have hS : S i := (h2.sets.has i).1 (by rw [has_eq, List.any_eq_true]; exact ⟨p, hp, by rw [hi]; simp [ikey, Lit.sameKey]⟩)
  obtain ⟨c', e2, e3⟩ := plainElem_bool_inv Tryz.underlying4 hv
  cases e2
  have hc : c = true := by
    have h5 := h2.sets.val i ((h2.sets.has i).2 hS) .nil
    rw [hat .nil, e3] at h5
    cases h5
    rfl
  subst hc
  refine hMore i w' cnt' ((h3 i).2 ⟨hS, hlk⟩) hS ⟨_, _, hrg, h2, fun j => ?_⟩ hlt hgr hsz hen
  show left j ∧ j ≠ i ↔ _
  rw [h3 j]
  by_cases e : j = i
  · subst e
    simp [ikey, Lit.sameKey]
  · have : ¬ ((j : Int) = (i : Int)) := by omega
    simp [ikey, Lit.sameKey, e, this]
end
end Go.Proofs.YtnjcifppkijanaaGreatDoor
namespace Go.Proofs.YtnjcifppkijanaaGreatDoor
open Go Go.RowKit

theorem Blk.convG {w : World} {g : Nat} {t : TypeId} {cs cs' : Array Value} (h : Blk w g t cs) (e : cs = cs') : Blk w g t cs' := e ▸ h
/-- The parser's box. -/
abbrev Prs (w : World) (g : Nat) (s : ByteArray) (i : Nat) : Prop := Blk w g 113 #[.string s, .int .i64 i]
def PrsE (w : World) (g : Nat) (s : ByteArray) : Prop := ∃ z : Int, Blk w g 113 #[.string s, .int .i64 z]
theorem Prs.e {w : World} {g : Nat} {s : ByteArray} {i : Nat} (h : Prs w g s i) : PrsE w g s := ⟨_, h⟩
theorem PrsE.set {w : World} {g : Nat} {s : ByteArray} (h : PrsE w g s) (z : Int) : PrsE (w.setCell ⟨g, 1, none⟩ (.int .i64 z)) g s := let ⟨_, h⟩ := h; ⟨z, Blk.convG (Blk.set_ h 1 (.int .i64 z)) (by simp)⟩
theorem PrsE.drewN {w : World} {g : Nat} {s : ByteArray} (h : PrsE w g s) (n : Nat) : PrsE (w.drewN n) g s := let ⟨z, h⟩ := h; ⟨z, h.drewN n⟩
theorem PrsE.end {w : World} {g : Nat} {s : ByteArray} (h : PrsE w g s) {j : Nat} {z : Int} (hz : z = j) : Prs (w.setCell ⟨g, 1, none⟩ (.int .i64 z)) g s j := by
  subst hz
  obtain ⟨z, h⟩ := h
  exact Blk.convG (Blk.set_ h 1 (.int .i64 j)) (by simp)
theorem Save.drew {g : Nat} {w w' : World} (h : Save g w w') : Save g w w'.drew := h.trans (Save.of_ext (Ext.refl w').drew1)
theorem Save.drewN {g : Nat} {w w' : World} (h : Save g w w') (n : Nat) : Save g w (w'.drewN n) := h.trans (Save.of_ext ((Ext.refl w').drewN n))
theorem Save.ext' {g : Nat} {w w' w2 : World} (h : Save g w w') (hx : Ext w' w2) : Save g w w2 := h.trans (Save.of_ext hx)
theorem drop_get {s : ByteArray} {i : Nat} (h : i < s.size) : s.data.toList.drop i = s[i] :: s.data.toList.drop (i + 1) := by
  have h1 : i < s.data.toList.length := h
  rw [List.drop_eq_getElem_cons h1]
  rfl
theorem drop_end {s : ByteArray} {i : Nat} (h : s.size ≤ i) : s.data.toList.drop i = [] := List.drop_eq_nil_iff.2 h
theorem byte_ne {c : UInt8} {n : Nat} (hn : n < 256) (h : c ≠ UInt8.ofNat n) : ((c.toNat : Int) == (n : Int)) = false := by
  refine beq_eq_false_iff_ne.2 fun e => h ?_
  have : c.toNat = n := by omega
  rw [← this]
  simp
theorem byte_is {c : UInt8} {n : Nat} (h : ((c.toNat : Int) == (n : Int)) = true) : c = UInt8.ofNat n := by
  have h1 : (c.toNat : Int) = (n : Int) := by simpa using h
  have : c.toNat = n := by omega
  rw [← this]
  simp
/-- What plain hands back. -/
def PlainR (g : Nat) (s : ByteArray) (i : Nat) (w : World) (e : Ending) (w' : World) : Prop :=
  ∃ (c : UInt8) (ok : Bool) (j : Nat), e = .returned (.tuple #[.int .u8 c.toNat, .bool ok]) ∧ i ≤ j ∧ j ≤ s.size ∧ Save g w w' ∧ Prs w' g s j ∧ Gl.plain (s.data.toList.drop i) = if ok = true then some (c, s.data.toList.drop j) else none
set_option maxHeartbeats 4000000 in
theorem plain_any (g : Nat) (s : ByteArray) (i : Nat) (w : World) (hb : Prs w g s i) (hi : i ≤ s.size) (hs : s.size ≤ 1000000) :
    Calls Tryz.prog 118 #[.pointer (some ⟨g, 0, none⟩)] w (PlainR g s i w) := by
  obtain ⟨hcg, hfg, hlg⟩ := hb.all
  have HB := Lib.hid hb
  have HE := Lib.hid hb.e
  have HR := Lib.hid (Save.refl g w)
  clear hb
  have hw1 : IntKind.i64.wrap ((i : Int) + 1) = (i : Int) + 1 := IntWalk.i64_in _ (by omega)
  have hw2 : IntKind.i64.wrap ((i : Int) + 1 + 1) = (i : Int) + 1 + 1 := IntWalk.i64_in _ (by omega)
  have hw3 : IntKind.i64.wrap ((i : Int) + 1 + 1 - 1) = (i : Int) + 1 := by rw [IntKind.wrap_i64]; omega
  have hp1 : (0 : Int) ≤ (i : Int) + 1 := by omega
  have hp2 : ¬ ((i : Int) + 1 < 0) := by omega
  have ht1 : ((i : Int) + 1).toNat = i + 1 := by omega
  go_enter Tryz.func118, Tryz.ntmps118
  by_cases h1 : i < s.size
  · have e1 := Lib.hid (drop_get h1)
    by_cases h2 : s[i] = 92
    · have h2b : ((s[i].toNat : Int) == 92) = true := by rw [h2]; rfl
      rw [h2] at e1
      by_cases h3 : i + 1 < s.size
      · have e2 := Lib.hid (drop_get h3)
        go_wp2_with (go_quiet (fail))
        go_ret2
        refine ⟨s[i + 1], true, i + 2, rfl, by omega, h3, (by repeat (first | exact HR.out | refine Save.set ?_ _ _ | refine Save.drewN ?_ _)), (by repeat (first | exact HB.out | exact HE.out | refine Blk.drewN ?_ _ | refine PrsE.end ?_ (by omega) | refine PrsE.set ?_ _ | refine PrsE.drewN ?_ _)), ?_⟩
        rw [e1.out, e2.out]
        rfl
      · have e2 := Lib.hid (drop_end (Nat.le_of_not_lt h3))
        have h3b : ¬ ((i : Int) + 1 < (s.size : Int)) := by omega
        go_wp2_with (go_quiet (fail))
        all_goals try (exfalso; omega)
        go_ret2
        refine ⟨0, false, i + 1, rfl, by omega, h1, (by repeat (first | exact HR.out | refine Save.set ?_ _ _ | refine Save.drewN ?_ _)), (by repeat (first | exact HB.out | exact HE.out | refine Blk.drewN ?_ _ | refine PrsE.end ?_ (by omega) | refine PrsE.set ?_ _ | refine PrsE.drewN ?_ _)), ?_⟩
        rw [e1.out, e2.out]
        rfl
    · have h2b : ((s[i].toNat : Int) == 92) = false := byte_ne (n := 92) (by omega) h2
      go_wp2_with (go_quiet (fail))
      go_ret2
      refine ⟨s[i], true, i + 1, rfl, by omega, h1, (by repeat (first | exact HR.out | refine Save.set ?_ _ _ | refine Save.drewN ?_ _)), (by repeat (first | exact HB.out | exact HE.out | refine Blk.drewN ?_ _ | refine PrsE.end ?_ (by omega) | refine PrsE.set ?_ _ | refine PrsE.drewN ?_ _)), ?_⟩
      rw [e1.out, Gl.plain_cons h2]
      rfl
  · have e1 := Lib.hid (drop_end (Nat.le_of_not_lt h1))
    have h1b : decide ((i : Int) < (s.size : Int)) = false := decide_eq_false (by omega)
    go_wp2_with (go_quiet (fail))
    go_ret2
    refine ⟨0, false, i, rfl, Nat.le_refl _, hi, (by repeat (first | exact HR.out | refine Save.set ?_ _ _ | refine Save.drewN ?_ _)), (by repeat (first | exact HB.out | exact HE.out | refine Blk.drewN ?_ _ | refine PrsE.end ?_ (by omega) | refine PrsE.set ?_ _ | refine PrsE.drewN ?_ _)), ?_⟩
    rw [e1.out]
    rfl
/-- What peek sees. -/
def pk : List UInt8 → UInt8 × Bool
  | [] => (0, false)
  | c :: _ => (c, true)
set_option maxHeartbeats 4000000 in
theorem peek_any (g : Nat) (s : ByteArray) (i n : Nat) (w : World) (hb : Prs w g s i) (hi : i ≤ s.size) (hs : s.size ≤ 1000000) (hn : n ≤ 1) :
    Calls Tryz.prog 139 #[.pointer (some ⟨g, 0, none⟩), .int .i64 n] w (Ret (.tuple #[.int .u8 (pk (s.data.toList.drop (i + n))).1.toNat, .bool (pk (s.data.toList.drop (i + n))).2]) w) := by
  obtain ⟨hcg, hfg, hlg⟩ := hb.all
  clear hb
  have hw1 : IntKind.i64.wrap ((i : Int) + (n : Int)) = ((i + n : Nat) : Int) := by rw [IntWalk.i64_in _ (by omega)]; rfl
  have HX := Lib.hid (Ext.refl w)
  have HE := Lib.hid (fun h : i + n < s.size => drop_get h)
  have HN := Lib.hid (fun h : s.size ≤ i + n => drop_end (s := s) h)
  have hk : i + n ≤ 1000001 := by omega
  clear hi hn
  generalize i + n = k at hw1 HE HN hk ⊢
  go_enter Tryz.func139, Tryz.ntmps139
  by_cases h1 : k < s.size
  · have h1b : decide ((s.size : Int) ≤ (k : Int)) = false := decide_eq_false (by omega)
    rw [HE.out h1]
    go_wp2_with (go_quiet (fail))
    go_ret2
    exact ⟨rfl, by repeat (first | exact HX.out | refine Ext.drewN ?_ _)⟩
  · have h1b : decide ((s.size : Int) ≤ (k : Int)) = true := decide_eq_true (by omega)
    rw [HN.out (by omega)]
    go_wp2_with (go_quiet (fail))
    go_ret2
    exact ⟨rfl, by repeat (first | exact HX.out | refine Ext.drewN ?_ _)⟩
/-- A row of 256. -/
def rowOf (p : UInt8 → Bool) : Array Value := ((List.range 256).map fun i => Value.bool (p (UInt8.ofNat i))).toArray
theorem rowOf_size (p : UInt8 → Bool) : (rowOf p).size = 256 := by simp [rowOf]
theorem rowOf_get (p : UInt8 → Bool) (c : UInt8) : (rowOf p)[c.toNat]? = some (.bool (p c)) := by
  have h : c.toNat < 256 := UInt8.toNat_lt c
  simp [rowOf, h]
theorem rowOf_set (p : UInt8 → Bool) (c : UInt8) : (rowOf p).setIfInBounds c.toNat (.bool true) = rowOf (fun x => p x || x == c) := by
  refine Array.ext_getElem? fun i => ?_
  rw [Array.getElem?_setIfInBounds]
  by_cases e : c.toNat = i
  · subst e
    rw [if_pos rfl, rowOf_get, if_pos (by rw [rowOf_size]; exact UInt8.toNat_lt c)]
    simp
  · rw [if_neg e]
    by_cases hi : i < 256
    · have h2 : (UInt8.ofNat i == c) = false := by
        refine beq_eq_false_iff_ne.2 fun h => e ?_
        rw [← h, UInt8.toNat_ofNat_of_lt' hi]
      simp [rowOf, hi, h2]
    · simp [rowOf, hi]
set_option maxHeartbeats 1000000 in
/-- The closure of a class. -/
theorem class1_any (b1 b2 : Nat) (p : UInt8 → Bool) (neg : Bool) (c : UInt8) (w : World) (h1 : Blk w b1 148 (rowOf p)) (h2 : Blk w b2 4 #[.bool neg]) :
    Calls Tryz.prog 140 #[.int .u8 c.toNat, .pointer (some ⟨b1, 0, none⟩), .pointer (some ⟨b2, 0, none⟩)] w (Ret (.bool (Gl.clsSet neg p c)) w) := by
  have hcp : w.cell? ⟨b1, c.toNat, none⟩ = some (.bool (p c)) := (h1.cell _).trans (rowOf_get p c)
  have hcn : w.cell? ⟨b2, 0, none⟩ = some (.bool neg) := h2.cell 0
  have hc : (c.toNat : Int) < 256 := by have := UInt8.toNat_lt c; omega
  have HX := Lib.hid (Ext.refl w)
  clear h1 h2
  go_enter Tryz.func140, Tryz.ntmps140
  by_cases e : c = 47
  · have e1 : ((c.toNat : Int) != 47) = false := by rw [e]; rfl
    have hv : Gl.clsSet neg p c = false := by unfold Gl.clsSet; rw [e]; rfl
    rw [hv]
    clear hv
    go_wp2_with (go_quiet (fail))
    go_ret
    exact ⟨rfl, by repeat (first | exact HX.out | refine Ext.drewN ?_ _)⟩
  · have e1 : ((c.toNat : Int) != 47) = true := by
      have := byte_ne (n := 47) (by omega) e
      simpa using this
    have hv : Gl.clsSet neg p c = (p c != neg) := by unfold Gl.clsSet; rw [bne_iff_ne.2 e, Bool.true_and]
    rw [hv]
    clear hv
    generalize p c = pc at hcp ⊢
    go_wp2_with (go_quiet (fail))
    go_ret
    exact ⟨rfl, by repeat (first | exact HX.out | refine Ext.drewN ?_ _)⟩
set_option maxHeartbeats 1000000 in
theorem one1_any (c : UInt8) (w : World) : Calls Tryz.prog 116 #[.int .u8 c.toNat] w (Ret (.bool (c != 47)) w) := by
  have HX := Lib.hid (Ext.refl w)
  have hv : ((c.toNat : Int) != 47) = (c != 47) := by
    by_cases e : c = 47
    · rw [e]; rfl
    · have := byte_ne (n := 47) (by omega) e
      rw [bne_iff_ne.2 e]
      simpa using this
  go_enter Tryz.func116, Tryz.ntmps116
  go_wp2_with (go_quiet (fail))
  go_ret
  exact ⟨rfl, by repeat (first | exact HX.out | refine Ext.drewN ?_ _)⟩
set_option maxHeartbeats 1000000 in
theorem one2_any (b : Nat) (d c : UInt8) (w : World) (h : Blk w b 5 #[.int .u8 c.toNat]) : Calls Tryz.prog 119 #[.int .u8 d.toNat, .pointer (some ⟨b, 0, none⟩)] w (Ret (.bool (d == c)) w) := by
  have HX := Lib.hid (Ext.refl w)
  have hcn : w.cell? ⟨b, 0, none⟩ = some (.int .u8 c.toNat) := h.cell 0
  clear h
  have hv : ((d.toNat : Int) == (c.toNat : Int)) = (d == c) := by
    by_cases e : d = c
    · rw [e]; simp
    · rw [beq_eq_false_iff_ne.2 e]
      refine beq_eq_false_iff_ne.2 fun h => e ?_
      exact UInt8.toNat_inj.1 (by omega)
  go_enter Tryz.func119, Tryz.ntmps119
  go_wp2_with (go_quiet (fail))
  go_ret
  exact ⟨rfl, by repeat (first | exact HX.out | refine Ext.drewN ?_ _)⟩
end Go.Proofs.YtnjcifppkijanaaGreatDoor
namespace Go.Proofs.YtnjcifppkijanaaGreatDoor
open Go Go.RowKit


section
variable {P : Program}
theorem run_append_zeroN {w : World} (base : Nat) (t ty e : TypeId) (i : TypeInfo) (size : Nat) (ht : P.underlying t = some (.slice e)) (hi : P.info? e = some i)
    (v : Value) (n : Nat) (xs : List Value) (hown : w.ownsRow base e size v n xs) (ad : Addr) (c : Nat) :
    (Builtin.append_ #[t, t] ty #[v, .slice (some ad) 0 c]).run P w = .ok v w := by
  have hf := run_firstCells_some (P := P) w i.size 0 ad 0 c [] (by simp) (by simp)
  rcases hown.2 with ⟨rfl, rfl⟩ | ⟨g, cap, cur, rfl, _, _, hnc, _⟩
  · simp [Builtin.append_, run_underlying ht, sizeOf, typeInfo, hi, Builtin.lenOf, hf]
  · simp [Builtin.append_, run_underlying ht, sizeOf, typeInfo, hi, Builtin.lenOf, hf, hnc, storeCells]
variable {ops : Array Oper} {Q : Exit → Act → World → Prop}
end
/-- A slice owns its row of structs: the row lies in w, the elements read in w0. -/
def OwnW {α : Type} (k : Nat) (R : Reads α) (t : TypeId) (w0 w : World) (base : Nat) (F : Nat → Prop) (v : Value) (l : List α) : Prop :=
  ∃ cs : List (List Value), cs.length = l.length ∧ (∀ c ∈ cs, c.length = k) ∧ w.ownsRow base t k v l.length cs.flatten ∧ ∀ (i : Nat) c x, cs[i]? = some c → l[i]? = some x → R w0 F c x
theorem flat_one' {α : Type} {R : Reads α} {w : World} {F : Nat → Prop} {cs : List (List Value)} {l : List α} (ho : ∀ {c x}, R w F c x → ∀ u ∈ c, Value.oneCell' u = true) (hl : cs.length = l.length) (h : ∀ (i : Nat) c x, cs[i]? = some c → l[i]? = some x → R w F c x) : ∀ u ∈ cs.flatten, u.oneCell' = true := by
  intro u hu
  obtain ⟨c, hc, huc⟩ := List.mem_flatten.1 hu
  obtain ⟨i, hi, e⟩ := List.getElem_of_mem hc
  have e1 : l[i]? = some (l[i]'(by omega)) := List.getElem?_eq_getElem _
  exact ho (h i c _ (by rw [List.getElem?_eq_getElem hi, e]) e1) u huc



theorem wpList_append_w {P : Program} {ops : Array Oper} {Q : Exit → Act → World → Prop} {α : Type} {k by_ : Nat} {R : Reads α} (ho1 : ∀ {w F c x}, R w F c x → ∀ u ∈ c, Value.oneCell' u = true) (w0 w : World) {rest : List Oper} {o : Oper} {a : Act} (hgd : o.guard = none) (s x : Operand) (t e : TypeId) (i : TypeInfo) (z : Value)
    (ho : o.op = .call { callee := .builtin .append, args := #[s, x], argTypes := #[t, t] }) (ht : P.underlying t = some (.slice e)) (hi : P.info? e = some i) (hz : i.zero = some z) (hsz : i.size = k) (hby : i.bytes = by_) (hzk : z.cells.size = k) (hk : 0 < k)
    (base : Nat) {F : Nat → Prop} (v : Value) (l : List α) (hs : a.eval s = v) (h : OwnW k R e w0 w base F v l) (b c : Nat) (cells : List Value) (y : α) (hx : a.eval x = .slice (some ⟨b, 0, none⟩) 1 c) (hr : w.rangeAt b 0 cells) (hlen : cells.length = k) (hy : R w0 F cells y)
    (hn : l.length + 1 ≤ maxLen) (hbig : (l.length + 1) * by_ ≤ 140737488355328) (hbase : base ≤ w.heap.size)
    (hK : ∀ g cap w', OwnW k R e w0 w' base F (.slice (some ⟨g, 0, none⟩) (l.length + 1) cap) (l ++ [y]) → w.grownBy w' v.ownBlock → wpList P ops Q rest (a.put o.dst (.slice (some ⟨g, 0, none⟩) (l.length + 1) cap)) w') : wpList P ops Q (o :: rest) a w := by
  obtain ⟨cs, h1, h2, h3, h4⟩ := h
  refine wpList_append_lies w hgd s x t ho base e i z k by_ ht hi hz hsz hby hzk hk v l.length cs.flatten hs h3 ⟨b, 0, none⟩ 1 c cells hx (by rw [hlen, Nat.one_mul]) (fun j u hu => ?_) (fun u hu => ho1 hy u hu) (by omega) hn hbig hbase w.heap.size rfl (fun g cap w' hown hgrow _ _ => ?_)
  · rw [Addr.add_mid]
    exact hr j u hu
  · refine hK g cap w' ⟨cs ++ [cells], by simp [h1], fun d hd => ?_, ?_, fun j d q hd hq => ?_⟩ hgrow
    · rcases List.mem_append.1 hd with hd | hd
      · exact h2 d hd
      · obtain rfl : d = cells := by simpa using hd
        exact hlen
    · rw [List.length_append, List.flatten_append]
      simpa using hown
    · rcases Nat.lt_or_ge j cs.length with hj | hj
      · rw [List.getElem?_append_left hj] at hd
        rw [List.getElem?_append_left (by omega)] at hq
        exact h4 j d q hd hq
      · rw [List.getElem?_append_right hj] at hd
        rw [List.getElem?_append_right (by omega), ← h1] at hq
        have hj0 : j - cs.length = 0 := by
          have := (List.getElem?_eq_some_iff.1 hd).1
          simpa using this
        rw [hj0] at hd hq
        obtain rfl : cells = d := by simpa using hd
        obtain rfl : y = q := by simpa using hq
        exact hy


/-- Every block. -/
abbrev All : Nat → Prop := fun _ => True
theorem Ext.putMany {w : World} {b : Nat} (hb : w.heap.size ≤ b) : ∀ (vs : List Value) (o : Nat) (w' : World), Ext w w' → Ext w (w'.setCells b o vs)
  | [], _, _, h => h
  | v :: vs, o, _, h => Ext.putMany hb vs (o + 1) _ (Ext.setCell (p := ⟨b, o, none⟩) h hb v)
theorem Blk.midSet {g : Nat} {t : TypeId} : ∀ (vs cs pre post : List Value) (w : World), vs.length = cs.length → Blk w g t (pre ++ cs ++ post).toArray → Blk (w.setCells g pre.length vs) g t (pre ++ vs ++ post).toArray
  | [], [], pre, post, w, _, h => h
  | [], _ :: _, _, _, _, e, _ => nomatch e
  | _ :: _, [], _, _, _, e, _ => nomatch e
  | v :: vs, c :: cs, pre, post, w, e, h => by
    have h1 := h.set_ pre.length v
    have e1 : (pre ++ c :: cs ++ post).toArray.setIfInBounds pre.length v = ((pre ++ [v]) ++ cs ++ post).toArray := by simp
    rw [e1] at h1
    have h2 := Blk.midSet vs cs (pre ++ [v]) post _ (by simpa using e) h1
    have e2 : (pre ++ [v]).length = pre.length + 1 := by simp
    rw [e2] at h2
    have e3 : (pre ++ v :: vs ++ post).toArray = ((pre ++ [v]) ++ vs ++ post).toArray := by simp
    rw [e3]
    exact h2
section
variable {α : Type} {k : Nat} {R : Reads α} {t : TypeId} {w0 w w' : World} {base : Nat} {F : Nat → Prop} {v : Value} {l : List α}
theorem OwnW.ext (h : OwnW k R t w0 w base F v l) (hx : Ext w w') : OwnW k R t w0 w' base F v l := by
  obtain ⟨cs, h1, h2, ⟨h3, h5⟩, h4⟩ := h
  refine ⟨cs, h1, h2, ⟨h3, ?_⟩, h4⟩
  rcases h5 with h5 | ⟨g, cap, cur, e, hb, hg, r⟩
  · exact .inl h5
  · exact .inr ⟨g, cap, cur, e, hb, (Below.block hx g (Array.getElem?_eq_some_iff.1 hg).1).trans hg, r⟩
theorem OwnW.later (hR : Steadfast R) (h : OwnW k R t w0 w base F v l) (hx : Ext w0 w') : OwnW k R t w' w base F v l := by
  obtain ⟨cs, h1, h2, h3, h4⟩ := h
  exact ⟨cs, h1, h2, h3, fun i c x hc hl => hR.ext (h4 i c x hc hl) hx⟩
theorem OwnW.has (h : OwnW k R t w0 w base F v l) (hl : 0 < l.length) : ∃ g c cur, v = .slice (some ⟨g, 0, none⟩) l.length c ∧ base ≤ g ∧ g < w.heap.size ∧ l.length ≤ c ∧ Blk w g t cur ∧ l.length * k ≤ cur.size := by
  obtain ⟨cs, h1, h2, ⟨h3, ⟨_, h0⟩ | ⟨g, cap, cur, e, hb, hg, hn, hc, hs, ht⟩⟩, h4⟩ := h
  · omega
  · exact ⟨g, cap, cur, e, hb, (Array.getElem?_eq_some_iff.1 hg).1, hn, Blk.mk hg, by rw [hs]; exact Nat.mul_le_mul_right k hn⟩
/-- The slice as a reader sees it. -/
theorem OwnW.sls (hR : Steadfast R) (h : OwnW k R t w0 w base F v l) (hx : Ext w0 w) : ∃ A c, v = .slice A l.length c ∧ l.length ≤ c ∧ Sls k R w All A l := by
  obtain ⟨cs, h1, h2, ⟨h3, ⟨e, h0⟩ | ⟨g, cap, cur, e, hb, hg, hn, hc, hs, ht⟩⟩, h4⟩ := h
  · obtain rfl := List.length_eq_zero_iff.1 h0
    exact ⟨none, 0, e, Nat.le_refl _, Sls.nil k R w All⟩
  · refine ⟨_, cap, e, hn, cs, h1, h2, fun _ => ⟨g, 0, rfl, (Array.getElem?_eq_some_iff.1 hg).1, trivial, fun j u hu => ?_⟩, fun i c x hc hl => hR.mono (hR.ext (h4 i c x hc hl) hx) (fun _ _ => trivial)⟩
    have hB : Blk w g t cur := Blk.mk hg
    have hj : j < l.length * k := by
      have := (List.getElem?_eq_some_iff.1 hu).1
      rwa [h3] at this
    rw [Nat.zero_add, hB.cell, ← hu, ← ht, List.getElem?_take_of_lt hj, Array.getElem?_toList]
/-- One struct stored. -/
theorem OwnW.put {g n cap : Nat} (h : OwnW k R t w0 w base F (.slice (some ⟨g, 0, none⟩) n cap) l) {i : Nat} (hi : i < l.length) {c : List Value} {x : α} (hc : c.length = k) (hx : R w0 F c x) :
    OwnW k R t w0 (w.setCells g (i * k) c) base F (.slice (some ⟨g, 0, none⟩) n cap) (l.set i x) := by
  obtain ⟨cs, h1, h2, ⟨h3, ⟨e, _⟩ | ⟨g', cap', cur, e, hb, hg, hn, hcm, hs, ht⟩⟩, h4⟩ := h
  · cases e
  · simp only [Value.slice.injEq, Option.some.injEq, Addr.mk.injEq, and_true, true_and] at e
    obtain ⟨rfl, rfl, rfl⟩ := e
    have hic : i < cs.length := by omega
    have hpre : (cs.take i).flatten.length = i * k := by
      rw [flatten_len (fun c hc => h2 c (List.mem_of_mem_take hc)), List.length_take]
      congr 1
      omega
    have hsplit : cs.flatten = (cs.take i).flatten ++ cs[i] ++ (cs.drop (i + 1)).flatten := by
      have := congrArg List.flatten (List.take_append_drop i cs).symm
      rwa [List.flatten_append, List.drop_eq_getElem_cons hic, List.flatten_cons, ← List.append_assoc] at this
    have hcur : cur = ((cs.take i).flatten ++ cs[i] ++ ((cs.drop (i + 1)).flatten ++ cur.toList.drop (l.length * k))).toArray := by
      apply Array.toList_inj.1
      conv => lhs; rw [← List.take_append_drop (l.length * k) cur.toList, ht, hsplit]
      simp
    have hk : c.length = cs[i].length := by rw [hc, h2 _ (List.getElem_mem hic)]
    have hB : Blk w g t ((cs.take i).flatten ++ cs[i] ++ ((cs.drop (i + 1)).flatten ++ cur.toList.drop (l.length * k))).toArray := by rw [← hcur]; exact Blk.mk hg
    have hN := Blk.midSet c cs[i] _ _ w hk hB
    rw [hpre] at hN
    have hfl : (cs.set i c).flatten = (cs.take i).flatten ++ c ++ (cs.drop (i + 1)).flatten := by
      rw [List.set_eq_take_append_cons_drop, if_pos hic]
      simp
    have hlen : (cs.set i c).flatten.length = l.length * k := by
      rw [← h3, hfl, hsplit]
      simp [hk]
    refine ⟨cs.set i c, by simp [h1], fun d hd => ?_, ⟨by rw [List.length_set]; exact hlen, .inr ⟨g, cap, _, by rw [List.length_set], hb, hN.eq, by rw [List.length_set]; exact hn, hcm, ?_, ?_⟩⟩, fun j d y hd hy => ?_⟩
    · rcases List.mem_or_eq_of_mem_set hd with hd | rfl
      · exact h2 d hd
      · exact hc
    · rw [← hs]
      conv => rhs; rw [hcur]
      simp [hk]
    · rw [List.length_set, ← List.append_assoc, ← hfl]
      simp only [List.toList_toArray]
      rw [← hlen, List.take_left']
      rfl
    · rcases Nat.decEq i j with hne | rfl
      · rw [List.getElem?_set_ne hne] at hd hy
        exact h4 j d y hd hy
      · rw [List.getElem?_set_self (by omega)] at hd hy
        obtain rfl := Option.some.inj hd
        obtain rfl := Option.some.inj hy
        exact hx
end


section
variable {P : Program}
theorem run_append_zeroO {w : World} (base : Nat) (t ty e : TypeId) (i : TypeInfo) (size : Nat) (ht : P.underlying t = some (.slice e)) (hi : P.info? e = some i)
    (v : Value) (n : Nat) (xs : List Value) (hown : w.ownsRow base e size v n xs) (ad : Option Addr) (c : Nat) :
    (Builtin.append_ #[t, t] ty #[v, .slice ad 0 c]).run P w = .ok v w := by
  cases ad with
  | none => rcases hown.2 with ⟨rfl, rfl⟩ | ⟨g, cap, cur, rfl, _, _, hnc, _⟩
            · simp [Builtin.append_, run_underlying ht, sizeOf, typeInfo, hi, Builtin.lenOf, Builtin.firstCells]
            · simp [Builtin.append_, run_underlying ht, sizeOf, typeInfo, hi, Builtin.lenOf, Builtin.firstCells, hnc, storeCells]
  | some ad => exact run_append_zeroN base t ty e i size ht hi v n xs hown ad c
/-- append(v, l2...) of a list of structs, wherever it lies, as one operation. -/
theorem wp_append_sls {K : Act → World → Prop} {Q : Exit → Act → World → Prop} {α : Type} {k by_ : Nat} {R : Reads α} (ho1 : ∀ {w F c x}, R w F c x → ∀ u ∈ c, Value.oneCell' u = true) (w0 w : World) (hw : Ext w0 w) {o : Oper} {a : Act} (s x : Operand) (t e : TypeId) (i : TypeInfo) (z : Value)
    (ho : o.op = .call { callee := .builtin .append, args := #[s, x], argTypes := #[t, t] }) (ht : P.underlying t = some (.slice e)) (hi : P.info? e = some i) (hz : i.zero = some z) (hsz : i.size = k) (hby : i.bytes = by_) (hzk : z.cells.size = k) (hk : 0 < k)
    (base : Nat) (v : Value) (l1 : List α) (hs : a.eval s = v) (h : OwnW k R e w0 w base All v l1) (A : Option Addr) (m c : Nat) (l2 : List α) (hx : a.eval x = .slice A m c) (hl : Sls k R w0 All A l2) (hm : l2.length = m)
    (hn : l1.length + m ≤ maxLen) (hbig : (l1.length + m) * by_ ≤ 140737488355328) (hbase : base ≤ w.heap.size)
    (hK : ∀ v' w', OwnW k R e w0 w' base All v' (l1 ++ l2) → w.grownBy w' v.ownBlock → K (a.put o.dst v') w') : o.wp P a w K Q := by
  obtain ⟨cs, h1, h2, h3, h4⟩ := h
  rcases Nat.eq_zero_or_pos m with h0 | h0
  · subst h0
    obtain rfl : l2 = [] := List.length_eq_zero_iff.1 hm
    have hrun := run_append_zeroO (P := P) (w := w) base t o.type e i k ht hi v l1.length cs.flatten h3 A c
    have := hK v w (by rw [List.append_nil]; exact ⟨cs, h1, h2, h3, h4⟩) (World.grownBy.refl _ _)
    unfold Oper.wp
    simp [execOp, ho, resolve, invoke, builtin, hs, hx, hrun, Result.andThen]
    exact this
  · obtain ⟨ds, g1, g2, g3, g4⟩ := hl
    obtain ⟨b, off, rfl, hb, _, hr⟩ := g3 (by omega)
    refine wp_append_lies w s x t ho base e i z k by_ ht hi hz hsz hby hzk hk v l1.length cs.flatten hs h3 ⟨b, off, none⟩ m c ds.flatten hx (by rw [flatten_len g2, g1, hm]) (fun j u hu => ?_) (flat_one' ho1 g1 g4) h0 hn hbig hbase w.heap.size rfl (fun g cap w' hown hgrow _ _ => ?_)
    · rw [Addr.add_mid]
      exact (hw.cell (p := ⟨b, _, none⟩) hb).trans (hr j u hu)
    · refine hK _ w' ⟨cs ++ ds, by simp [h1, g1], fun d hd => ?_, ?_, fun j d q hd hq => ?_⟩ hgrow
      · rcases List.mem_append.1 hd with hd | hd
        · exact h2 d hd
        · exact g2 d hd
      · rw [List.length_append, hm, List.flatten_append]
        exact hown
      · rcases Nat.lt_or_ge j cs.length with hj | hj
        · rw [List.getElem?_append_left hj] at hd
          rw [List.getElem?_append_left (by omega)] at hq
          exact h4 j d q hd hq
        · rw [List.getElem?_append_right hj] at hd
          rw [List.getElem?_append_right (by omega), ← h1] at hq
          exact g4 _ d q hd hq
theorem wpList_append_sls {ops : Array Oper} {rest : List Oper} {Q : Exit → Act → World → Prop} {α : Type} {k by_ : Nat} {R : Reads α} (ho1 : ∀ {w F c x}, R w F c x → ∀ u ∈ c, Value.oneCell' u = true) (w0 w : World) (hw : Ext w0 w) {o : Oper} {a : Act} (hgd : o.guard = none) (s x : Operand) (t e : TypeId) (i : TypeInfo) (z : Value)
    (ho : o.op = .call { callee := .builtin .append, args := #[s, x], argTypes := #[t, t] }) (ht : P.underlying t = some (.slice e)) (hi : P.info? e = some i) (hz : i.zero = some z) (hsz : i.size = k) (hby : i.bytes = by_) (hzk : z.cells.size = k) (hk : 0 < k)
    (base : Nat) (v : Value) (l1 : List α) (hs : a.eval s = v) (h : OwnW k R e w0 w base All v l1) (A : Option Addr) (m c : Nat) (l2 : List α) (hx : a.eval x = .slice A m c) (hl : Sls k R w0 All A l2) (hm : l2.length = m)
    (hn : l1.length + m ≤ maxLen) (hbig : (l1.length + m) * by_ ≤ 140737488355328) (hbase : base ≤ w.heap.size)
    (hK : ∀ v' w', OwnW k R e w0 w' base All v' (l1 ++ l2) → w.grownBy w' v.ownBlock → wpList P ops Q rest (a.put o.dst v') w') : wpList P ops Q (o :: rest) a w :=
  wpList_plain hgd fun _ hK2 => wp_append_sls ho1 w0 w hw s x t e i z ho ht hi hz hsz hby hzk hk base v l1 hs h A m c l2 hx hl hm hn hbig hbase fun v' w' h1 h2 => hK2 _ _ (hK v' w' h1 h2)
end
/-- An empty literal owns its row. -/
theorem OwnW.lit {α : Type} (k : Nat) (R : Reads α) (t : TypeId) (w0 w : World) : OwnW k R t w0 (w.alloc (.cells #[] t)) w.heap.size All (.slice (some ⟨w.heap.size, 0, none⟩) 0 0) [] :=
  ⟨[], rfl, by simp, ⟨by simp, .inr ⟨w.heap.size, 0, #[], rfl, Nat.le_refl _, (Blk.new' rfl).eq, Nat.le_refl _, Nat.zero_le _, by simp, by simp⟩⟩, fun i c x h => by simp at h⟩end Go.Proofs.YtnjcifppkijanaaGreatDoor
namespace Go.Proofs.YtnjcifppkijanaaGreatDoor
open Go Go.RowKit

theorem wrap_u8 {k : Nat} (h : k < 256) : IntKind.u8.wrap (k : Int) = (k : Int) := by
  exact IntWalk.u8_in _ (by omega)
/-- Is the set empty? -/
theorem some256_go {p : UInt8 → Bool} {k : Nat} (hk : k ≤ 256) (h : ∀ j, j < k → p (UInt8.ofNat j) = false) : (k < 256 → p (UInt8.ofNat k) = true → Gl.some256 p = true) ∧ (k = 256 → Gl.some256 p = false) := by
  constructor
  · intro h1 h2
    unfold Gl.some256
    rw [List.any_eq_true]
    exact ⟨k, List.mem_range.2 h1, h2⟩
  · rintro rfl
    unfold Gl.some256
    rw [List.any_eq_false]
    intro j hj
    rw [h j (List.mem_range.1 hj)]
    decide
set_option maxHeartbeats 2000000 in
set_option maxRecDepth 100000 in
theorem some_any (m : Value) (p : UInt8 → Bool) (w : World) (hm : FunP w m p) : Calls Tryz.prog 141 #[m] w (Ret (.bool (Gl.some256 p)) w) := by
  obtain ⟨g, caps, rfl, eg, hc⟩ := hm
  have HC : Hid (∀ (W : World) (k : Nat), k < 256 → Ext w W → Calls Tryz.prog g (#[.int .u8 k] ++ caps) W (Ret (.bool (p (UInt8.ofNat k))) W)) := Lib.hid fun W k hk hW => by
    have := hc W (UInt8.ofNat k) (Keep3.of_ext hW)
    rwa [UInt8.toNat_ofNat_of_lt' hk] at this
  clear hc
  obtain ⟨R, hR⟩ : ∃ R, R = Gl.some256 p := ⟨_, rfl⟩
  have HR := Lib.hid hR
  rw [← hR]
  clear hR
  have HX := Lib.hid (Ext.refl w)
  go_enter Tryz.func141, Tryz.ntmps141
  go_wp2_with fail
  go_loopw [4] (fun u wr => ∃ k : Nat, k ≤ 256 ∧ u = .int .i64 k ∧ Hid (∀ j, j < k → p (UInt8.ofNat j) = false) ∧ Hid (Ext w wr)) (fun u wr => 256 - (intOf u).toNat)
  case atStart => exact ⟨0, by omega, rfl, Lib.hid (fun j hj => absurd hj (Nat.not_lt_zero j)), HX⟩
  case round =>
    clear HX
    obtain ⟨k, hk, rfl, HJ, HX⟩ := hrel
    by_cases hlt : k < 256
    · have hwr : IntKind.u8.wrap (k : Int) = (k : Int) := wrap_u8 hlt
      go_wp2_with fail
      refine (HC.out _ _ hlt HX.out).mono ?_
      rintro e w1 ⟨rfl, hx0⟩
      have HX2 := Lib.hid (HX.out.trans hx0)
      cases hp : p (UInt8.ofNat k)
      · have HJ2 : Hid (∀ j, j < k + 1 → p (UInt8.ofNat j) = false) := Lib.hid fun j hj => by
          rcases Nat.lt_succ_iff_lt_or_eq.1 hj with h | rfl
          · exact HJ.out j h
          · exact hp
        clear HJ hx0 hp
        go_wp2_with fail
        go_roundw
        case rel => exact ⟨k + 1, hlt, rfl, HJ2, HX2⟩
        case measure => simp [intOf]; omega
      · have e1 := (some256_go hk HJ.out).1 hlt hp
        clear HJ hx0 hp
        go_wp2_with fail
        go_ret
        refine ⟨?_, HX2.out⟩
        rw [HR.out, e1]
        rfl
    · obtain rfl : k = 256 := by omega
      go_wp2_with fail
      go_ret
      refine ⟨?_, HX.out⟩
      rw [HR.out, (some256_go (Nat.le_refl _) HJ.out).2 rfl]
      rfl
end Go.Proofs.YtnjcifppkijanaaGreatDoor
