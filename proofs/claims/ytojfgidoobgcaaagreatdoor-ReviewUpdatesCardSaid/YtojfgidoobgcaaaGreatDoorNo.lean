/- What the map of opinions holds, in plain Lean. -/
import Derived.Test.YtojfgidoobgcaaaGreatDoorNn
import Derived.Maps.RangeWalk
import Derived.Maps.Ext
set_option linter.unusedSimpArgs false
set_option linter.unusedVariables false
namespace Go.Proofs.YtojfgidoobgcaaaGreatDoor
open Go Go.RowKit Go.Maps Go.WideMaps

theorem pkey_inj {s t : ByteArray} (h : pkey s = pkey t) : s = t := by
  have : s.data.toList = t.data.toList := by simpa [pkey] using h
  exact ByteArray.ext (Array.toList_inj.1 this)
theorem pkey_lit (s : ByteArray) : WideAt.IsKeyLit (pkey s) := by simp [WideAt.IsKeyLit, pkey]
/-- A map and the opinions that it holds. -/
def Holds1 (D : Dat) (o : ByteArray → Int) : Prop := IsMap D ∧ ∀ s, (has D (pkey s) = true ↔ o s ≠ 0) ∧ (o s ≠ 0 → ∀ z, D.atKey (pkey s) z = .lit (.int .i64 (o s)))
theorem counts_kind {r : Rv} {v : Vt} (h : Vw.counts r v = true) : v.kind = 1 ∨ v.kind = 2 := by
  unfold Vw.counts at h
  simp only [Bool.and_eq_true, Bool.or_eq_true, beq_iff_eq] at h
  exact h.2.1
theorem map_agree (r : Rv) : ∀ (l : List Vt) (D : Dat) (o : ByteArray → Int), Holds1 D o → Holds1 (l.foldl (Vw.mapStep r) D) (fun s => Vw.opinOf s (l.filter (Vw.counts r)) (o s))
  | [], D, o, h => h
  | v :: l, D, o, h => by
    rw [List.foldl_cons]
    by_cases hc : Vw.counts r v = true
    · have h1 : Vw.mapStep r D v = D.put (pkey v.who) (.lit (.int .i64 v.kind)) := by unfold Vw.mapStep; rw [if_pos hc]
      have hk : v.kind ≠ 0 := by rcases counts_kind hc with h | h <;> rw [h] <;> decide
      have h2 := map_agree r l (Vw.mapStep r D v) (fun s => if Qm.eqB v.who s = true then v.kind else o s) (by
        rw [h1]
        refine ⟨h.1.put _ _, fun s => ?_⟩
        by_cases hs : v.who = s
        · subst hs
          dsimp only
          rw [if_pos (Qm.eqB_iff.2 rfl)]
          exact ⟨⟨fun _ => hk, fun _ => has_put_same h.1 (pkey_lit _) _⟩, fun _ z => atKey_put_same h.1 (pkey_lit _) _ z⟩
        · have hne : pkey s ≠ pkey v.who := fun e => hs (pkey_inj e).symm
          dsimp only
          rw [if_neg (fun e => hs (Qm.eqB_iff.1 e)), has_put_other hne]
          exact ⟨(h.2 s).1, fun h0 z => by rw [atKey_put_other hne]; exact (h.2 s).2 h0 z⟩)
      rw [List.filter_cons_of_pos hc]
      exact h2
    · have h1 : Vw.mapStep r D v = D := by unfold Vw.mapStep; rw [if_neg hc]
      rw [h1, List.filter_cons_of_neg hc]
      exact map_agree r l D o h
/-- The map that review.opinions makes holds the opinions. -/
theorem mapOf_holds (r : Rv) : Holds1 (Vw.mapOf r) (Vw.opin r) :=
  map_agree r r.votes (.map []) (fun _ => 0) ⟨⟨[], rfl⟩, fun s => ⟨⟨fun h => by simp [has_eq] at h, fun h => absurd rfl h⟩, fun h => absurd rfl h⟩⟩
/-- No other opinion than these. -/
theorem opin_kind (r : Rv) (s : ByteArray) : Vw.opin r s = 0 ∨ Vw.opin r s = 1 ∨ Vw.opin r s = 2 := by
  rw [opin_fold]
  have : ∀ (l : List Vt) (o : Int), (o = 0 ∨ o = 1 ∨ o = 2) → (l.foldl (Vw.opStep r s) o = 0 ∨ l.foldl (Vw.opStep r s) o = 1 ∨ l.foldl (Vw.opStep r s) o = 2) := by
    intro l
    induction l with
    | nil => exact fun o h => h
    | cons v l ih =>
      intro o h
      rw [List.foldl_cons]
      refine ih _ ?_
      unfold Vw.opStep
      split
      · rename_i hs
        unfold Vw.says at hs
        simp only [Bool.and_eq_true, Bool.or_eq_true, beq_iff_eq] at hs
        rcases hs.2.2.1 with e | e <;> rw [e] <;> simp
      · exact h
  exact this _ _ (.inl rfl)
/-- Distinct people with the same opinion, all of them: as many as there are. -/
theorem people_count {r : Rv} {k : Int} {S : List ByteArray} (hk : k ≠ 0) (hn : S.Nodup) (h : ∀ s, s ∈ S ↔ Vw.opin r s = k) : S.Perm (Vw.people r k) := by
  refine (List.perm_ext_iff_of_nodup hn ?_).2 fun s => ?_
  · have := Vw.people_up r k
    exact this.imp fun h e => by
      subst e
      rw [Tr.lt_irrefl] at h
      cases h
  · rw [h, Vw.people_mem hk]
end Go.Proofs.YtojfgidoobgcaaaGreatDoor
