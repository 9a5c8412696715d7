/- Walks: plain trees: an element, the parent of a path. The map of the directories met so far. -/
import Derived.Test.YtnjcifppkijanaaGreatDoorTw
import Derived.Test.YtnjcifppkijanaaGreatDoorTp
import Derived.Test.YtnjcifppkijanaaGreatDoorF
import Derived.Test.YtnjcifppkijanaaGreatDoorE
import Derived.Maps.Own
import Derived.Maps.OwnOps
import Derived.Maps.Views
import Derived.Laws.Cover1
set_option linter.unusedSimpArgs false
set_option linter.unusedVariables false
namespace Go.Proofs.YtnjcifppkijanaaGreatDoor
open Go Go.RowKit

set_option maxHeartbeats 4000000 in
theorem element_any (f : Pf) (w : World) (hg : Glob w) : Calls Tryz.prog 59 #[f.v] w (Ret (.int .i64 (Tr.element f)) w) := by
  have Hg := Lib.hid hg
  clear hg
  go_enter Tryz.func59, Tryz.ntmps59
  have hx := Ext.refl w
  go_wp2_with (first | (go_at_call 80; refine (isPath_any _ _ (Hg.out.ext EX)).mono ?_; rintro e w1 ⟨rfl, hx0⟩; have hy := Ext.trans (a := w) EX hx0; clear hx; have hx := hy; clear hy; have hn0 := BB hx0 (w.heap.size); (first | simp [↓heap_drew_at, ↓heap_drewN_at, ↓heap_alloc_at, ↓heap_set_at, ne_two, ne_three, ne_two_left, ne_three_left, ↓hb0.eq, hb0.lt, hb0.ne] at hn0 | simp [↓heap_drew_at, ↓heap_drewN_at, ↓heap_alloc_at, ↓heap_set_at, ne_two, ne_three, ne_two_left, ne_three_left] at hn0); (try clear hb0 hc0 hf0 hl0); have hb0 := Blk.mk hn0; clear hn0; obtain ⟨hc0, hf0, hl0⟩ := hb0.all; (try clear hx0)) | (go_at_call 81; refine (content_any _ _ _).mono ?_; rintro e w1 ⟨rfl, hx0⟩; have hy := Ext.trans (a := w) EX hx0; clear hx; have hx := hy; clear hy; have hn0 := BB hx0 (w.heap.size); (first | simp [↓heap_drew_at, ↓heap_drewN_at, ↓heap_alloc_at, ↓heap_set_at, ne_two, ne_three, ne_two_left, ne_three_left, ↓hb0.eq, hb0.lt, hb0.ne] at hn0 | simp [↓heap_drew_at, ↓heap_drewN_at, ↓heap_alloc_at, ↓heap_set_at, ne_two, ne_three, ne_two_left, ne_three_left] at hn0); (try clear hb0 hc0 hf0 hl0); have hb0 := Blk.mk hn0; clear hn0; obtain ⟨hc0, hf0, hl0⟩ := hb0.all; (try clear hx0)))
  all_goals (go_ret; refine Ret.mk ?_ ?_; (focus (refine congrArg (Value.int .i64) ?_; unfold Tr.element; repeat' split; all_goals first | rfl | omega | (simp_all [Qm.eqB]; done) | (simp_all [Qm.eqB]; omega); done)); (focus (exact EX; done)))

theorem parent_any (s : ByteArray) (w : World) (hs : s.size ≤ 1000000) : Calls Tryz.prog 60 #[.string s] w (Ret (.string (Tr.parent s)) w) := by
  have h1 := Qm.lastIndex_lt s
  go_enter Tryz.func60, Tryz.ntmps60
  have hx := Ext.refl w
  go_wp2_with (go_at_call 82; refine (Tryz.strings_LastIndexByte s 47 (by omega) _).mono ?_; rintro e w1 ⟨rfl, rfl⟩)
  all_goals (go_ret; refine Ret.mk ?_ ?_; (focus (refine congrArg Value.string ?_; unfold Tr.parent; congr 1; omega; done)); (focus (exact EX; done)))

/-- The map of the directories of t. -/
def Dirs (w : World) (b : Nat) (t : List Pf) : Prop :=
  ∃ (n : Nat) (D : DataW Unit), w.ownsMap Tryz.prog 9 (plainElem Tryz.prog 4) b n D ∧ n ≤ t.length + 1 ∧ Maps.IsMap D ∧ ∀ s : ByteArray, s.size ≤ maxLen → D.atKey (.string s.data.toList) (.lit (.bool false)) = .lit (.bool (Tr.isDir t s))
theorem dirs_law : Maps.Keyed Tryz.prog 9 := Maps.string_keyed Tryz.underlying9
theorem dirs_key {s : ByteArray} (h : s.size ≤ maxLen) : keyOf Tryz.prog 9 (.string s) = some (.string s.data.toList) := WideMaps.keyOf_string_mk Tryz.underlying9 h
theorem Dirs.lt {w : World} {b : Nat} {t : List Pf} (h : Dirs w b t) : b < w.heap.size := by
  obtain ⟨n, D, hown, _⟩ := h
  exact hown.lt
theorem Dirs.ext {w w' : World} {b : Nat} {t : List Pf} (h : Dirs w b t) (hx : Ext w w') : Dirs w' b t := by
  obtain ⟨n, D, ⟨es, clock, hb, F, hs, hD⟩, h2⟩ := h
  exact ⟨n, D, ⟨es, clock, (Below.block hx b (Array.getElem?_eq_some_iff.1 hb).1).trans hb, F, hs, hD⟩, h2⟩
set_option maxRecDepth 100000 in
theorem plain_bool {v : Value} {x : Bool} {ps : List MemPlace} (hv : plainElem (H := Unit) Tryz.prog 4 v = some (.lit (.bool x), ps)) : v = .bool x := by
  unfold plainElem at hv
  rw [Tryz.underlying4] at hv
  cases v <;> simp at hv
  rw [hv.1]
theorem Dirs.look {w : World} {b : Nat} {t : List Pf} (h : Dirs w b t) {s : ByteArray} (hs : s.size ≤ maxLen) : (Instr.lookup 72 (.map (some b)) (.string s) false).run Tryz.prog w = .ok (.bool (Tr.isDir t s)) w := by
  obtain ⟨n, D, hown, _, _, hD⟩ := h
  obtain ⟨v, ps, hrun, hv⟩ := hown.lookup dirs_law Tryz.underlying72 (z := .bool false) (by kernel_rfl) (plainElem_bool Tryz.underlying4 false) (dirs_key hs)
  rw [hD s hs] at hv
  rw [hrun, plain_bool hv]
theorem Dirs.store {w : World} {b : Nat} {t : List Pf} (h : Dirs w b t) (hn : t.length ≤ 1000000) {s : ByteArray} (hs : s.size ≤ maxLen) {t' : List Pf} (hl : t.length ≤ t'.length) (hd : ∀ u : ByteArray, Tr.isDir t' u = (Tr.isDir t u || Qm.eqB u s)) :
    ∃ w', (Instr.mapUpdate 72 (.map (some b)) (.string s) (.bool true)).run Tryz.prog w = .ok () w' ∧ (t.length < t'.length → Dirs w' b t') ∧ w.grownBy w' (some b) := by
  obtain ⟨n, D, hown, h1, h2, hD⟩ := h
  obtain ⟨w', hrun, r1, r2⟩ := hown.update dirs_law Tryz.underlying72 (by unfold maxLen; omega) (dirs_key hs) (plainElem_bool Tryz.underlying4 true)
  refine ⟨w', hrun, fun hlt => ⟨_, _, r1, by omega, h2.put _ _, fun u hu => ?_⟩, r2⟩
  rw [hd u]
  by_cases e : u = s
  · subst e
    rw [Maps.atKey_put_same h2 (by first | trivial | simp [WideAt.IsKeyLit]), Qm.eqB_iff.2 rfl, Bool.or_true]
  · rw [Maps.atKey_put_other (fun k => e (by
      have := Lit.string.inj k
      exact ByteArray.ext (Array.toList_inj.1 this))), hD u hu, Tr.eqB_ne.2 e, Bool.or_false]
end Go.Proofs.YtnjcifppkijanaaGreatDoor
