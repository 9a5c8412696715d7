/- Walks: a text is cut into its lines. Walks: a text is cut into its lines: the loop. Walks: IsText, content. -/
import Derived.Test.YtnjcifppkijanaaGreatDoorBase
import Derived.Test.YtnjcifppkijanaaGreatDoorShelf
import Derived.Test.YtnjcifppkijanaaGreatDoorRange
import Derived.Test.YtnjcifppkijanaaGreatDoorModel
import Derived.RangeFuncNested
import Derived.RangeFuncBound
import Derived.RangeFuncLeaves
import Derived.Shelf.Abstract
import Derived.Shelf.RegionOpen
import Derived.OwnWalkIn
import Derived.TacticsInMore
import Derived.LoopNIn
import Derived.LoopIn
import Derived.Maps.AppendAt
set_option linter.unusedSimpArgs false
set_option linter.unusedVariables false
namespace Go.Proofs.YtnjcifppkijanaaGreatDoor
open Go.RowKit Go.Shelf
attribute [local go_sem] Oper.semAt_some

def boxSize (b : Nat) (w : World) : Nat := match w.cell? ⟨b, 0, none⟩ with | some (.string s) => s.size | _ => 0
theorem boxSize_eq {W : World} {b : Nat} {s : ByteArray} (h : Boxed W b 9 (.string s)) : boxSize b W = s.size := by
  unfold boxSize; rw [h.cell]

set_option maxHeartbeats 2000000 in
theorem each1_gives (n : Nat) (bS : Nat) (s : ByteArray) (hn : 3 ≤ n) (hs : s.size ≤ 1152921504606846976) :
    GivesAll Tryz.prog n 163 #[.pointer (some ⟨bS, 0, none⟩)] (fun x => #[.string x]) bS 9 (.string s) (Qm.linesOf s) := by
  intro l I W hIs hY h0 hb
  refine callsIn_of_wp Tryz.func163 rfl trivial ?_ rfl
  simp only [Tryz.ntmps163, List.size_toArray, List.length_cons, List.length_nil, Nat.reduceAdd, Nat.reduceSub, Array.replicate_succ, Array.replicate_zero, List.push_toArray, List.append_toArray, List.nil_append, List.cons_append]
  gi_wp2
  gi_loopw [3] (fun _ wr => ∃ (cur : ByteArray) (pre : List ByteArray), Boxed wr bS 9 (.string cur) ∧ cur.size ≤ s.size ∧ I pre wr ∧ pre ++ Qm.linesOf cur = Qm.linesOf s)
    (fun _ wr => boxSize bS wr)
  case atStart => exact ⟨s, [], hb, Nat.le_refl _, h0, rfl⟩
  case round =>
    obtain ⟨cur, pre, hbx, hsz, hI, heq⟩ := hrel
    have Heq := Lib.hid heq; clear heq
    have hc := hbx.cell
    have hf := hbx.frozen
    have hi1 := Qm.indexByte_lt cur.data.toList 10
    have hl1 : cur.data.toList.length = cur.size := rfl
    rw [hl1] at hi1
    clear hl1
    by_cases hneg : Lib.indexByte cur.data.toList 10 < 0
    · have hln := Qm.linesOf_none hneg
      have hfin : pre = Qm.linesOf s := by have := Heq.out; rwa [hln, List.append_nil] at this
      have Hfin := Lib.hid hfin
      clear hln hfin
      gi_wp2_with (refine ⟨trivial, fun _ => (by omega), ?_⟩; gi_at_call 151; refine (callsIn_wide.2 (Tryz.strings_IndexByte _ _ _)).mono ?_; rintro e w1 ⟨rfl, rfl⟩)
      refine ⟨fun _ h => (by cases h), ?_⟩
      gi_wp2
      refine bodyPost_ret (results_none rfl _ _ _) rfl ?_
      exact ⟨⟨_, rfl⟩, by rw [← Hfin.out]; exact hI⟩
    · obtain ⟨i, hi⟩ := Int.eq_ofNat_of_zero_le (Int.not_lt.1 hneg)
      have hls := Qm.linesOf_some hi
      have Hls := Lib.hid hls
      have Hi := Lib.hid hi
      rw [hi] at hi1
      have hi2 : i < cur.size := by omega
      have hi3 : (i : Int) ≤ cur.size := by omega
      have hi4 : ((i : Int) + 1) ≤ cur.size := by omega
      have hi5 : i + 1 ≤ cur.size := by omega
      have hib : Lib.indexByte cur.data.toList (10 : Int).toNat.toUInt8 = i := hi
      clear hls hi hneg
      obtain ⟨fn, tmps, assign, body, hy, hR⟩ := hY pre (cur.extract 0 i) wr ⟨_, by have := Heq.out; rwa [Hls.out] at this⟩ hI
      gi_wp2_with (refine ⟨trivial, fun _ => (by omega), ?_⟩; gi_at_call 151; refine (callsIn_wide.2 (Tryz.strings_IndexByte _ _ _)).mono ?_; rintro e w1 ⟨rfl, rfl⟩; rw [hib])
      refine ⟨fun _ => (by omega), hR.mono ?_⟩
      rintro e W3 ⟨rfl, hI3, hB3⟩
      have hb3 := hB3 _ hbx
      have hc3 := hb3.cell
      have hf3 := hb3.frozen
      gi_wp2
      go_roundw
      case rel =>
        refine ⟨cur.extract (i + 1) cur.size, pre ++ [cur.extract 0 i], hb3.set _, ?_, hIs _ _ _ hI3, ?_⟩
        · rw [ByteArray.size_extract]; omega
        · have := Heq.out; rw [Hls.out] at this; rw [List.append_assoc]; exact this
      case measure =>
        rw [boxSize_eq (hb3.set _), boxSize_eq hbx, ByteArray.size_extract]; omega

set_option maxHeartbeats 400000 in
theorem each_any (s : ByteArray) (w : World) :
    Calls Tryz.prog 153 #[.string s] w fun e w' => e = .returned (.func (.func 163) #[] #[.pointer (some ⟨w.heap.size, 0, none⟩)]) ∧ w.alloc (.cells #[.string s] 9) = w' := by
  go_enter Tryz.func153, Tryz.ntmps153
  go_wp2
  go_ret
  exact ⟨rfl, rfl⟩

set_option maxHeartbeats 1000000 in
theorem split_bad (s : ByteArray) (w : World) (hbad : 65536 < s.size ∨ (0 ≤ Lib.indexByte s.data.toList 0 ∨ (Qm.eqB s ⟨#[]⟩ = false ∧ Lib.hasSuffix s.data.toList [10] = false))) :
    Calls Tryz.prog 136 #[.string s] w (Ret (.tuple #[.slice none 0 0, .int .i64 (Qm.splitErr s)]) w) := by
  by_cases h1 : 65536 < s.size
  · have hm : Qm.splitErr s = 4 := by simp [Qm.splitErr, h1]
    rw [hm]
    clear hbad hm
    go_enter Tryz.func136, Tryz.ntmps136
    have hx := Ext.refl w
    go_wp2
    (go_ret2; refine Ret.mk ?_ ?_; (focus (rfl; done)); (focus (exact EX; done)))
  · have h2 := hbad.resolve_left h1
    have hm : Qm.splitErr s = 3 := by simp [Qm.splitErr, h1, h2]
    rw [hm]
    clear hbad hm
    cases h3 : decide (Lib.indexByte s.data.toList 0 < 0)
    · have h4 : ¬ Lib.indexByte s.data.toList 0 < 0 := by simpa using h3
      clear h3 h2
      go_enter Tryz.func136, Tryz.ntmps136
      have hx := Ext.refl w
      go_wp2_with (go_at_call 151; refine (Tryz.strings_IndexByte _ _ _).mono ?_; rintro e w1 ⟨rfl, rfl⟩)
      (go_ret2; refine Ret.mk ?_ ?_; (focus (rfl; done)); (focus (exact EX; done)))
    · have h5 : Lib.indexByte s.data.toList 0 < 0 := by simpa using h3
      have h6 := h2.resolve_left (by omega)
      obtain ⟨h7, h8⟩ := h6
      have h9 : ¬ s.toList = [] := by
        intro e
        have : Qm.eqB s ⟨#[]⟩ = true := Qm.eqB_iff.2 (Qm.toList_inj (by rw [e, ByteArray.toList_eq]))
        rw [h7] at this
        cases this
      have h10 : s.toList.isEmpty = false := by simpa using h9
      clear h3 h2 h7 h9
      go_enter Tryz.func136, Tryz.ntmps136
      have hx := Ext.refl w
      go_wp2_with (first | (go_at_call 151; refine (Tryz.strings_IndexByte _ _ _).mono ?_; rintro e w1 ⟨rfl, rfl⟩) | (go_at_call 152; refine (Tryz.strings_HasSuffix _ _ _ (by omega)).mono ?_; rintro e w1 ⟨rfl, rfl⟩))
      (go_ret2; refine Ret.mk ?_ ?_; (focus (rfl; done)); (focus (exact EX; done)))
end Go.Proofs.YtnjcifppkijanaaGreatDoor
namespace Go.Proofs.YtnjcifppkijanaaGreatDoor
open Go.RowKit Go.Shelf
attribute [local go_sem] Oper.semAt_some

theorem Tryz.infoStr : (Tryz.prog.info? 9).map (fun i => (i.zero, i.size, i.bytes)) = some (some (.string ⟨#[]⟩), 1, 16) := by kernel_rfl

theorem row_ge {W : World} {base e size n g : Nat} {v : Value} {xs : List Value} (h : W.ownsRow base e size v n xs) (hg : v.ownBlock = some g) : base ≤ g := by
  rcases h.2 with ⟨rfl, _⟩ | ⟨g', cap, cur, rfl, hb, _⟩
  · simp [Value.ownBlock] at hg
  · obtain rfl : g' = g := by simpa [Value.ownBlock] using hg
    exact hb
theorem row_ne {W : World} {base e size n b : Nat} {v : Value} {xs : List Value} (h : W.ownsRow base e size v n xs) (hb : b < base) : some b ≠ v.ownBlock := fun e' => by
  have := row_ge h e'.symm
  omega

/-- What the loop of lines.Split keeps: the row lies beyond the three boxes. -/
def SplitInv (w : World) (pre : List ByteArray) (W : World) : Prop :=
  (∃ v, Boxed W w.heap.size 91 v ∧ W.ownsRow (w.heap.size + 1 + 1 + 1) 9 1 v pre.length (pre.map Value.string) ∧ True) ∧ Boxed W (w.heap.size + 1) 4 (.bool (Qm.longLine pre)) ∧ Ext w W ∧ w.heap.size + 1 + 1 + 1 ≤ W.heap.size

theorem splitInv_own (w : World) (B : Nat) (hB : w.heap.size ≤ B) : OwnFrom B (SplitInv w) :=
  ((holdsRow_own (w.heap.size + 1 + 1 + 1) w.heap.size 91 9 1 (fun pre : List ByteArray => pre.length) (fun pre => pre.map Value.string) (fun _ _ => True)).from B).and
    (((boxed_own (w.heap.size + 1) 4 (fun pre : List ByteArray => Value.bool (Qm.longLine pre))).from B).and (fun s W W' row hs hg hr => ⟨Below.grown hs.1 hg (Below.size hs.1) (fun k e => Nat.le_trans hB (hr k e).1), Nat.le_trans hs.2 hg.size⟩))

theorem splitInv_set {w W : World} {pre : List ByteArray} (h : SplitInv w pre W) (u : Value) : SplitInv w pre (W.setCell ⟨w.heap.size + 1 + 1, 0, none⟩ u) := by
  obtain ⟨⟨v', hv, hr, _⟩, hl, hx, hz⟩ := h
  exact ⟨⟨v', hv.other (by omega) u, ownsRow_setCell_below hr (by simp) u, trivial⟩, hl.other (by omega) u, hx.setCell (by simp; omega) u, by simpa using hz⟩

/-- Behind 'out = append(out, line)'. -/
theorem split_app {w W w1 : World} {v v' bl : Value} {pre : List ByteArray} {x : ByteArray} {tmp : Obj} (hv : Boxed W w.heap.size 91 v) (hr : W.ownsRow (w.heap.size + 1 + 1 + 1) 9 1 v pre.length (pre.map Value.string))
    (hl : Boxed W (w.heap.size + 1) 4 bl) (hx : Ext w W) (hz : w.heap.size + 1 + 1 + 1 ≤ W.heap.size) (hown : w1.ownsRow (w.heap.size + 1 + 1 + 1) 9 1 v' (pre.length + 1) (pre.map Value.string ++ [.string x])) (hg : (W.alloc tmp).grownBy w1 v.ownBlock) :
    Boxed w1 w.heap.size 91 v ∧
    (∃ v'', Boxed (w1.setCell ⟨w.heap.size, 0, none⟩ v') w.heap.size 91 v'' ∧ (w1.setCell ⟨w.heap.size, 0, none⟩ v').ownsRow (w.heap.size + 1 + 1 + 1) 9 1 v'' (pre ++ [x]).length ((pre ++ [x]).map Value.string) ∧ True) ∧
    Boxed (w1.setCell ⟨w.heap.size, 0, none⟩ v') (w.heap.size + 1) 4 bl ∧ (Ext w (w1.setCell ⟨w.heap.size, 0, none⟩ v') ∧ w.heap.size + 1 + 1 + 1 ≤ (w1.setCell ⟨w.heap.size, 0, none⟩ v').heap.size) ∧ KeepsOthers W (w1.setCell ⟨w.heap.size, 0, none⟩ v') ∧
    (∀ u, Boxed W (w.heap.size + 1 + 1) 9 u → Boxed (w1.setCell ⟨w.heap.size, 0, none⟩ v') (w.heap.size + 1 + 1) 9 u) := by
  have h1 : Boxed w1 w.heap.size 91 v := (hv.alloc tmp).kept hg (row_ne hr (by omega))
  have h2 : Boxed w1 (w.heap.size + 1) 4 bl := (hl.alloc tmp).kept hg (row_ne hr (by omega))
  have hxx : Ext w w1 := Below.grown (hx.alloc tmp) hg (by simp; exact Nat.le_succ_of_le hx.size_le) (fun k e => by have := row_ge hr e; omega)
  refine ⟨h1, ⟨v', h1.set v', ?_, trivial⟩, h2.other (by omega) v', ⟨hxx.setCell (Nat.le_refl _) v', ?_⟩, ?_, fun u hu => ((hu.alloc tmp).kept hg (row_ne hr (by omega))).other (by omega) v'⟩
  · have h3 := ownsRow_setCell_below hown (a := ⟨w.heap.size, 0, none⟩) (by simp; omega) v'
    simpa using h3
  · have h4 := hg.size
    simp at h4 ⊢
    omega
  · refine ((KeepsOthers.alloc W tmp).trans (KeepsOthers.of_grownBy hg fun j o ej hj => ?_)).trans (KeepsOthers.setCell _ _ _)
    rcases (hr.alloc tmp).2 with ⟨rfl, _⟩ | ⟨g, cap, cur, rfl, _, hgb, _⟩
    · simp [Value.ownBlock] at ej
    · obtain rfl : g = j := by simpa [Value.ownBlock] using ej
      rw [hgb] at hj; cases hj; rfl

theorem split_start (w : World) (s : ByteArray) : SplitInv w [] (((w.alloc (.cells #[.slice none 0 0] 91)).alloc (.cells #[.bool false] 4)).alloc (.cells #[.string s] 9)) ∧
    Boxed (((w.alloc (.cells #[.slice none 0 0] 91)).alloc (.cells #[.bool false] 4)).alloc (.cells #[.string s] 9)) (w.heap.size + 1 + 1) 9 (.string s) := by
  have h1 := Boxed.new w 91 (.slice none 0 0)
  have h2 := Boxed.new (w.alloc (.cells #[.slice none 0 0] 91)) 4 (.bool false)
  have h3 := Boxed.new ((w.alloc (.cells #[.slice none 0 0] 91)).alloc (.cells #[.bool false] 4)) 9 (.string s)
  simp only [World.size_alloc] at h2 h3
  exact ⟨⟨⟨_, (h1.alloc _).alloc _, World.ownsRow_nil _ _ _ _, trivial⟩, h2.alloc _, (((Ext.refl w).alloc _).alloc _).alloc _, by simp⟩, h3⟩

theorem lst_of_own {W : World} {base : Nat} {v : Value} {l : List ByteArray} (h : W.ownsRow base 9 1 v l.length (l.map Value.string)) : ∃ A c, v = .slice A l.length c ∧ Lst W A l.length l := by
  rcases h.2 with ⟨rfl, h0⟩ | ⟨g, cap, cur, rfl, hb, hg, rest⟩
  · refine ⟨none, 0, by rw [h0], rfl, fun hn => by omega⟩
  · refine ⟨some ⟨g, 0, none⟩, cap, rfl, rfl, fun _ => ⟨g, 0, rfl, (Array.getElem?_eq_some_iff.1 hg).1, fun j hj => ?_⟩⟩
    have := h.cells (g := g) rfl j (.string (l.getD j ByteArray.empty)) (by simp [List.getD, List.getElem?_eq_getElem hj])
    rw [Nat.zero_add]
    by_cases h0 : j = 0
    · subst h0; exact this
    · simpa [Addr.add, h0] using this

theorem Ext.putObj {w W : World} {D : Nat} (h : Ext w W) (hD : w.heap.size ≤ D) (o : Obj) : Ext w (W.putObj D o) :=
  ⟨h.os, h.tape, h.output, by simp; exact h.size_le, fun k hk => (World.putObj_heap_other (by omega)).trans (Below.block h k hk)⟩
theorem Lst.putObj {W : World} {A : Option Addr} {n D : Nat} {l : List ByteArray} {o : Obj} (h : Lst W A n l) (hD : W.heap[D]? = some o) (ho : o.isCells = false) (o' : Obj) : Lst (W.putObj D o') A n l := by
  refine ⟨h.1, fun hn => ?_⟩
  obtain ⟨b, q, hA, hb, hc⟩ := h.2 hn
  exact ⟨b, q, hA, by simpa using hb, fun j hj => cell_kept (hc j hj) (grownBy_putObj' W D o') (fun r e => by cases e; exact ⟨o, hD, ho⟩)⟩

theorem cell_one_new_set (W : World) (p : Addr) (b x : Value) (t : TypeId) : ∀ j u, [x][j]? = some u → ((W.setCell p b).alloc (.cells #[x] t)).cell? ((⟨W.heap.size, 0, none⟩ : Addr).add j) = some u := by
  intro j u hj
  have hn := cell_one_new (W.setCell p b) x t j u hj
  rw [World.size_setCell] at hn
  exact hn
/-- What lines.Split hands back. -/
def SplitPost (s : ByteArray) (w : World) (e : Ending) (w' : World) : Prop :=
  ∃ A n c, e = .returned (.tuple #[.slice A n c, .int .i64 (Qm.splitErr s)]) ∧ Ext w w' ∧ Lst w' A n (if Qm.splitErr s = 0 then Qm.linesOf s else [])

set_option maxHeartbeats 4000000 in
set_option maxRecDepth 100000 in
theorem split_ok (n : Nat) (hn : 9 ≤ n) (s : ByteArray) (w : World) (h1 : s.size ≤ 65536) (h5 : Lib.indexByte s.data.toList 0 < 0) (h6 : Qm.eqB s ⟨#[]⟩ = true ∨ Lib.hasSuffix s.data.toList [10] = true) :
    CallsIn Fence.wide n Tryz.prog 136 #[.string s] w (SplitPost s w) := by
  have h7 : s.toList.isEmpty = true ∨ Lib.hasSuffix s.data.toList [10] = true := h6.imp (fun h => by rw [Qm.eqB_iff.1 h, ByteArray.toList_eq]; rfl) id
  refine callsIn_of_wp_marks Tryz.func136 rfl trivial ?_ rfl
  simp only [Tryz.ntmps136, List.size_toArray, List.length_cons, List.length_nil, Nat.reduceAdd, Nat.reduceSub, Array.replicate_succ, Array.replicate_zero, List.push_toArray, List.append_toArray, List.nil_append, List.cons_append]
  cases hE : s.toList.isEmpty
  focus
    have h8 := h7.resolve_left (by rw [hE]; exact Bool.false_ne_true)
    clear h7
    gi_wp2_with (first | (refine ⟨trivial, fun _ => (by omega), ?_⟩; gi_at_call 151; refine (callsIn_wide.2 (Tryz.strings_IndexByte _ _ _)).mono ?_; rintro e w1 ⟨rfl, hww⟩; first | obtain rfl := hww.symm | obtain rfl := hww) | (refine ⟨trivial, fun _ => (by omega), ?_⟩; gi_at_call 152; refine (callsIn_wide.2 (Tryz.strings_HasSuffix _ _ _ (by omega))).mono ?_; rintro e w1 ⟨rfl, hww⟩; first | obtain rfl := hww.symm | obtain rfl := hww) | (refine ⟨trivial, fun _ => (by omega), ?_⟩; gi_at_call 153; refine (callsIn_wide.2 (each_any _ _)).mono ?_; rintro e w1 ⟨rfl, hww⟩; first | obtain rfl := hww.symm | obtain rfl := hww))
  rotate_left
  focus
    clear h7
    gi_wp2_with (refine ⟨trivial, fun _ => (by omega), ?_⟩; gi_at_call 151; refine (callsIn_wide.2 (Tryz.strings_IndexByte _ _ _)).mono ?_; rintro e w1 ⟨rfl, hww⟩; first | obtain rfl := hww.symm | obtain rfl := hww)
    refine ⟨trivial, ?_⟩
    gi_wp2_with (refine ⟨trivial, fun _ => (by omega), ?_⟩; gi_at_call 153; refine (callsIn_wide.2 (each_any _ _)).mono ?_; rintro e w1 ⟨rfl, hww⟩; first | obtain rfl := hww.symm | obtain rfl := hww)
  all_goals
    refine wpIn_range_one 6 (gf := 163) (lb := #[.pointer (some ⟨w.heap.size + 1 + 1, 0, none⟩)]) rfl (enters_of Tryz.func163 (by kernel_rfl) rfl) (enc := fun x => Value.string x) (each1_gives (n - 1) (w.heap.size + 1 + 1) s (by omega) (by omega)) (SplitInv w) ?_ ?_ ?_ ?_ ?_ ?_ ?_
    · exact splitInv_own w _ (by simp; omega)
    · exact fun pre W v h => splitInv_set h v
    · exact (split_start w s).1
    · exact (split_start w s).2
    · intro l x W K hK
      simp only [List.setIfInBounds_toArray, List.set_cons_succ, List.set_cons_zero] at hK ⊢
      gi_wp2
      exact hK
    · rintro l pre x W ⟨rest, hrest⟩ ⟨⟨v, hv, hr, _⟩, hl, hx, hsz0⟩
      have hlen : pre.length < s.size := by
        have h9 := Qm.linesOf_length s
        rw [← hrest] at h9
        simp at h9
        omega
      clear hrest
      have hmax : pre.length + 1 ≤ maxLen := by unfold maxLen; omega
      have hby : (pre.length + 1) * 16 ≤ 140737488355328 := by omega
      obtain ⟨i0, hi0, hz0, hz1, hz2⟩ := info_parts Tryz.infoStr
      simp only [List.setIfInBounds_toArray, List.set_cons_succ, List.set_cons_zero]
      have hsz : w.heap.size + 1 + 1 + 1 ≤ W.heap.size := hsz0
      cases hlong : Qm.longLine pre
      all_goals
        rw [hlong] at hl
        have hvc := hv.cell
        have hvf := hv.frozen
        have hlc := hl.cell
        have hlf := hl.frozen
        have HL := fun b => hl.set (.bool b)
        have HV := fun b => hv.other (B' := w.heap.size + 1) (by omega) (.bool b)
        have HR := fun b => ownsRow_setCell_below hr (a := ⟨w.heap.size + 1, 0, none⟩) (by simp) (.bool b)
        have HX := fun b => hx.setCell (p := ⟨w.heap.size + 1, 0, none⟩) (by simp) (.bool b)
        gi_wp2_with (gi_at_builtin; refine wpListIn_append_own _ rfl (.tmp 31) (.tmp 33) 91 rfl (w.heap.size + 1 + 1 + 1) 9 i0 (.string ⟨#[]⟩) 1 16 Tryz.underlying91 hi0 hz0 hz1 hz2 rfl (by decide) v pre.length (pre.map Value.string) rfl ((HR _).alloc _) ⟨W.heap.size, 0, none⟩ 1 1 [.string x] rfl rfl ?_ (by simp [Value.oneCell']) hmax hby ?_ ?_)
        focus
          intro j u hj
          exact cell_one_new_set W _ _ (.string x) 9 j u hj
        focus
          simp
          omega
        intro v' w1 hown' hgrow _
        obtain ⟨g', cap', rfl⟩ := ownsRow_succ hown'
        obtain ⟨hv1, hout, hl2, hx2, hk2, hs2⟩ := split_app (HV _) (HR _) (HL _) (HX _) (by simpa using hsz) hown' hgrow
        have hc1 := hv1.cell
        have hf1 := hv1.frozen
        gi_wp2
        refine ⟨(KeepsOthers.setCell W _ _).trans hk2, ⟨hout, ?_, hx2⟩, fun u hu => hs2 u (hu.other (by omega) _)⟩
        rw [Qm.longLine_snoc, hlong]
        have e1 : decide ((1000 : Int) < (x.size : Int)) = decide (1000 < x.size) := decide_eq_decide.2 (by omega)
        first
          | (simpa using hl2)
          | (rw [e1] at hl2; simpa using hl2)
    · rintro D W hD ⟨⟨v, hv, hr, _⟩, hl, hx, _⟩ hK
      obtain ⟨A, c, rfl, hlst⟩ := lst_of_own hr
      have hvc := hv.cell
      have hlc := hl.cell
      have herr := Qm.splitErr_of h1 h5 h6
      have hlen := Qm.linesOf_length s
      have hD2 : w.heap.size ≤ D := by simp at hD; omega
      cases hlong : Qm.longLine (Qm.linesOf s)
      all_goals
        rw [hlong] at hl herr hlc
        have Herr := Lib.hid herr
        clear herr hlong
        gi_wp2
      all_goals
        refine ⟨by simp, .inl ⟨_, _, rfl, run_takeDeferred hK, ?_⟩⟩
        refine ⟨_, results_tmp2 rfl _ _ _, ?_⟩
        first
          | (have e0 : Qm.splitErr s = 0 := by (rw [Herr.out, if_neg (by simp; omega)])
             exact ⟨A, _, c, by rw [e0]; rfl, hx.putObj hD2 _, by rw [if_pos e0]; exact hlst.putObj hK rfl _⟩)
          | (have e0 : Qm.splitErr s = 4 := by (rw [Herr.out, if_pos (by simp; try omega)])
             exact ⟨none, 0, 0, by rw [e0]; rfl, hx.putObj hD2 _, by rw [if_neg (by omega)]; exact Lst.nil _ _⟩)

theorem split_any (s : ByteArray) (w : World) : Calls Tryz.prog 136 #[.string s] w (SplitPost s w) := by
  by_cases h : 65536 < s.size ∨ (0 ≤ Lib.indexByte s.data.toList 0 ∨ (Qm.eqB s ⟨#[]⟩ = false ∧ Lib.hasSuffix s.data.toList [10] = false))
  · refine (split_bad s w h).mono ?_
    rintro e w' ⟨rfl, hx⟩
    refine ⟨none, 0, 0, rfl, hx, ?_⟩
    have h0 : ¬ Qm.splitErr s = 0 := by
      unfold Qm.splitErr
      split
      · decide
      · rename_i h1
        rw [if_pos (h.resolve_left h1)]
        decide
    rw [if_neg h0]
    exact Lst.nil _ _
  · simp only [not_or, not_and, Bool.not_eq_false, Int.not_le, Nat.not_lt] at h
    obtain ⟨h1, h2, h3⟩ := h
    refine (callsIn_wide (n := 9)).1 (split_ok 9 (by omega) s w h1 h2 ?_)
    cases h4 : Qm.eqB s ⟨#[]⟩
    · exact .inr (h3 h4)
    · exact .inl rfl
end Go.Proofs.YtnjcifppkijanaaGreatDoor
namespace Go.Proofs.YtnjcifppkijanaaGreatDoor
open Go.RowKit

set_option maxHeartbeats 800000 in
theorem isText_any (s : ByteArray) (w : World) : Calls Tryz.prog 109 #[.string s] w (Ret (.bool (Qm.isText s)) w) := by
  go_enter Tryz.func109, Tryz.ntmps109
  have hx := Ext.refl w
  go_wp2_with (go_at_call 136; refine (split_any _ _).mono ?_; rintro e w1 ⟨A, n, c, rfl, hx1, hl1⟩; replace hx := hx1)
  (go_ret; refine Ret.mk ?_ ?_; (focus (simp [Qm.isText]; done)); (focus (exact EX; done)))

set_option maxHeartbeats 800000 in
theorem content_any (k : Int) (s : ByteArray) (w : World) : Calls Tryz.prog 81 #[.int .i64 k, .string s] w (Ret (.int .i64 (Qm.content k s)) w) := by
  go_enter Tryz.func81, Tryz.ntmps81
  have hx := Ext.refl w
  go_wp2_with (go_at_call 109; refine (isText_any _ _).mono ?_; rintro e w1 ⟨rfl, hx0⟩; have hy := Ext.trans (a := w) EX hx0; clear hx; have hx := hy; clear hy; skip; (try clear hx0))
  all_goals (go_ret; refine Ret.mk ?_ ?_; (focus (refine congrArg (Value.int .i64) ?_; unfold Qm.content; repeat' split; all_goals first | rfl | omega | simp_all; done)); (focus (exact EX; done)))
end Go.Proofs.YtnjcifppkijanaaGreatDoor
