/- Walks: lists of people copied, thinned, looked through. Reviews, votes and digests that came in, opened: what their cells hold, and that they read again as they did. Walks: ReviewLast. -/
import Derived.Test.YtojfgidoobgcaaaGreatDoorOc
import Derived.Test.YtojfgidoobgcaaaGreatDoorSo
import Derived.Test.YtojfgidoobgcaaaGreatDoorSd
import Derived.OpenShut
import Derived.ReadAgain
import Derived.Deep.Strs
import Derived.Deep.Slices
import Derived.Shelf.Vars
import Derived.SizedLaws
import Derived.Test.YtojfgidoobgcaaaGreatDoorOi
import Derived.Test.YtojfgidoobgcaaaGreatDoorNm
import Derived.Test.YtojfgidoobgcaaaGreatDoorNq
import Derived.Test.YtojfgidoobgcaaaGreatDoorNs
import Derived.Test.YtojfgidoobgcaaaGreatDoorHeld
import Derived.Test.YtojfgidoobgcaaaGreatDoorMf
set_option linter.unusedSimpArgs false
set_option linter.unusedVariables false
namespace Go.Proofs.YtojfgidoobgcaaaGreatDoor
open Go Go.RowKit Go.Lib Go.Sort

theorem sinfo : ∃ (i : TypeInfo) (z : Value), Tryz.prog.info? 9 = some i ∧ i.zero = some z ∧ i.size = 1 ∧ i.bytes = 16 ∧ z.cells.size = 1 := by
  have h : (Tryz.prog.info? 9).map (fun i => (i.size, i.bytes, i.zero.map fun z => z.cells.size)) = some (1, 16, some 1) := by kernel_rfl
  cases hq : Tryz.prog.info? 9 with
  | none => rw [hq] at h; cases h
  | some i =>
    rw [hq] at h
    simp only [Option.map_some, Option.some.injEq, Prod.mk.injEq] at h
    obtain ⟨h1, h2, h3⟩ := h
    cases hz : i.zero with
    | none => rw [hz] at h3; cases h3
    | some z => rw [hz] at h3; exact ⟨i, z, rfl, hz, h1, h2, by simpa using h3⟩
abbrev StrOwn (w : World) (base : Nat) (v : Value) (l : List ByteArray) : Prop := w.ownsRow base 9 1 v l.length (l.map Value.string)
set_option maxRecDepth 100000 in
theorem strclone_empty (ad : Addr) (c : Nat) (w : World) : Calls Tryz.prog 23 #[.slice (some ad) 0 c] w (fun e w' => ∃ v', e = .returned v' ∧ StrOwn w' w.heap.size v' [] ∧ Ext w w') := by
  obtain ⟨i0, z0, hi0, hz0, hs0, hby0, hzk0⟩ := sinfo
  have hown : (w.alloc (.cells #[] 9)).ownsRow w.heap.size 9 1 (.slice (some ⟨w.heap.size, 0, none⟩) 0 0) 0 [] := ⟨rfl, .inr ⟨w.heap.size, 0, #[], rfl, Nat.le_refl _, (Blk.new' rfl).eq, Nat.le_refl _, Nat.zero_le _, rfl, rfl⟩⟩
  have hq22 : ∀ (w : World) (a : Option Addr) (n c n' c' : Nat), (binOp .eql 30 (.slice a n c) (.slice none n' c')).run Tryz.prog w = .ok (.bool a.isNone) w := fun w a n c n' c' => Lib.run_eql_slice_nil w _ _ a n c n' c' Tryz.underlying30
  have HOW := Lib.hid hown
  clear hown
  go_enter Tryz.func23, Tryz.ntmps23
  have hx := Ext.refl w
  go_wp2_with (at_builtin; refine wpList_append_zeroN rfl _ _ 30 rfl w.heap.size 9 i0 1 Tryz.underlying30 hi0 _ 0 [] rfl HOW.out ad c rfl ?_)
  go_ret
  exact ⟨_, rfl, HOW.out, EX⟩
theorem strclone_any (A : Option Addr) (n c : Nat) (l : List ByteArray) (w : World) (h : Lst w A n l) (hb : n ≤ 1000000000) :
    Calls Tryz.prog 23 #[.slice A n c] w (fun e w' => ∃ v', e = .returned v' ∧ StrOwn w' w.heap.size v' l ∧ Ext w w') := by
  obtain ⟨hn, hc⟩ := h
  by_cases h0 : n = 0
  · subst h0
    obtain rfl : l = [] := List.length_eq_zero_iff.1 hn
    cases A with
    | none =>
      refine (Tryz.slices_Clone_nil 0 c w).mono ?_
      rintro e w' ⟨rfl, rfl⟩
      exact ⟨_, rfl, ⟨rfl, .inl ⟨rfl, rfl⟩⟩, Ext.refl _⟩
    | some ad => exact strclone_empty ad c w
  obtain ⟨b, o, rfl, hbl, hcl⟩ := hc (by omega)
  obtain ⟨i0, z0, hi0, hz0, hs0, hby0, hzk0⟩ := sinfo
  have hsz : ∀ W, (Go.sizeOf 9).run Tryz.prog W = .ok 1 W := fun W => by kernel_rfl
  refine (Tryz.slices_Clone i0 z0 1 16 hi0 hz0 hs0 hby0 hzk0 (by decide) hsz b o n c (l.map Value.string) w (by rw [List.length_map, hn, Nat.mul_one]) (by unfold maxLen; omega) (by omega) (fun j u hj => ?_) (fun u hu => ?_)).mono ?_
  · rw [List.getElem?_map] at hj
    have hjl : j < l.length := by
      rcases Nat.lt_or_ge j l.length with h | h
      · exact h
      · rw [List.getElem?_eq_none h] at hj
        cases hj
    rw [hcl j (by omega), ← hj, List.getElem?_eq_getElem hjl]
    simp [hjl]
  · obtain ⟨x, _, rfl⟩ := List.mem_map.1 hu
    rfl
  · rintro e w' ⟨v', rfl, hown, _, hx⟩
    subst hn
    exact ⟨v', rfl, hown, hx⟩
set_option maxRecDepth 100000 in
/-- ReviewLast's closure. -/
theorem others_any (x who : ByteArray) (gv : Nat) (w : World) (hc : w.cell? ⟨gv, 0, none⟩ = some (.string who)) :
    FnGives Tryz.prog 21 #[.pointer (some ⟨gv, 0, none⟩)] #[.string x] (.bool (Qm.eqB x who)) w := by
  show Calls Tryz.prog 21 #[.string x, .pointer (some ⟨gv, 0, none⟩)] w fun e w' => e = .returned (.bool (Qm.eqB x who)) ∧ ∃ q, w' = w.drewN q
  go_enter Tryz.func21, Tryz.ntmps21
  have hx := Ext.refl w
  go_wp2_with fail
  go_ret
  exact ⟨rfl, 0, rfl⟩
theorem others_below (who : ByteArray) (gv : Nat) (w : World) (hl : gv < w.heap.size) (hc : w.cell? ⟨gv, 0, none⟩ = some (.string who)) : PredAt Tryz.prog 21 #[.pointer (some ⟨gv, 0, none⟩)] Value.string (fun x => Qm.eqB x who) w :=
  fun W x hb => others_any x who gv W (by rw [Below.cell hb (p := ⟨gv, 0, none⟩) hl]; exact hc)
theorem sdel_none (A : Option Addr) (c : Nat) (f : Value) (w : World) : Calls Tryz.prog 22 #[.slice A 0 c, f] w (fun e w' => e = .returned (.slice A 0 c) ∧ Ext w w') := by
  have HI : Hid (∀ W, Calls Tryz.prog 48 #[.slice A 0 c, f] W (fun e w' => e = .returned (.int .i64 (-1)) ∧ Ext W w')) := Lib.hid fun W => by
    have hx := Ext.refl W
    go_enter Tryz.func48, Tryz.ntmps48
    go_wp2_with fail
    refine wp_loop_rounds 1 ?_
    rw [rounds_succ]
    go_wp2_with fail
    go_ret
    exact ⟨rfl, hx⟩
  go_enter Tryz.func22, Tryz.ntmps22
  have hx := Ext.refl w
  go_wp2_with fail
  refine (HI.out _).mono ?_
  rintro e w1 ⟨rfl, hx0⟩
  clear hx HI
  have hx := hx0
  clear hx0
  go_wp2_with fail
  go_ret
  exact ⟨rfl, hx⟩
/-- What is left of a list of people but for one. -/
abbrev butFor (who : ByteArray) (l : List ByteArray) : List ByteArray := l.filter (fun x => !Qm.eqB x who)
theorem strdelete_any (base : Nat) (v : Value) (l : List ByteArray) (w : World) (h : StrOwn w base v l) (hl : l.length ≤ 1000000000) (who : ByteArray) (gv : Nat) (hg : gv < base) (hgl : gv < w.heap.size) (hc : w.cell? ⟨gv, 0, none⟩ = some (.string who)) :
    Calls Tryz.prog 22 #[v, .func (.func 21) #[] #[.pointer (some ⟨gv, 0, none⟩)]] w
      (fun e w' => ∃ A c, e = .returned (.slice A (butFor who l).length c) ∧ Lst w' A (butFor who l).length (butFor who l) ∧ ∀ w0, Ext w0 w → w0.heap.size ≤ base → Ext w0 w') := by
  obtain ⟨h1, ⟨rfl, h2⟩ | ⟨g, cap, cur, rfl, h3, h4, h5, h6, h7, h8⟩⟩ := h
  · obtain rfl := List.length_eq_zero_iff.1 h2
    refine (sdel_none none 0 _ w).mono ?_
    rintro e w' ⟨rfl, hx⟩
    exact ⟨none, 0, rfl, ⟨rfl, fun h => absurd h (Nat.lt_irrefl 0)⟩, fun w0 h0 _ => h0.trans hx⟩
  · rw [Nat.mul_one] at h8 h7
    have hB : Blk w g 9 cur := Blk.mk h4
    have hH : Holds Value.string w g 0 l.toArray := fun j hj => by
      have hjT : j < l.length := by simpa using hj
      rw [Nat.zero_add, hB.cell, hB.frozen]
      refine ⟨?_, rfl⟩
      have e1 : cur[j]? = (l.map Value.string)[j]? := by
        rw [← h8, List.getElem?_take_of_lt hjT, Array.getElem?_toList]
      rw [e1, List.getElem?_map, List.getElem?_eq_getElem hjT]
      simp [hjT]
    have hO : OneCell (α := ByteArray) Value.string := fun x => rfl
    have hz : ∀ w, (zeroValue 9).run Tryz.prog w = .ok (Value.string ByteArray.empty) w := fun w => by kernel_rfl
    have hD := AnyE.slices_DeleteFunc Tryz.laysDel Value.string hO (fun x => Qm.eqB x who) 21 #[.pointer (some ⟨gv, 0, none⟩)] (enters_of Tryz.func21 (by kernel_rfl) rfl) ByteArray.empty hz g 0 cap l.toArray w
      (others_below who gv w hgl hc) (fun n os dk x hdk => others_any x who gv _ (by
        have hgs : gv < (putRow Value.string (Sort.ahead w n) g 0 dk).heap.size := by rw [size_putRow]; exact hgl
        show (grow (putRow Value.string (Sort.ahead w n) g 0 dk) os).cell? _ = _
        rw [World.cell?_of_block (a := ⟨gv, 0, none⟩) (heap_grow_old _ os hgs), cell?_putRow_other _ _ _ _ _ _ (.inl (by show gv ≠ g; omega))]
        exact hc)) hH (by simp; omega) (by simpa using h5)
    have e0 : l.toArray.size = l.length := by simp
    rw [e0] at hD
    refine hD.mono ?_
    rintro e w' ⟨rfl, q, rfl⟩
    have e1 : l.toArray.toList = l := by simp
    rw [e1]
    obtain ⟨_, hc2⟩ := grow_at (n := q) (os := #[]) (f := putCells Value.string 0 ((butFor who l) ++ List.replicate (l.length - (butFor who l).length) ByteArray.empty).toArray) h4
    rw [grow_empty] at hc2
    have hfl : (butFor who l).length ≤ l.length := List.length_filter_le _ _
    have hH2 : Holds Value.string (Sort.ahead w q) g 0 l.toArray := hH
    refine ⟨_, _, rfl, ⟨rfl, fun h0 => ⟨g, 0, rfl, ?_, fun j hj => ?_⟩⟩, fun w0 h0 hle => hc2 w0 h0 (by omega)⟩
    · show g < (putRow _ _ _ _ _).heap.size
      rw [size_putRow]
      exact hB.lt
    · have := cell?_putRow Value.string (Sort.ahead w q) g 0 l.toArray ((butFor who l) ++ List.replicate (l.length - (butFor who l).length) ByteArray.empty).toArray hH2 (by simp; omega) j (by simp; omega)
      rw [this]
      congr 2
      have hj2 : j < ((butFor who l) ++ List.replicate (l.length - (butFor who l).length) ByteArray.empty).toArray.size := by simp; omega
      rw [getElem!_pos _ j hj2]
      simp [List.getElem_append, hj]
theorem sorted_any (A : Option Addr) (n c : Nat) (l : List ByteArray) (w : World) (h : Lst w A n l) (hu : Vw.Up l) (hb : n ≤ 1000000000) :
    Calls Tryz.prog 24 #[.slice A n c] w (Ret (.bool true) w) := by
  obtain ⟨hn, hc⟩ := h
  rcases Nat.eq_zero_or_pos n with h0 | h0
  · subst h0
    refine (AnyO.slices_IsSorted_string_none Tryz.laysSorted A c w).mono ?_
    rintro e w' ⟨rfl, rfl⟩
    exact ⟨rfl, Ext.refl _⟩
  obtain ⟨b, o, rfl, hbl, hcl⟩ := hc h0
  have hS := AnyO.slices_IsSorted_string Tryz.laysSorted b o c l.toArray w (fun i hi => by
    have hi' : i < l.length := by simpa using hi
    rw [hcl i (by omega), getElem!_pos _ i hi]
    simp [hi']) (by simp; omega)
  have e0 : l.toArray.size = n := by simp [hn]
  rw [e0] at hS
  refine hS.mono ?_
  rintro e w' ⟨rfl, q, rfl⟩
  refine ⟨?_, (Ext.refl w).drewN q⟩
  congr 2
  rw [downOK_iff]
  intro i hi
  have h1 : i + 1 < l.toArray.size := by omega
  have h2 : i < l.toArray.size := by omega
  rw [getElem!_pos _ (i + 1) h1, getElem!_pos _ i h2]
  have hlt : Tr.lt l[i] l[i + 1] = true := List.pairwise_iff_getElem.1 hu i (i + 1) (by omega) (by omega) (by omega)
  have hge := Tr.lt_asymm hlt
  rw [decide_eq_false_iff_not]
  intro hh
  have := Tr.lt_iff.2 hh
  rw [List.getElem_toArray, List.getElem_toArray] at this
  rw [hge] at this
  cases this
def isIn (x : ByteArray) (l : List ByteArray) : Bool := l.any (fun y => Qm.eqB y x)
theorem isIn_iff {x : ByteArray} {l : List ByteArray} : isIn x l = true ↔ x ∈ l := by
  unfold isIn
  rw [List.any_eq_true]
  exact ⟨fun ⟨y, hy, e⟩ => by rw [← Qm.eqB_iff.1 e]; exact hy, fun h => ⟨x, h, Qm.eqB_iff.2 rfl⟩⟩
theorem scontains_any (A : Option Addr) (n c : Nat) (l : List ByteArray) (x : ByteArray) (w : World) (h : Lst w A n l) (hb : n ≤ 1000000000) :
    Calls Tryz.prog 25 #[.slice A n c, .string x] w (Ret (.bool (isIn x l)) w) := by
  obtain ⟨hn, hc⟩ := h
  rcases Nat.eq_zero_or_pos n with h0 | h0
  · subst h0
    obtain rfl : l = [] := List.length_eq_zero_iff.1 hn
    refine (Tryz.slices_Contains_string_empty A c x w).mono ?_
    rintro e w' ⟨rfl, rfl⟩
    exact ⟨rfl, Ext.refl _⟩
  obtain ⟨b, o, rfl, hbl, hcl⟩ := hc h0
  refine (Tryz.slices_Contains_string b o n c l x w (by omega) (by omega) (fun j hj => hcl j (by omega))).mono ?_
  rintro e w' ⟨rfl, hw⟩
  have ht : l.take n = l := List.take_of_length_le (by omega)
  refine ⟨?_, ?_⟩
  · rw [ht]
    congr 2
    rw [Bool.eq_iff_iff, containsS_iff, isIn_iff]
  · first | (obtain ⟨q, rfl⟩ := hw; exact (Ext.refl w).drewN q) | (subst hw; exact Ext.refl _)
end Go.Proofs.YtojfgidoobgcaaaGreatDoor
namespace Go.Proofs.YtojfgidoobgcaaaGreatDoor
open Go Go.ChangeShapes Go.WideShapes Go.RowKit Go.Deep

theorem cInt : Tryz.prog.cellsOf 3 = 1 := by kernel_rfl
theorem cByte : Tryz.prog.cellsOf 5 = 1 := by kernel_rfl
theorem cString : Tryz.prog.cellsOf 9 = 1 := by kernel_rfl
theorem cDigest : Tryz.prog.cellsOf 69 = 32 := by kernel_rfl
theorem cDigests : Tryz.prog.cellsOf 25 = 1 := by kernel_rfl
theorem cVote : Tryz.prog.cellsOf 39 = 4 := by kernel_rfl
theorem cVotes : Tryz.prog.cellsOf 26 = 1 := by kernel_rfl
theorem cReview : Tryz.prog.cellsOf 28 = 6 := by kernel_rfl
instance : Inhabited Vt := ⟨⟨⟨#[]⟩, 0, ⟨#[]⟩, []⟩⟩
instance : Inhabited Rv := ⟨⟨0, ⟨#[]⟩, ⟨#[]⟩, [], 0, []⟩⟩

section
variable {H : Type} {enc : TypeId × Value → H} {W : World} {held : Bool}

theorem add_none (b o i : Nat) : (⟨b, o, none⟩ : Addr).add i = ⟨b, o + i, none⟩ := by unfold Addr.add; split <;> simp_all
theorem weightsAll_mem {e : TypeId} {d : DataW H} : ∀ {ds : List (DataW H)}, d ∈ ds → ∀ n ∈ d.weights Tryz.prog e, n ∈ DataW.weightsAll Tryz.prog e ds
  | d0 :: r, hd, n, hn => by
    unfold DataW.weightsAll
    rcases List.mem_cons.1 hd with rfl | h
    · exact List.mem_append_left _ hn
    · exact List.mem_append_right _ (weightsAll_mem h n hn)
theorem weights_mem {ts : List TypeId} {ds : List (DataW H)} {j : Nat} {t : TypeId} {d : DataW H} (hw : ∀ n ∈ DataW.weightsEach Tryz.prog ts ds, n ≤ reachBytes) (ht : ts[j]? = some t) (hd : ds[j]? = some d) : ∀ n ∈ d.weights Tryz.prog t, n ≤ reachBytes :=
  fun n hn => hw n (DataW.weights_mem_each ht hd n hn)

/-- The string's size. -/
theorem str_size {n : Nat} {v : Value} {z : ByteArray} {y : DataW H × List MemPlace} (h : DataW.trod enc Tryz.prog W 0 (fun _ => true) held n 9 [v] = some y) (hw : ∀ k ∈ y.1.weights Tryz.prog 9, k ≤ reachBytes) (hv : v = .string z) : z.size ≤ 140737488351232 := by
  obtain ⟨s, h1, h2, _⟩ := DataW.trod_string Tryz.underlying9 h
  have : v = .string s := by simpa using h1
  rw [hv] at this
  obtain rfl : z = s := by simpa using this
  rw [h2] at hw
  have h9 := hw z.data.toList.length (by simp [DataW.weights])
  unfold reachBytes at h9
  rw [Array.length_toList] at h9
  have h8 : z.size = z.data.size := rfl
  omega

/-- A list that came in, whatever its elements. -/
theorem open_sls {α : Type} [Inhabited α] {t e : TypeId} {k by_ : Nat} (R : Reads α) (M : α → Prop) (hu : Tryz.prog.underlying t = some (.slice e)) (ck : Tryz.prog.cellsOf e = k) (hk : 0 < k) (hby : Tryz.prog.bytesOf e = by_)
    (hel : ∀ (fuel : Nat) (vs : List Value) (d : DataW H) (ps : List MemPlace), vs.length = k → DataW.trod enc Tryz.prog W 0 (fun _ => true) held fuel e vs = some (d, ps) → (∀ n ∈ d.weights Tryz.prog e, n ≤ reachBytes) → ∃ x, R W All vs x ∧ M x)
    {fuel : Nat} {v : Value} {x : DataW H × List MemPlace} (h : DataW.trod enc Tryz.prog W 0 (fun _ => true) held fuel t [v] = some x) (hw : ∀ n ∈ x.1.weights Tryz.prog t, n ≤ reachBytes) :
    ∃ A l c, v = .slice A l.length c ∧ Sls k R W All A l ∧ l.length ≤ c ∧ l.length * by_ ≤ reachBytes ∧ ∀ x ∈ l, M x := by
  rcases open_slice hu h with ⟨e, _⟩ | ⟨a, len, cap, m, n, D, Pl, e, _, hlc, _, hm, hx, hc⟩
  · obtain rfl : v = .slice none 0 0 := by simpa using e
    exact ⟨none, [], 0, rfl, Sls.nil _ _ _ _, Nat.zero_le _, by simp, fun q hq => by cases hq⟩
  · obtain rfl : v = .slice (some a) len cap := by simpa using e
    have hm' : m = cap := by simpa using hm
    subst hm'
    rw [hx] at hw
    simp only [DataW.weights, hu] at hw
    have hcap : len * by_ ≤ reachBytes := by
      have := hw _ (List.mem_cons_self ..)
      rw [hby] at this
      simp only [List.length_map, List.length_range] at this
      refine Nat.le_trans (Nat.mul_le_mul_right by_ ?_) this
      omega
    obtain ⟨pq, hpq⟩ := choose_lt (α := List Value × α) (n := len) (p := fun i f => f.1.length = k ∧ (∀ j v, f.1[j]? = some v → W.cell? ((a.add (i * k)).add j) = some v) ∧ R W All f.1 f.2 ∧ M f.2) (fun i hi => by
      obtain ⟨cs', h1, h2⟩ := hc i (by omega)
      rw [ck] at h1
      obtain ⟨_, hl, hcell⟩ := World.cells?_some h1
      obtain ⟨y, hy, hM⟩ := hel n cs' (D i) (Pl i) hl h2 (fun k hk => hw k (List.mem_cons_of_mem _ (List.mem_append_left _ (weightsAll_mem (d := D i) (List.mem_map.2 ⟨i, List.mem_range.2 hi, rfl⟩) _ hk))))
      refine ⟨(cs', y), hl, fun j v hv => ?_, hy, hM⟩
      have hj : j < k := by rw [← hl]; exact (List.getElem?_eq_some_iff.1 hv).1
      rw [hcell j hj, hv])
    have hget : ∀ {β : Type} (f : Nat → β) (i : Nat) (c : β), ((List.range len).map f)[i]? = some c → i < len ∧ c = f i := by
      intro β f i c hc
      rw [List.getElem?_map] at hc
      have hi : i < len := by
        rcases Nat.lt_or_ge i len with h | h
        · exact h
        · rw [List.getElem?_eq_none (by simpa using h)] at hc
          cases hc
      rw [List.getElem?_range hi] at hc
      exact ⟨hi, (Option.some.inj hc).symm⟩
    have hlen : ((List.range len).map fun i => (pq i).2).length = len := by simp
    refine ⟨some a, (List.range len).map fun i => (pq i).2, m, by rw [hlen], ⟨(List.range len).map fun i => (pq i).1, by simp, fun c hc => ?_, fun h0 => ?_, fun i c x hc hx => ?_⟩, by rw [hlen]; exact hlc, by rw [hlen]; exact hcap, fun q hq => ?_⟩
    · obtain ⟨i, hi, rfl⟩ := List.mem_map.1 hc
      exact (hpq i (List.mem_range.1 hi)).1
    · rw [hlen] at h0
      obtain ⟨b, o, spot⟩ := a
      have hk0 := (hpq 0 h0).1
      have h1 := (hpq 0 h0).2.1 0 _ (List.getElem?_eq_getElem (by omega))
      have hs : spot = none := by simpa [Addr.add] using World.cell?_spot h1
      subst hs
      refine ⟨b, o, rfl, ?_, trivial, fun j v hv => ?_⟩
      · have := lt_of_cell h1
        simpa [add_none] using this
      · have hall : ∀ c ∈ (List.range len).map fun i => (pq i).1, c.length = k := fun c hc => by
          obtain ⟨i, hi, rfl⟩ := List.mem_map.1 hc
          exact (hpq i (List.mem_range.1 hi)).1
        have hj := (List.getElem?_eq_some_iff.1 hv).1
        rw [flatten_len hall, List.length_map, List.length_range] at hj
        have h2 : j / k < len := by rw [Nat.div_lt_iff_lt_mul hk]; exact hj
        have h3 : ((List.range len).map fun i => (pq i).1)[j / k]? = some (pq (j / k)).1 := by
          rw [List.getElem?_map, List.getElem?_range h2]
          rfl
        have h4 := flatten_at hall h3 (Nat.mod_lt j hk)
        rw [Nat.mul_comm (j / k) k, Nat.div_add_mod, hv] at h4
        have := (hpq (j / k) h2).2.1 (j % k) v h4.symm
        rw [add_none, add_none, Nat.add_assoc, Nat.mul_comm (j / k) k, Nat.div_add_mod] at this
        exact this
    · obtain ⟨hi, rfl⟩ := hget _ _ _ hc
      obtain ⟨_, rfl⟩ := hget _ _ _ hx
      exact (hpq i hi).2.2.1
    · obtain ⟨i, hi, rfl⟩ := List.mem_map.1 hq
      exact (hpq i (List.mem_range.1 hi)).2.2.2
/-- A digest that came in. -/
theorem open_dg (fuel : Nat) (vs : List Value) (d : DataW H) (ps : List MemPlace) (hl : vs.length = 32) (h : DataW.trod enc Tryz.prog W 0 (fun _ => true) held fuel 69 vs = some (d, ps)) : ∃ x : Dg, Dig W All vs x := by
  obtain ⟨xs, m, _, _, _, hxl, hf⟩ := DataW.trod_array Tryz.underlying69 h
  have key : ∀ i, i < 32 → ∃ b : UInt8, vs[i]? = some (.int .u8 b.toNat) := fun i hi => by
    have h1 := hf i hi
    rw [cByte, Nat.mul_one] at h1
    have h2 : xs[i]? = some xs[i] := List.getElem?_eq_getElem (by omega)
    rw [h2] at h1
    obtain ⟨z, hz, _, hwf⟩ := DataW.trod_int Tryz.underlying5 h1
    have h3 : vs[i]? = some (.int .u8 z) := by
      have : ((vs.drop i).take 1)[0]? = some (.int .u8 z) := by rw [hz]; rfl
      simpa using this
    have hr : 0 ≤ z ∧ z ≤ 255 := by simpa [Lit.wf, IntKind.has, IntKind.min, IntKind.max, IntKind.signed, IntKind.bits] using hwf
    refine ⟨UInt8.ofNat z.toNat, ?_⟩
    rw [h3]
    congr 2
    rw [UInt8.toNat_ofNat_of_lt' (by show z.toNat < 256; omega)]
    omega
  obtain ⟨f, hf2⟩ := choose_lt (α := UInt8) (n := 32) (p := fun i b => vs[i]? = some (.int .u8 b.toNat)) key
  refine ⟨⟨(List.range 32).map f, by simp⟩, ?_⟩
  refine List.ext_getElem? fun i => ?_
  show vs[i]? = ((((List.range 32).map f)).map fun x : UInt8 => Value.int .u8 x.toNat)[i]?
  rcases Nat.lt_or_ge i 32 with hi | hi
  · rw [hf2 i hi, List.getElem?_map, List.getElem?_map, List.getElem?_range hi]
    rfl
  · rw [List.getElem?_eq_none (by omega), List.getElem?_eq_none (by simp; omega)]
/-- Digests that came in. -/
theorem open_ds {fuel : Nat} {v : Value} {x : DataW H × List MemPlace} (h : DataW.trod enc Tryz.prog W 0 (fun _ => true) held fuel 25 [v] = some x) (hw : ∀ n ∈ x.1.weights Tryz.prog 25, n ≤ reachBytes) :
    ∃ A l c, v = .slice A l.length c ∧ Ds W All A l ∧ l.length ≤ c ∧ l.length * 32 ≤ reachBytes := by
  obtain ⟨A, l, c, h1, h2, h3, h4, _⟩ := open_sls Dig (fun _ => True) Tryz.underlying25 cDigest (by decide) (by kernel_rfl) (fun fuel vs d ps hl h _ => (open_dg fuel vs d ps hl h).imp fun x hx => ⟨hx, trivial⟩) h hw
  exact ⟨A, l, c, h1, h2, h3, h4⟩
set_option maxRecDepth 100000 in
set_option maxHeartbeats 1000000 in
/-- A vote that came in. -/
theorem open_vote (fuel : Nat) (vs : List Value) (d : DataW H) (ps : List MemPlace) (hl : vs.length = 4) (h : DataW.trod enc Tryz.prog W 0 (fun _ => true) held fuel 39 vs = some (d, ps)) (hw : ∀ n ∈ d.weights Tryz.prog 39, n ≤ reachBytes) : ∃ x : Vt, Vot W All vs x ∧ x.Wide := by
  match vs, hl with
  | [v0, v1, v2, v3], _ =>
  obtain ⟨xs, n, _, hx, _, hxl, hf⟩ := DataW.trod_struct Tryz.underlying39 h
  have hxl3 : xs.length = 4 := hxl
  match xs, hxl3 with
  | [y0, y1, y2, y3], _ =>
    have e0 : DataW.trod enc Tryz.prog W 0 (fun _ => true) held n 9 (([v0, v1, v2, v3].drop 0).take (Tryz.prog.cellsOf 9)) = some y0 := hf 0 _ rfl
    rw [cString] at e0
    have e0 : DataW.trod enc Tryz.prog W 0 (fun _ => true) held n 9 [v0] = some y0 := e0
    have e1 : DataW.trod enc Tryz.prog W 0 (fun _ => true) held n 3 (([v0, v1, v2, v3].drop 1).take (Tryz.prog.cellsOf 3)) = some y1 := hf 1 _ rfl
    rw [cInt] at e1
    have e1 : DataW.trod enc Tryz.prog W 0 (fun _ => true) held n 3 [v1] = some y1 := e1
    have e2 : DataW.trod enc Tryz.prog W 0 (fun _ => true) held n 9 (([v0, v1, v2, v3].drop 2).take (Tryz.prog.cellsOf 9)) = some y2 := hf 2 _ rfl
    rw [cString] at e2
    have e2 : DataW.trod enc Tryz.prog W 0 (fun _ => true) held n 9 [v2] = some y2 := e2
    have e3 : DataW.trod enc Tryz.prog W 0 (fun _ => true) held n 25 (([v0, v1, v2, v3].drop 3).take (Tryz.prog.cellsOf 25)) = some y3 := hf 3 _ rfl
    rw [cDigests] at e3
    have e3 : DataW.trod enc Tryz.prog W 0 (fun _ => true) held n 25 [v3] = some y3 := e3
    have ed : d = .agg ([y0, y1, y2, y3].map (·.1)) := congrArg Prod.fst hx
    subst ed
    have hu : Tryz.prog.underlying 39 = some (.struct _) := Tryz.underlying39
    simp only [DataW.weights, hu] at hw
    obtain ⟨z0, g0, _⟩ := DataW.trod_string Tryz.underlying9 e0
    have t0 := str_size e0 (weights_mem (j := 0) hw rfl rfl) (by simpa using g0)
    obtain rfl : v0 = .string z0 := by simpa using g0
    obtain ⟨z1, g1, _⟩ := DataW.trod_int Tryz.underlying3 e1
    obtain rfl : v1 = .int .i64 z1 := by simpa using g1
    obtain ⟨z2, g2, _⟩ := DataW.trod_string Tryz.underlying9 e2
    have t2 := str_size e2 (weights_mem (j := 2) hw rfl rfl) (by simpa using g2)
    obtain rfl : v2 = .string z2 := by simpa using g2
    obtain ⟨A3, z3, c3, rfl, s3, k3, b3⟩ := open_ds e3 (weights_mem (j := 3) hw rfl rfl)
    unfold reachBytes at b3
    exact ⟨⟨z0, z1, z2, z3⟩, ⟨A3, z3.length, c3, rfl, rfl, k3, s3⟩, ⟨by show z0.size ≤ _; omega, by show z2.size ≤ _; omega, by show z3.length ≤ _; omega⟩⟩
/-- Votes that came in. -/
theorem open_vs {fuel : Nat} {v : Value} {x : DataW H × List MemPlace} (h : DataW.trod enc Tryz.prog W 0 (fun _ => true) held fuel 26 [v] = some x) (hw : ∀ n ∈ x.1.weights Tryz.prog 26, n ≤ reachBytes) :
    ∃ A l c, v = .slice A l.length c ∧ Vs W All A l ∧ l.length ≤ c ∧ l.length * 64 ≤ reachBytes ∧ ∀ x ∈ l, x.Wide :=
  open_sls Vot Vt.Wide Tryz.underlying26 cVote (by decide) (by kernel_rfl) (fun fuel vs d ps hl h hw => open_vote fuel vs d ps hl h hw) h hw
set_option maxRecDepth 100000 in
set_option maxHeartbeats 1000000 in
/-- A review that came in. -/
theorem open_review (fuel : Nat) (vs : List Value) (d : DataW H) (ps : List MemPlace) (hl : vs.length = 6) (h : DataW.trod enc Tryz.prog W 0 (fun _ => true) held fuel 28 vs = some (d, ps)) (hw : ∀ n ∈ d.weights Tryz.prog 28, n ≤ reachBytes) : ∃ x : Rv, Rev W All vs x ∧ x.Wide := by
  match vs, hl with
  | [v0, v1, v2, v3, v4, v5], _ =>
  obtain ⟨xs, n, _, hx, _, hxl, hf⟩ := DataW.trod_struct Tryz.underlying28 h
  have hxl3 : xs.length = 6 := hxl
  match xs, hxl3 with
  | [y0, y1, y2, y3, y4, y5], _ =>
    have e0 : DataW.trod enc Tryz.prog W 0 (fun _ => true) held n 3 (([v0, v1, v2, v3, v4, v5].drop 0).take (Tryz.prog.cellsOf 3)) = some y0 := hf 0 _ rfl
    rw [cInt] at e0
    have e0 : DataW.trod enc Tryz.prog W 0 (fun _ => true) held n 3 [v0] = some y0 := e0
    have e1 : DataW.trod enc Tryz.prog W 0 (fun _ => true) held n 9 (([v0, v1, v2, v3, v4, v5].drop 1).take (Tryz.prog.cellsOf 9)) = some y1 := hf 1 _ rfl
    rw [cString] at e1
    have e1 : DataW.trod enc Tryz.prog W 0 (fun _ => true) held n 9 [v1] = some y1 := e1
    have e2 : DataW.trod enc Tryz.prog W 0 (fun _ => true) held n 9 (([v0, v1, v2, v3, v4, v5].drop 2).take (Tryz.prog.cellsOf 9)) = some y2 := hf 2 _ rfl
    rw [cString] at e2
    have e2 : DataW.trod enc Tryz.prog W 0 (fun _ => true) held n 9 [v2] = some y2 := e2
    have e3 : DataW.trod enc Tryz.prog W 0 (fun _ => true) held n 25 (([v0, v1, v2, v3, v4, v5].drop 3).take (Tryz.prog.cellsOf 25)) = some y3 := hf 3 _ rfl
    rw [cDigests] at e3
    have e3 : DataW.trod enc Tryz.prog W 0 (fun _ => true) held n 25 [v3] = some y3 := e3
    have e4 : DataW.trod enc Tryz.prog W 0 (fun _ => true) held n 3 (([v0, v1, v2, v3, v4, v5].drop 4).take (Tryz.prog.cellsOf 3)) = some y4 := hf 4 _ rfl
    rw [cInt] at e4
    have e4 : DataW.trod enc Tryz.prog W 0 (fun _ => true) held n 3 [v4] = some y4 := e4
    have e5 : DataW.trod enc Tryz.prog W 0 (fun _ => true) held n 26 (([v0, v1, v2, v3, v4, v5].drop 5).take (Tryz.prog.cellsOf 26)) = some y5 := hf 5 _ rfl
    rw [cVotes] at e5
    have e5 : DataW.trod enc Tryz.prog W 0 (fun _ => true) held n 26 [v5] = some y5 := e5
    have ed : d = .agg ([y0, y1, y2, y3, y4, y5].map (·.1)) := congrArg Prod.fst hx
    subst ed
    have hu : Tryz.prog.underlying 28 = some (.struct _) := Tryz.underlying28
    simp only [DataW.weights, hu] at hw
    obtain ⟨z0, g0, _⟩ := DataW.trod_int Tryz.underlying3 e0
    obtain rfl : v0 = .int .i64 z0 := by simpa using g0
    obtain ⟨z1, g1, _⟩ := DataW.trod_string Tryz.underlying9 e1
    have t1 := str_size e1 (weights_mem (j := 1) hw rfl rfl) (by simpa using g1)
    obtain rfl : v1 = .string z1 := by simpa using g1
    obtain ⟨z2, g2, _⟩ := DataW.trod_string Tryz.underlying9 e2
    have t2 := str_size e2 (weights_mem (j := 2) hw rfl rfl) (by simpa using g2)
    obtain rfl : v2 = .string z2 := by simpa using g2
    obtain ⟨A3, z3, c3, rfl, s3, k3, b3⟩ := open_ds e3 (weights_mem (j := 3) hw rfl rfl)
    unfold reachBytes at b3
    obtain ⟨z4, g4, _⟩ := DataW.trod_int Tryz.underlying3 e4
    obtain rfl : v4 = .int .i64 z4 := by simpa using g4
    obtain ⟨A5, z5, c5, rfl, s5, k5, b5, m5⟩ := open_vs e5 (weights_mem (j := 5) hw rfl rfl)
    unfold reachBytes at b5
    exact ⟨⟨z0, z1, z2, z3, z4, z5⟩, ⟨A3, z3.length, c3, A5, z5.length, c5, rfl, ⟨rfl, k3, s3⟩, rfl, k5, s5⟩, ⟨by show z1.size ≤ _; omega, by show z2.size ≤ _; omega, by show z3.length ≤ _; omega, by show z5.length ≤ _; omega, m5⟩⟩
/-- Reviews that came in. -/
theorem open_rs {fuel : Nat} {v : Value} {x : DataW H × List MemPlace} (h : DataW.trod enc Tryz.prog W 0 (fun _ => true) held fuel 22 [v] = some x) (hw : ∀ n ∈ x.1.weights Tryz.prog 22, n ≤ reachBytes) :
    ∃ A l c, v = .slice A l.length c ∧ Rs W All A l ∧ l.length ≤ c ∧ l.length * 96 ≤ reachBytes ∧ ∀ x ∈ l, x.Wide :=
  open_sls Rev Rv.Wide Tryz.underlying22 cReview (by decide) (by kernel_rfl) (fun fuel vs d ps hl h hw => open_review fuel vs d ps hl h hw) h hw
set_option maxRecDepth 100000 in
/-- A string that came in. -/
theorem open_str {b0 : Nat} {v : Value} {d : DataW H} {ps : List MemPlace} (hd : DataW.Trod enc Tryz.prog W 0 (fun _ => true) held 9 v d ps) (hw : ∀ n ∈ d.weights Tryz.prog 9, n ≤ reachBytes) (hval : Value.okWide Tryz.prog W .any b0 9 v) :
    ∃ s : ByteArray, v = .string s ∧ s.size ≤ 140737488351232 := by
  obtain ⟨s, rfl⟩ := okWide_string Tryz.underlying9 hval
  obtain ⟨n, h⟩ := hd
  exact ⟨s, rfl, str_size h hw rfl⟩

/-! ### Read again -/
theorem kids : Kids Tryz.prog (· < Tryz.prog.types.size) := kids_rows (by kernel_rfl) (by kernel_rfl)
theorem slices_full : ∀ t e, t < Tryz.prog.types.size → Tryz.prog.underlying t = some (.slice e) → 0 < Tryz.prog.cellsOf e := slices_full_of Tryz.prog (by kernel_rfl)
theorem carryAll {w' : World} {sp : Nat → Bool} : ∀ {ts : List TypeId} {vs : List Value} {ds : List (DataW H)} {ps : List MemPlace}, DataW.TrodAll enc Tryz.prog W 0 sp held ts vs ds ps → (∀ p ∈ ps, W.sameAt w' p) → DataW.TrodAll enc Tryz.prog w' 0 sp held ts vs ds ps
  | [], [], [], _, h, _ => h
  | _ :: _, _ :: _, _ :: _, _, ⟨p, q, ⟨n, h1⟩, h2, e⟩, hs => ⟨p, q, ⟨n, DataW.trod_carry n _ _ _ h1 (fun x hx => hs x (by rw [e]; exact List.mem_append_left _ hx))⟩, carryAll h2 (fun x hx => hs x (by rw [e]; exact List.mem_append_right _ hx)), e⟩
set_option maxRecDepth 100000 in
/-- What a call owes that reads its arguments and makes new memory alone. -/
theorem post_of_ext {f : Func} {s : ChangeSpec} {apart fresh handsOn again : Bool} {W' : World} {args : Array Value} {v : Value} {ds : List (DataW H)} {before : List MemPlace} (hvars : s.vars = [])
    (hW : DataW.Whole enc Tryz.prog f.params.toList s.vars apart W args.toList ds [] before) (hx : Ext W W') (hT : ∀ t ∈ f.params.toList, t < Tryz.prog.types.size)
    (hres : ∀ (b : Nat) (sp : Nat → Bool) (hd : Bool), DataW.TrodAll enc Tryz.prog W' b sp hd f.resultTypes.toList (v.resultList f.resultTypes.size) (s.fn H ds).results [])
    (hargs : (s.fn H ds).args = ds) (hgs : (s.fn H ds).vars = [])
    (hok : ∀ (j : Nat) (t : TypeId) (r : Value), f.resultTypes[j]? = some t → (v.resultList f.resultTypes.size)[j]? = some r → Value.okWide Tryz.prog W' .any 0 t r) :
    s.post enc Tryz.prog f apart fresh handsOn again W args v W' := by
  have hlt := hW.lt
  have hW0 := hW
  obtain ⟨p, q, hA, hV, rfl, hfz, hnd⟩ := hW
  rw [hvars] at hV
  have hq : q = [] := hV
  subst hq
  rw [List.append_nil] at *
  have again' : ∀ sp : Nat → Bool, (∀ x ∈ p, sp x.block = true) → DataW.TrodAll enc Tryz.prog W' 0 sp true f.params.toList args.toList ds p := fun sp hsp =>
    carryAll (DataW.TrodAll.respare kids (fun t e ht hu => slices_full t e ht hu) hT hA hsp) (fun x hx' => hx.same (hlt x hx'))
  have hv' : ∀ sp : Nat → Bool, DataW.TrodVars enc Tryz.prog W' sp s.vars (s.fn H ds).vars [] := fun sp => by rw [hvars, hgs]; exact rfl
  refine ⟨ds, [], p, [], p, [], hW0, ?_, ?_, ?_, World.keptBut_mono (fun x hx' => ⟨hx', Or.inr (Or.inl hx')⟩) (hx.frame (· ∈ p)), fun _ => ?_⟩
  · rw [List.append_nil]; exact hres _ _ _
  · rw [List.append_nil, hargs]; exact again' _ (fun x hx' => by simpa using hlt x hx')
  · rw [List.append_nil]; exact hv' _
  · have hall := trodAll_append (again' (fun _ => true) (fun _ _ => rfl)) (hres 0 (fun _ => true) true)
    have hvv : DataW.TrodVars (H := H) enc Tryz.prog W' (fun _ => true) s.vars [] [] := by rw [hvars]; exact rfl
    have hz : W'.noneFrozen (([] ++ p) ++ []) := fun b off hp => by
      have hp' : MemPlace.cell b off ∈ p := by simpa using hp
      rw [hx.frozen (p := ⟨b, off, none⟩) (hlt _ hp')]
      exact hfz b off hp'
    have hn : apart = true → (([] ++ p) ++ []).Nodup := fun ha => by simpa using hnd ha
    exact ⟨hok, _, [], ([] ++ p) ++ [], ⟨[] ++ p, [], hall, hvv, rfl, hz, hn⟩, fun x hx' _ => by simpa using hx'⟩
end
end Go.Proofs.YtojfgidoobgcaaaGreatDoor
namespace Go.Proofs.YtojfgidoobgcaaaGreatDoor
open Go Go.RowKit

theorem people_len1 (r : Rv) (k : Int) : (Vw.people r k).length ≤ r.votes.length := by
  rw [people_fold]
  have : ∀ (l : List Vt) (a : List ByteArray), (l.foldl (Vw.pStep r k) a).length ≤ a.length + l.length := by
    intro l
    induction l with
    | nil => intro a; simp
    | cons v l ih =>
      intro a
      rw [List.foldl_cons, List.length_cons]
      have h1 := ih (Vw.pStep r k a v)
      have h2 : (Vw.pStep r k a v).length ≤ a.length + 1 := by
        unfold Vw.pStep
        split
        · exact ins_len _ _
        · omega
      omega
  simpa using this r.votes []
attribute [local go_sem ↓] Go.wp_at_zero Go.wp_at_succ
set_option maxHeartbeats 16000000 in
set_option maxRecDepth 100000 in
theorem last_walk (cs ds : List Value) (r : Rv) (v : Vt) (w : World) (hg : Glob w) (hr : Rev w All cs r) (hrw : r.Wide) (hv : Vot w All ds v) (hvw : v.Wide) :
    Calls Tryz.prog 4 #[.agg cs.toArray, .agg ds.toArray] w (Ret (.bool true) w) := by
  have HG := Lib.hid hg
  have HGR : Hid (∀ W, Ext w W → Calls Tryz.prog 19 #[.agg cs.toArray] W (Ret (.bool r.great) W)) := Lib.hid fun W hW => greatrev_any cs r W (Rev.steadfast.ext hr hW) hrw
  have HAP : Hid (r.Fits → r.votes.length ≤ 4000000 → ∀ W, Ext w W → Calls Tryz.prog 12 #[.agg cs.toArray] W (fun e w' => ∃ A c, e = .returned (.slice A (Vw.people r 1).length c) ∧ Sl w' A (Vw.people r 1).length c (Vw.people r 1) ∧ Ext W w')) := Lib.hid fun h1 h2 W hW => approvals_any cs r W (Rev.steadfast.ext hr hW) h1 h2
  obtain ⟨A, n, m, B, p, q, rfl, ⟨hn, hm, hids⟩, hp, hpq, hvs⟩ := hr
  obtain ⟨X, px, qx, rfl, hpx, hqx, hxd⟩ := hv
  have HP := Lib.hid hp
  have HPX := Lib.hid hpx
  have HN := Lib.hid hn
  have HM := Lib.hid hm
  have HIDS := Lib.hid hids
  have HVS := Lib.hid hvs
  have HVW := Lib.hid hvw
  have hpw : p ≤ 4611686018427387904 := by rw [← hp]; exact hrw.votes
  have hpxw : px ≤ 4611686018427387904 := by rw [← hpx]; exact hvw.ids
  have hsw := hvw.who
  obtain ⟨gr, hgr⟩ : ∃ gr, gr = r.great := ⟨_, rfl⟩
  rw [← hgr] at HGR
  have HE := Lib.hid hgr
  clear hg hn hm hids hp hpq hvs hpx hqx hxd hrw hvw hgr
  go_enter Tryz.func4, Tryz.ntmps4
  have hx := Ext.refl w
  go_wp2_with fail
  refine (HGR.out _ ((hx.alloc _).alloc _)).mono ?_
  rintro e w1 ⟨rfl, hx0⟩
  have HX := Lib.hid (((hx.alloc (.cells #[.int .i64 r.number, .string r.author, .string r.branch, .slice A n m, .int .i64 r.state, .slice B p q] 28)).alloc (.cells #[.string v.who, .int .i64 v.kind, .string v.text, .slice X px qx] 39)).trans hx0)
  have HB0 := Lib.hid (Blk.ext hx0 (Blk.alloc (Blk.new' (w := w) (g := w.heap.size) (cs := #[.int .i64 r.number, .string r.author, .string r.branch, .slice A n m, .int .i64 r.state, .slice B p q]) (t := 28) rfl) (.cells #[.string v.who, .int .i64 v.kind, .string v.text, .slice X px qx] 39)))
  have HB1 := Lib.hid (Blk.ext hx0 (Blk.new' (w := w.alloc (.cells #[.int .i64 r.number, .string r.author, .string r.branch, .slice A n m, .int .i64 r.state, .slice B p q] 28)) (g := w.heap.size + 1) (cs := #[.string v.who, .int .i64 v.kind, .string v.text, .slice X px qx]) (t := 39) (by simp)))
  obtain ⟨hc0, hf0, hl0⟩ := HB0.out.all
  obtain ⟨hc1, hf1, hl1⟩ := HB1.out.all
  clear hx hx0 HGR
  cases gr
  rotate_left
  · go_wp2_with fail
    refine (awake55_any _ (HG.out.ext HX.out)).mono ?_
    rintro e w9 ⟨rfl, hx0⟩
    have HX9 := Lib.hid (HX.out.trans hx0)
    clear hx0
    go_wp2_with fail
    go_ret
    exact Ret.mk rfl HX9.out
  have HGF : Hid (r.Fits ∧ r.votes.length ≤ 12) := Lib.hid (by
    have h1 : r.great = false := HE.out.symm
    refine ⟨Rv.great_fits h1, ?_⟩
    unfold Rv.great at h1
    simp only [Bool.or_eq_false_iff, decide_eq_false_iff_not] at h1
    omega)
  clear HE
  by_cases hk1 : 11 < p
  · have k1 : decide (11 < (p : Int)) = true := decide_eq_true (by omega)
    go_wp2_with fail
    refine (awake55_any _ (HG.out.ext HX.out)).mono ?_
    rintro e w9 ⟨rfl, hx0⟩
    have HX9 := Lib.hid (HX.out.trans hx0)
    clear hx0
    go_wp2_with fail
    go_ret
    exact Ret.mk rfl HX9.out
  have k1 : decide (11 < (p : Int)) = false := decide_eq_false (by omega)
  by_cases hk2 : 10 < px
  · have k2 : decide (10 < (px : Int)) = true := decide_eq_true (by omega)
    go_wp2_with fail
    refine (awake55_any _ (HG.out.ext HX.out)).mono ?_
    rintro e w9 ⟨rfl, hx0⟩
    have HX9 := Lib.hid (HX.out.trans hx0)
    clear hx0
    go_wp2_with fail
    go_ret
    exact Ret.mk rfl HX9.out
  have k2 : decide (10 < (px : Int)) = false := decide_eq_false (by omega)
  by_cases hk3 : 60 < v.who.size
  · have k3 : decide (60 < (v.who.size : Int)) = true := decide_eq_true (by omega)
    go_wp2_with fail
    refine (awake55_any _ (HG.out.ext HX.out)).mono ?_
    rintro e w9 ⟨rfl, hx0⟩
    have HX9 := Lib.hid (HX.out.trans hx0)
    clear hx0
    go_wp2_with fail
    go_ret
    exact Ret.mk rfl HX9.out
  have k3 : decide (60 < (v.who.size : Int)) = false := decide_eq_false (by omega)
  by_cases hk4 : v.kind < 1
  · have k4 : decide (v.kind < 1) = true := decide_eq_true (by omega)
    go_wp2_with fail
    refine (awake55_any _ (HG.out.ext HX.out)).mono ?_
    rintro e w9 ⟨rfl, hx0⟩
    have HX9 := Lib.hid (HX.out.trans hx0)
    clear hx0
    go_wp2_with fail
    go_ret
    exact Ret.mk rfl HX9.out
  have k4 : decide (v.kind < 1) = false := decide_eq_false (by omega)
  by_cases hk5 : 3 < v.kind
  · have k5 : decide (3 < v.kind) = true := decide_eq_true (by omega)
    go_wp2_with fail
    refine (awake55_any _ (HG.out.ext HX.out)).mono ?_
    rintro e w9 ⟨rfl, hx0⟩
    have HX9 := Lib.hid (HX.out.trans hx0)
    clear hx0
    go_wp2_with fail
    go_ret
    exact Ret.mk rfl HX9.out
  have k5 : decide (3 < v.kind) = false := decide_eq_false (by omega)
  have HKD : Hid (1 ≤ v.kind ∧ v.kind ≤ 3) := Lib.hid (by omega)
  have hp11 : p ≤ 11 := by omega
  obtain ⟨y, hy⟩ : ∃ y : Vt, y = { v with ids := r.ids } := ⟨_, rfl⟩
  obtain ⟨x, hx⟩ : ∃ x : Rv, x = { r with votes := r.votes ++ [y] } := ⟨_, rfl⟩
  have HLAW : Hid ((butFor v.who (Vw.people r 1) = butFor v.who (Vw.people x 1)) ∧ r.author ∉ Vw.people x 1 ∧ (v.kind = 3 ∨ v.who = r.author → Vw.people r 1 = Vw.people x 1) ∧ (v.kind ≠ 3 → v.who ≠ r.author → (v.who ∈ Vw.people x 1 ↔ v.kind = 1))) := Lib.hid (by
    have h := Vw.last_law (r := r) (x := x) (v := y) (by rw [hx]) (by rw [hx]) (by rw [hx]) (by rw [hy]) (by rw [hy]; exact HKD.out)
    have e1 : y.who = v.who := by rw [hy]
    have e2 : y.kind = v.kind := by rw [hy]
    rw [e1, e2] at h
    exact h)
  have HVT : Hid (Vot w All [.string v.who, .int .i64 v.kind, .string v.text, .slice A n m] y) := Lib.hid (by rw [hy]; exact ⟨A, n, m, rfl, HN.out, HM.out, HIDS.out⟩)
  have HYF : Hid y.Fits := Lib.hid (by rw [hy]; exact ⟨by show v.who.size ≤ _; omega, by have := HVW.out.text; show v.text.size ≤ _; omega, HGF.out.1.ids⟩)
  clear HKD hk1 hk2 hk3 hk4 hk5
  have HRF := Lib.hid HGF.out.1
  have HXF : Hid (x.Fits ∧ x.votes.length ≤ 12) := Lib.hid (by
    rw [hx]
    have h12 := HP.out
    refine ⟨⟨HRF.out.author, HRF.out.branch, HRF.out.ids, by show (r.votes ++ [y]).length ≤ _; rw [List.length_append, List.length_singleton]; omega, fun z hz => ?_⟩, by show (r.votes ++ [y]).length ≤ _; rw [List.length_append, List.length_singleton]; omega⟩
    rcases List.mem_append.1 hz with hz | hz
    · exact HRF.out.each z hz
    · rw [List.mem_singleton.1 hz]; exact HYF.out)
  have HXA : Hid (x.author = r.author) := Lib.hid (by rw [hx])
  have HXV : Hid (∀ (W : World) (base gg cap : Nat), Ext w W → OwnW 4 Vot 39 w W base All (.slice (some ⟨gg, 0, none⟩) (p + 1) cap) (r.votes ++ [y]) → Rev W All [.int .i64 r.number, .string r.author, .string r.branch, .slice A n m, .int .i64 r.state, .slice (some ⟨gg, 0, none⟩) (p + 1) cap] x) := Lib.hid fun W base gg cap hW ho => by
    obtain ⟨A9, c9, e9, hle, hsl⟩ := ho.sls Vot.steadfast hW
    have hl9 : (r.votes ++ [y]).length = p + 1 := by rw [List.length_append, HP.out]; rfl
    obtain ⟨rfl, _, rfl⟩ : some ⟨gg, 0, none⟩ = A9 ∧ p + 1 = (r.votes ++ [y]).length ∧ cap = c9 := by simpa using e9
    rw [hx]
    exact ⟨A, n, m, _, _, _, rfl, ⟨HN.out, HM.out, Ds.ext HIDS.out hW⟩, hl9, by rw [hl9] at hle; exact hle, hsl⟩
  have HCL : Hid (∀ W, Ext w W → Calls Tryz.prog 20 #[.slice B p q] W (fun e w' => ∃ v', e = .returned v' ∧ OwnW 4 Vot 39 w w' W.heap.size All v' r.votes ∧ Ext W w')) := Lib.hid fun W hW => vclone_any B p q r.votes w W HVS.out hW HP.out (by omega)
  clear hx hy
  generalize hL1 : Vw.people r 1 = L1 at HAP HLAW
  generalize hL2 : Vw.people x 1 = L2 at HLAW
  have HL1 : Hid (L1.length ≤ 100) := Lib.hid (by rw [← hL1]; have := people_len1 r 1; have := HGF.out.2; omega)
  have HL2 : Hid (L2.length ≤ 100) := Lib.hid (by rw [← hL2]; have := people_len1 x 1; have := HXF.out.2; omega)
  have HUP : Hid (Vw.Up L2) := Lib.hid (by rw [← hL2]; exact Vw.people_up x 1)
  have HE2 := Lib.hid hL2
  clear hL1 hL2
  go_upto_region 4 with fail
  have hb0 := HB0.out.far (p := ⟨w.heap.size + 1, 3, none⟩) (by show w.heap.size ≠ w.heap.size + 1; omega) (.slice A n m)
  have hb1 : Blk (w1.setCell ⟨w.heap.size + 1, 3, none⟩ (.slice A n m)) (w.heap.size + 1) 39 #[.string v.who, .int .i64 v.kind, .string v.text, .slice A n m] := HB1.out.set_ 3 (.slice A n m)
  have hx2 := Ext.setCell (p := ⟨w.heap.size + 1, 3, none⟩) HX.out (by show w.heap.size ≤ w.heap.size + 1; omega) (.slice A n m)
  generalize w1.setCell ⟨w.heap.size + 1, 3, none⟩ (.slice A n m) = w2 at hb0 hb1 hx2 ⊢
  clear hc0 hf0 hl0 hc1 hf1 hl1 HB0 HB1 HX
  have HB0 := Lib.hid hb0
  have HB1 := Lib.hid hb1
  have HX := Lib.hid hx2
  obtain ⟨hc0, hf0, hl0⟩ := hb0.all
  clear hb0 hb1 hx2
  go_wp2_with fail
  refine (HAP.out HRF.out (by have := HGF.out.2; omega) _ HX.out).mono ?_
  rintro e w3 ⟨P1, d1, rfl, hs1, hx0⟩
  have HS1 := Lib.hid hs1.1
  replace HX := Lib.hid (HX.out.trans hx0)
  replace HB0 := Lib.hid (HB0.out.ext hx0)
  replace HB1 := Lib.hid (HB1.out.ext hx0)
  clear hc0 hf0 hl0 hs1 hx0 HAP
  obtain ⟨hc0, hf0, hl0⟩ := HB0.out.all
  go_upto_region 6 with fail
  have HBX := Lib.hid (Blk.new' (w := w3) (g := w3.heap.size) (cs := #[.int .i64 r.number, .string r.author, .string r.branch, .slice A n m, .int .i64 r.state, .slice B p q]) (t := 28) rfl)
  have HY := Lib.hid ((Ext.refl w3).alloc (.cells #[.int .i64 r.number, .string r.author, .string r.branch, .slice A n m, .int .i64 r.state, .slice B p q] 28))
  clear hc0 hf0 hl0
  generalize w3.alloc (.cells #[.int .i64 r.number, .string r.author, .string r.branch, .slice A n m, .int .i64 r.state, .slice B p q] 28) = w4 at HBX HY ⊢
  obtain ⟨i0, z0, hi0, hz0, hs0, hby0, hzk0⟩ := vinfo
  have HI0 := Lib.hid hi0
  have HZ0 := Lib.hid hz0
  clear hi0 hz0
  go_cut [] (fun wx => ∃ gg cap base : Nat, Hid (Blk wx w3.heap.size 28 #[.int .i64 r.number, .string r.author, .string r.branch, .slice A n m, .int .i64 r.state, .slice (some ⟨gg, 0, none⟩) (p + 1) cap]) ∧ Hid (OwnW 4 Vot 39 w wx base All (.slice (some ⟨gg, 0, none⟩) (p + 1) cap) (r.votes ++ [y])) ∧ Hid (Ext w3 wx) ∧ w3.heap.size < base)
  case first =>
    refine wp_region_noPanic (wp_region_held_drew (S := fun w' => Ext w3 w') (by kernel_rfl) HY.out.drew1 (fun hv => ?_))
    have HB := Lib.hid HBX.out.drew
    generalize w4.drew = v0 at hv HB ⊢
    refine take_any (i := 0) (v := .pointer (some ⟨w.heap.size, 5, none⟩)) rfl rfl (by kernel_rfl) (by kernel_rfl) (by kernel_rfl) (.inl ⟨(by kernel_rfl), fun W' hW' => ?fb⟩) hv ?_
    case fb => go_simp
    try simp only [Act.put, sA, s0, sS]
    refine take_any (i := 1) (v := .slice B p q) rfl rfl (by kernel_rfl) (by kernel_rfl) (by kernel_rfl) (.inl ⟨(by kernel_rfl), fun W' hW' => ?fc⟩) hv ?_
    case fc =>
      have hcx := (HB0.out.ext hW').cell
      go_simp
    try simp only [Act.put, sA, s0, sS]
    refine tl (i := 3) [.string v.who, .int .i64 v.kind, .string v.text, .slice A n m] rfl rfl rfl rfl rfl Tryz.underlying39 rfl (fun _ h => (HB1.out.ext h).range 0 _ (fun j _ => by simp)) hv ?_
    try simp only [Act.put, sA, s0, sS]
    have hi0 := HI0.out
    have hz0 := HZ0.out
    refine wpAnyH_ready (rs := [2, 4]) (by kernel_rfl) (by simp) ?_
    refine (AllReadyH.cons rfl (fun K hK => ?_) (AllReadyH.cons rfl (fun K hK => ?_) AllReadyH.nil))
    · go_simp
      refine (HCL.out v0 (HX.out.trans hv)).mono ?_
      rintro e vc ⟨v', rfl, hown, hx0⟩
      have hgb : w3.heap.size < v0.heap.size := HB.out.lt
      have hbs : v0.heap.size ≤ vc.heap.size := hx0.size_le
      generalize v0.heap.size = base at hown hgb hbs
      have hv2 := hv.trans hx0
      refine hK.out _ _ (hv2) (fun _ => ?_)
      clear hK
      try simp only [Act.put, sA, s0, sS]
      have HO := Lib.hid hown
      have HB := Lib.hid (HB.out.ext hx0)
      have hv := hv2
      clear hv2 hx0 hown
      refine wpAnyH_one (i := 4) (by kernel_rfl) rfl (by kernel_rfl) ?_
      go_simp
      refine ⟨hv.alloc _, ?_⟩
      try simp only [Act.put, sA, s0, sS]
      have hx0 : Ext vc (vc.alloc (.cells #[.string v.who, .int .i64 v.kind, .string v.text, .slice A n m] 39)) := (Ext.refl vc).alloc _
      have hl : Blk (vc.alloc (.cells #[.string v.who, .int .i64 v.kind, .string v.text, .slice A n m] 39)) vc.heap.size 39 #[.string v.who, .int .i64 v.kind, .string v.text, .slice A n m] := Blk.new' rfl
      generalize vc.alloc (.cells #[.string v.who, .int .i64 v.kind, .string v.text, .slice A n m] 39) = vl at hx0 hl ⊢
      generalize vc.heap.size = gl at hl ⊢
      have HL := Lib.hid hl
      have hv2 := hv.trans hx0
      have HB := Lib.hid (HB.out.ext hx0)
      have HO := Lib.hid (HO.out.ext hx0)
      have hbs := Nat.le_trans hbs hx0.size_le
      have hv := hv2
      clear hv2 hx0 hl
      refine wpAnyH_one (i := 5) (by kernel_rfl) rfl (by kernel_rfl) ?_
      refine wp_append_w (R := Vot) (fun h => Vot.one h) w vl _ _ 26 39 i0 z0 rfl Tryz.underlying26 hi0 hz0 hs0 hby0 hzk0 (by decide) base v' r.votes rfl HO.out gl 1 [.string v.who, .int .i64 v.kind, .string v.text, .slice A n m] y rfl (HL.out.range 0 _ (fun j _ => by simp)) rfl HVT.out (by have := HP.out; unfold maxLen; omega) (by have := HP.out; omega) hbs ?_
      intro gg cap v4 hown4 hgrow
      have hlt := HO.out.lt
      have hv2 : Ext w3 v4 := Below.grown hv hgrow hv.size_le (fun j e => by have := (hlt j e).1; omega)
      have HB4 : Hid (Blk v4 w3.heap.size 28 #[.int .i64 r.number, .string r.author, .string r.branch, .slice A n m, .int .i64 r.state, .slice B p q]) := Lib.hid (HB.out.grown hgrow (fun e => by have := (hlt _ e).1; omega))
      have HO4 := Lib.hid hown4
      rw [HP.out]
      refine ⟨hv2, ?_⟩
      try simp only [Act.put, sA, s0, sS]
      have hv := hv2
      clear hv2 hgrow hlt hown4
      refine take_any (i := 6) (v := .pointer (some ⟨w3.heap.size, 5, none⟩)) rfl rfl (by kernel_rfl) (by kernel_rfl) (by kernel_rfl) (.inl ⟨(by kernel_rfl), fun W' hW' => ?fa⟩) hv ?_
      case fa => go_simp
      try simp only [Act.put, sA, s0, sS]
      have hc4 := HB4.out.cell
      have hf4 := HB4.out.frozen
      refine wpAnyH_one (i := 7) (by kernel_rfl) rfl (by kernel_rfl) ?_
      go_simp
      refine ⟨Ext.setCell (p := ⟨w3.heap.size, 5, none⟩) hv (Nat.le_refl _) _, ?_⟩
      try simp only [Act.put, sA, s0, sS]
      clear hc4 hf4
      refine wpAnyH_done (by kernel_rfl) (NoPanic.normal ?_) _
      go_wp2_with fail
      go_meet
      have hb5 := HB4.out.set_ 5 (.slice (some ⟨gg, 0, none⟩) (p + 1) cap)
      have hp1 : p + 1 = r.votes.length + 1 := by rw [HP.out]
      exact ⟨gg, cap, base, Lib.hid hb5, Lib.hid (by rw [hp1]; exact HO4.out.far (p := ⟨w3.heap.size, 5, none⟩) (fun j e => by have := (HO4.out.lt j e).1; show j ≠ w3.heap.size; omega) _), Lib.hid (Ext.setCell (p := ⟨w3.heap.size, 5, none⟩) hv (Nat.le_refl _) _), by omega⟩
    · go_simp
      refine hK.out _ _ (hv.alloc _) (fun _ => ?_)
      clear hK
      try simp only [Act.put, sA, s0, sS]
      have hx0 : Ext v0 (v0.alloc (.cells #[.string v.who, .int .i64 v.kind, .string v.text, .slice A n m] 39)) := (Ext.refl v0).alloc _
      have hl : Blk (v0.alloc (.cells #[.string v.who, .int .i64 v.kind, .string v.text, .slice A n m] 39)) v0.heap.size 39 #[.string v.who, .int .i64 v.kind, .string v.text, .slice A n m] := Blk.new' rfl
      generalize v0.alloc (.cells #[.string v.who, .int .i64 v.kind, .string v.text, .slice A n m] 39) = vl at hx0 hl ⊢
      generalize v0.heap.size = gl at hl ⊢
      have HL := Lib.hid hl
      have hv2 := hv.trans hx0
      have HB := Lib.hid (HB.out.ext hx0)
      have hv := hv2
      clear hv2 hx0 hl
      refine wpAnyH_one (i := 2) (by kernel_rfl) rfl (by kernel_rfl) ?_
      go_simp
      refine (HCL.out vl (HX.out.trans hv)).mono ?_
      rintro e vc ⟨v', rfl, hown, hx0⟩
      have hgb : w3.heap.size < vl.heap.size := HB.out.lt
      have hbs : vl.heap.size ≤ vc.heap.size := hx0.size_le
      generalize vl.heap.size = base at hown hgb hbs
      have hv2 := hv.trans hx0
      refine ⟨hv2, ?_⟩
      try simp only [Act.put, sA, s0, sS]
      have HO := Lib.hid hown
      have HB := Lib.hid (HB.out.ext hx0)
      have HL := Lib.hid (HL.out.ext hx0)
      have hv := hv2
      clear hv2 hx0 hown
      refine wpAnyH_one (i := 5) (by kernel_rfl) rfl (by kernel_rfl) ?_
      refine wp_append_w (R := Vot) (fun h => Vot.one h) w vc _ _ 26 39 i0 z0 rfl Tryz.underlying26 hi0 hz0 hs0 hby0 hzk0 (by decide) base v' r.votes rfl HO.out gl 1 [.string v.who, .int .i64 v.kind, .string v.text, .slice A n m] y rfl (HL.out.range 0 _ (fun j _ => by simp)) rfl HVT.out (by have := HP.out; unfold maxLen; omega) (by have := HP.out; omega) hbs ?_
      intro gg cap v4 hown4 hgrow
      have hlt := HO.out.lt
      have hv2 : Ext w3 v4 := Below.grown hv hgrow hv.size_le (fun j e => by have := (hlt j e).1; omega)
      have HB4 : Hid (Blk v4 w3.heap.size 28 #[.int .i64 r.number, .string r.author, .string r.branch, .slice A n m, .int .i64 r.state, .slice B p q]) := Lib.hid (HB.out.grown hgrow (fun e => by have := (hlt _ e).1; omega))
      have HO4 := Lib.hid hown4
      rw [HP.out]
      refine ⟨hv2, ?_⟩
      try simp only [Act.put, sA, s0, sS]
      have hv := hv2
      clear hv2 hgrow hlt hown4
      refine take_any (i := 6) (v := .pointer (some ⟨w3.heap.size, 5, none⟩)) rfl rfl (by kernel_rfl) (by kernel_rfl) (by kernel_rfl) (.inl ⟨(by kernel_rfl), fun W' hW' => ?fa⟩) hv ?_
      case fa => go_simp
      try simp only [Act.put, sA, s0, sS]
      have hc4 := HB4.out.cell
      have hf4 := HB4.out.frozen
      refine wpAnyH_one (i := 7) (by kernel_rfl) rfl (by kernel_rfl) ?_
      go_simp
      refine ⟨Ext.setCell (p := ⟨w3.heap.size, 5, none⟩) hv (Nat.le_refl _) _, ?_⟩
      try simp only [Act.put, sA, s0, sS]
      clear hc4 hf4
      refine wpAnyH_done (by kernel_rfl) (NoPanic.normal ?_) _
      go_wp2_with fail
      go_meet
      have hb5 := HB4.out.set_ 5 (.slice (some ⟨gg, 0, none⟩) (p + 1) cap)
      have hp1 : p + 1 = r.votes.length + 1 := by rw [HP.out]
      exact ⟨gg, cap, base, Lib.hid hb5, Lib.hid (by rw [hp1]; exact HO4.out.far (p := ⟨w3.heap.size, 5, none⟩) (fun j e => by have := (HO4.out.lt j e).1; show j ≠ w3.heap.size; omega) _), Lib.hid (Ext.setCell (p := ⟨w3.heap.size, 5, none⟩) hv (Nat.le_refl _) _), by omega⟩
  case rest =>
    obtain ⟨gg, cap, base, HB5, HO5, HY5, hgb⟩ := hcut
    have HX5 := Lib.hid (HX.out.trans HY5.out)
    have HAX := Lib.hid (approvals_any _ x wc (HXV.out wc base gg cap HX5.out HO5.out) HXF.out.1 (by have := HXF.out.2; omega))
    rw [HE2.out] at HAX
    replace HB0 := Lib.hid (HB0.out.ext HY5.out)
    replace HB1 := Lib.hid (HB1.out.ext HY5.out)
    replace HS1 := Lib.hid (HS1.out.ext HY5.out)
    obtain ⟨hc0, hf0, hl0⟩ := HB5.out.all
    go_wp2_with fail
    refine HAX.out.mono ?_
    rintro e w6 ⟨P2, d2, rfl, hs2, hx0⟩
    have HS2 := Lib.hid hs2.1
    replace HX5 := Lib.hid (HX5.out.trans hx0)
    replace HB0 := Lib.hid (HB0.out.ext hx0)
    replace HB1 := Lib.hid (HB1.out.ext hx0)
    replace HS1 := Lib.hid (HS1.out.ext hx0)
    have HS0 := Lib.hid hx0
    clear hx0
    clear HS0 hs2 hc0 hf0 hl0 HB5 HO5 HAX HXV HCL HBX
    go_wp2_with fail
    refine (strclone_any P1 L1.length d1 L1 _ HS1.out (by have := HL1.out; omega)).mono ?_
    rintro e w7 ⟨v1, rfl, ho1, hx0⟩
    have HO1 := Lib.hid ho1
    have HY7 := Lib.hid hx0
    have hgw : w.heap.size + 1 < w6.heap.size := HB1.out.lt
    have HB17 := Lib.hid (HB1.out.ext hx0)
    have HLE : Hid (w6.heap.size ≤ w6.heap.size) := Lib.hid (Nat.le_refl _)
    clear ho1 hx0
    go_wp2_with fail
    refine (strdelete_any w6.heap.size v1 L1 _ HO1.out (by have := HL1.out; omega) v.who (w.heap.size + 1) hgw HB17.out.lt (HB17.out.cell 0)).mono ?_
    rintro e w8 ⟨P3, d3, rfl, hs3, hxx⟩
    have HS3 := Lib.hid hs3
    have hx0 := hxx w6 HY7.out (Nat.le_refl _)
    replace HS2 := Lib.hid (HS2.out.ext hx0)
    replace HX5 := Lib.hid (HX5.out.trans hx0)
    replace HB0 := Lib.hid (HB0.out.ext hx0)
    replace HB1 := Lib.hid (HB1.out.ext hx0)
    replace HS1 := Lib.hid (HS1.out.ext hx0)
    have HS0 := Lib.hid hx0
    clear hx0
    clear HS0 HO1 HY7 HB17 hgw hs3 hxx HLE
    have hbf1 : (butFor v.who L1).length ≤ L1.length := List.length_filter_le _ _
    go_wp2_with fail
    refine (strclone_any P2 L2.length d2 L2 _ HS2.out (by have := HL2.out; omega)).mono ?_
    rintro e w9 ⟨v2, rfl, ho1, hx0⟩
    have HO1 := Lib.hid ho1
    have HY7 := Lib.hid hx0
    have hgw : w.heap.size + 1 < w8.heap.size := HB1.out.lt
    have HB17 := Lib.hid (HB1.out.ext hx0)
    clear ho1 hx0
    go_wp2_with fail
    refine (strdelete_any w8.heap.size v2 L2 _ HO1.out (by have := HL2.out; omega) v.who (w.heap.size + 1) hgw HB17.out.lt (HB17.out.cell 0)).mono ?_
    rintro e w10 ⟨P4, d4, rfl, hs4, hxx⟩
    have HS4 := Lib.hid hs4
    have hx0 := hxx w8 HY7.out (Nat.le_refl _)
    replace HS2 := Lib.hid (HS2.out.ext hx0)
    replace HS3 := Lib.hid (HS3.out.ext hx0)
    replace HX5 := Lib.hid (HX5.out.trans hx0)
    replace HB0 := Lib.hid (HB0.out.ext hx0)
    replace HB1 := Lib.hid (HB1.out.ext hx0)
    replace HS1 := Lib.hid (HS1.out.ext hx0)
    have HS0 := Lib.hid hx0
    clear hx0
    clear HS0 HO1 HY7 HB17 hgw hs4 hxx
    have hbf2 : (butFor v.who L2).length ≤ L2.length := List.length_filter_le _ _
    have HQ := Lib.hid (sequal_any P3 P4 (butFor v.who L1).length d3 (butFor v.who L2).length d4 (butFor v.who L1) (butFor v.who L2) w10 HS3.out HS4.out (by have := HL1.out; omega) (by have := HL2.out; omega))
    rw [decide_eq_true HLAW.out.1] at HQ
    clear hbf1 hbf2
    generalize (butFor v.who L1).length = n3 at HQ ⊢
    generalize (butFor v.who L2).length = n4 at HQ ⊢
    go_wp2_with fail
    refine HQ.out.mono ?_
    rintro e w11 ⟨rfl, hx0⟩
    replace HS2 := Lib.hid (HS2.out.ext hx0)
    replace HX5 := Lib.hid (HX5.out.trans hx0)
    replace HB0 := Lib.hid (HB0.out.ext hx0)
    replace HB1 := Lib.hid (HB1.out.ext hx0)
    replace HS1 := Lib.hid (HS1.out.ext hx0)
    have HS0 := Lib.hid hx0
    clear hx0
    clear HS0 HS3 HS4 HQ
    have HSO := Lib.hid (sorted_any P2 L2.length d2 L2 w11 HS2.out HUP.out (by have := HL2.out; omega))
    have hl2 := HL2.out
    have hl1 := HL1.out
    have HS2' : Hid (Lst w11 P2 L2.length L2) := HS2
    go_wp2_with fail
    refine HSO.out.mono ?_
    rintro e w12 ⟨rfl, hx0⟩
    replace HS2 := Lib.hid (HS2.out.ext hx0)
    replace HX5 := Lib.hid (HX5.out.trans hx0)
    replace HB0 := Lib.hid (HB0.out.ext hx0)
    replace HB1 := Lib.hid (HB1.out.ext hx0)
    replace HS1 := Lib.hid (HS1.out.ext hx0)
    have HS0 := Lib.hid hx0
    clear hx0
    clear HS0 HSO HS2'
    obtain ⟨hc0, hf0, hl0⟩ := HB0.out.all
    obtain ⟨hc1, hf1, hl1'⟩ := HB1.out.all
    have HCA := Lib.hid (scontains_any P2 L2.length d2 L2 r.author w12 HS2.out (by have := HL2.out; omega))
    rw [show isIn r.author L2 = false from Bool.eq_false_iff.2 fun h => HLAW.out.2.1 (isIn_iff.1 h)] at HCA
    go_wp2_with fail
    refine HCA.out.mono ?_
    rintro e w13 ⟨rfl, hx0⟩
    replace HS2 := Lib.hid (HS2.out.ext hx0)
    clear hc0 hf0 hl0 hc1 hf1 hl1'
    replace HX5 := Lib.hid (HX5.out.trans hx0)
    replace HB0 := Lib.hid (HB0.out.ext hx0)
    replace HB1 := Lib.hid (HB1.out.ext hx0)
    replace HS1 := Lib.hid (HS1.out.ext hx0)
    have HS0 := Lib.hid hx0
    clear hx0
    clear HS0 HCA
    obtain ⟨hc0, hf0, hl0⟩ := HB0.out.all
    obtain ⟨hc1, hf1, hl1'⟩ := HB1.out.all
    have HAW : Hid (∀ W, Ext w13 W → Calls Tryz.prog 10 #[] W (Ret (.bool true) W)) := Lib.hid fun W hW => awake55_any W (HG.out.ext (HX5.out.trans hW))
    have HEQ : Hid (L1 = L2 → Calls Tryz.prog 11 #[.slice P1 L1.length d1, .slice P2 L2.length d2] w13 (Ret (.bool true) w13)) := Lib.hid fun he => by
      have := sequal_any P1 P2 L1.length d1 L2.length d2 L1 L2 w13 HS1.out HS2.out (by omega) (by omega)
      rwa [decide_eq_true he] at this
    by_cases h3 : v.kind = 3
    · have HE3 := Lib.hid (HEQ.out (HLAW.out.2.2.1 (.inl h3)))
      have j3 : (v.kind == 3) = true := by rw [h3]; rfl
      clear HEQ h3
      generalize L1.length = n1 at HE3 ⊢
      generalize L2.length = n2 at HE3 ⊢
      go_wp2_with fail
      refine HE3.out.mono ?_
      rintro e w14 ⟨rfl, hx0⟩
      have HY14 := Lib.hid hx0
      clear hx0 hc0 hf0 hl0 hc1 hf1 hl1'
      go_wp2_with fail
      refine (HAW.out _ HY14.out).mono ?_
      rintro e w15 ⟨rfl, hx0⟩
      have HX6 := Lib.hid (HX5.out.trans (HY14.out.trans hx0))
      clear hx0
      go_wp2_with fail
      go_ret
      exact Ret.mk rfl HX6.out
    have j3 : (v.kind == 3) = false := by simpa using h3
    cases hq : Qm.eqB v.who r.author
    rotate_left
    · have HE3 := Lib.hid (HEQ.out (HLAW.out.2.2.1 (.inr (Qm.eqB_iff.1 hq))))
      have j4 : (v.who.toList == r.author.toList) = true := hq
      clear HEQ h3 hq
      generalize L1.length = n1 at HE3 ⊢
      generalize L2.length = n2 at HE3 ⊢
      go_wp2_with fail
      refine HE3.out.mono ?_
      rintro e w14 ⟨rfl, hx0⟩
      have HY14 := Lib.hid hx0
      clear hx0 hc0 hf0 hl0 hc1 hf1 hl1'
      go_wp2_with fail
      refine (HAW.out _ HY14.out).mono ?_
      rintro e w15 ⟨rfl, hx0⟩
      have HX6 := Lib.hid (HX5.out.trans (HY14.out.trans hx0))
      clear hx0
      go_wp2_with fail
      go_ret
      exact Ret.mk rfl HX6.out
    have j4 : (v.who.toList == r.author.toList) = false := hq
    have hin : isIn v.who L2 = (v.kind == 1) := by
      rw [Bool.eq_iff_iff, isIn_iff, HLAW.out.2.2.2 h3 (fun e => by rw [Qm.eqB_iff.2 e] at hq; cases hq)]
      simp
    have HCT : Hid (∀ W, Ext w13 W → Calls Tryz.prog 25 #[.slice P2 L2.length d2, .string v.who] W (Ret (.bool (v.kind == 1)) W)) := Lib.hid fun W hW => by
      have := scontains_any P2 L2.length d2 L2 v.who W (HS2.out.ext hW) (by omega)
      rwa [hin] at this
    clear HEQ h3 hq hin
    generalize L2.length = n2 at HCT ⊢
    go_upto_region 13 with fail
    have HC0 : Hid (∀ W, Ext w13 W → ∀ i, W.cell? ⟨w.heap.size + 1, i, none⟩ = (#[.string v.who, .int .i64 v.kind, .string v.text, .slice A n m] : Array Value)[i]?) := Lib.hid fun W hW => (HB1.out.ext hW).cell
    have HC1 : Hid (∀ W, Ext w13 W → ∀ i, W.cell? ⟨w.heap.size, i, none⟩ = (#[.int .i64 r.number, .string r.author, .string r.branch, .slice A n m, .int .i64 r.state, .slice B p q] : Array Value)[i]?) := Lib.hid fun W hW => (HB0.out.ext hW).cell
    clear hc0 hf0 hl0 hc1 hf1 hl1'
    refine wp_region_ext (by kernel_rfl) (by kernel_rfl) ?_
    repeat (first | go_big_quiet_skip | (go_big_quiet_want; first | (go_big_quiet_op; go_big_quiet_on) | (apply quiet_at; intro W hW; have hc0 := HC0.out W hW; have hc1 := HC1.out W hW; go_simp; (first | exact rfl | (simp only [Oper.quietUpon, true_and]; first | exact rfl | (first | (go_at_call 25; exact quiet_call hW (HCT.out W hW) (fun _ _ h => h)) | (go_at_call 10; exact quiet_call hW (HAW.out W hW) (fun _ _ h => h)))) | (first | (go_at_call 25; exact quiet_call hW (HCT.out W hW) (fun _ _ h => h)) | (go_at_call 10; exact quiet_call hW (HAW.out W hW) (fun _ _ h => h)))); go_big_quiet_on; simp only [Act.put, sA, s0, sS])))
    refine wpQuiet_nil ?_
    intro w14 hx0
    have HX6 := Lib.hid (HX5.out.trans hx0)
    clear hx0
    go_wp2_with fail
    go_ret
    exact Ret.mk rfl HX6.out
end Go.Proofs.YtojfgidoobgcaaaGreatDoor
