/- Rules, files and trees that came in, opened: what their cells hold, and that they read again as they did. -/
import Derived.Test.YtnjcifppkijanaaGreatDoorJFk
import Derived.OpenShut
import Derived.ReadAgain
import Derived.Deep.Strs
import Derived.Deep.Slices
import Derived.Shelf.Vars
import Derived.SizedLaws
set_option linter.unusedSimpArgs false
set_option linter.unusedVariables false
namespace Go.Proofs.YtnjcifppkijanaaGreatDoor
open Go Go.ChangeShapes Go.WideShapes Go.RowKit Go.Deep

theorem cInt : Tryz.prog.cellsOf 3 = 1 := by kernel_rfl
theorem cBool : Tryz.prog.cellsOf 4 = 1 := by kernel_rfl
theorem cString : Tryz.prog.cellsOf 9 = 1 := by kernel_rfl
theorem cRule : Tryz.prog.cellsOf 60 = 4 := by kernel_rfl
theorem cRules : Tryz.prog.cellsOf 23 = 1 := by kernel_rfl
theorem cFileI : Tryz.prog.cellsOf 32 = 2 := by kernel_rfl
theorem cFile : Tryz.prog.cellsOf 54 = 4 := by kernel_rfl
instance : Inhabited Ig.Ru := ⟨⟨false, false, false, ⟨#[]⟩⟩⟩
instance : Inhabited Ig.Fi := ⟨⟨⟨#[]⟩, []⟩⟩
instance : Inhabited Pf := ⟨⟨⟨#[]⟩, 0, 0, ⟨#[]⟩⟩⟩

section
variable {H : Type} {enc : TypeId × Value → H} {W : World} {held : Bool}

theorem add_none (b o i : Nat) : (⟨b, o, none⟩ : Addr).add i = ⟨b, o + i, none⟩ := by unfold Addr.add; split <;> simp_all
theorem weightsAll_mem {e : TypeId} {d : DataW H} : ∀ {ds : List (DataW H)}, d ∈ ds → ∀ n ∈ d.weights Tryz.prog e, n ∈ DataW.weightsAll Tryz.prog e ds
  | d0 :: r, hd, n, hn => by
    unfold DataW.weightsAll
    rcases List.mem_cons.1 hd with rfl | h
    · exact List.mem_append_left _ hn
    · exact List.mem_append_right _ (weightsAll_mem h n hn)
theorem weights_mem {ts : List TypeId} {ds : List (DataW H)} {j : Nat} {t : TypeId} {d : DataW H} (hw : ∀ n ∈ DataW.weightsEach Tryz.prog ts ds, n ≤ reachBytes) (ht : ts[j]? = some t) (hd : ds[j]? = some d) : ∀ n ∈ d.weights Tryz.prog t, n ≤ reachBytes :=
  fun n hn => hw n (DataW.weights_mem_each ht hd n hn)

/-- The string's size. -/
theorem str_size {n : Nat} {v : Value} {z : ByteArray} {y : DataW H × List MemPlace} (h : DataW.trod enc Tryz.prog W 0 (fun _ => true) held n 9 [v] = some y) (hw : ∀ k ∈ y.1.weights Tryz.prog 9, k ≤ reachBytes) (hv : v = .string z) : z.size ≤ 140737488351232 := by
  obtain ⟨s, h1, h2, _⟩ := DataW.trod_string Tryz.underlying9 h
  have : v = .string s := by simpa using h1
  rw [hv] at this
  obtain rfl : z = s := by simpa using this
  rw [h2] at hw
  have h9 := hw z.data.toList.length (by simp [DataW.weights])
  unfold reachBytes at h9
  rw [Array.length_toList] at h9
  have h8 : z.size = z.data.size := rfl
  omega

/-- A list that came in, whatever its elements. -/
theorem open_sls {α : Type} [Inhabited α] {t e : TypeId} {k by_ : Nat} (R : Reads α) (M : α → Prop) (hu : Tryz.prog.underlying t = some (.slice e)) (ck : Tryz.prog.cellsOf e = k) (hk : 0 < k) (hby : Tryz.prog.bytesOf e = by_)
    (hel : ∀ (fuel : Nat) (vs : List Value) (d : DataW H) (ps : List MemPlace), vs.length = k → DataW.trod enc Tryz.prog W 0 (fun _ => true) held fuel e vs = some (d, ps) → (∀ n ∈ d.weights Tryz.prog e, n ≤ reachBytes) → ∃ x, R W All vs x ∧ M x)
    {fuel : Nat} {v : Value} {x : DataW H × List MemPlace} (h : DataW.trod enc Tryz.prog W 0 (fun _ => true) held fuel t [v] = some x) (hw : ∀ n ∈ x.1.weights Tryz.prog t, n ≤ reachBytes) :
    ∃ A l c, v = .slice A l.length c ∧ Sls k R W All A l ∧ l.length ≤ c ∧ l.length * by_ ≤ reachBytes ∧ ∀ x ∈ l, M x := by
  rcases open_slice hu h with ⟨e, _⟩ | ⟨a, len, cap, m, n, D, Pl, e, _, hlc, _, hm, hx, hc⟩
  · obtain rfl : v = .slice none 0 0 := by simpa using e
    exact ⟨none, [], 0, rfl, Sls.nil _ _ _ _, Nat.zero_le _, by simp, fun q hq => by cases hq⟩
  · obtain rfl : v = .slice (some a) len cap := by simpa using e
    have hm' : m = cap := by simpa using hm
    subst hm'
    rw [hx] at hw
    simp only [DataW.weights, hu] at hw
    have hcap : len * by_ ≤ reachBytes := by
      have := hw _ (List.mem_cons_self ..)
      rw [hby] at this
      simp only [List.length_map, List.length_range] at this
      refine Nat.le_trans (Nat.mul_le_mul_right by_ ?_) this
      omega
    obtain ⟨pq, hpq⟩ := choose_lt (α := List Value × α) (n := len) (p := fun i f => f.1.length = k ∧ (∀ j v, f.1[j]? = some v → W.cell? ((a.add (i * k)).add j) = some v) ∧ R W All f.1 f.2 ∧ M f.2) (fun i hi => by
      obtain ⟨cs', h1, h2⟩ := hc i (by omega)
      rw [ck] at h1
      obtain ⟨_, hl, hcell⟩ := World.cells?_some h1
      obtain ⟨y, hy, hM⟩ := hel n cs' (D i) (Pl i) hl h2 (fun k hk => hw k (List.mem_cons_of_mem _ (List.mem_append_left _ (weightsAll_mem (d := D i) (List.mem_map.2 ⟨i, List.mem_range.2 hi, rfl⟩) _ hk))))
      refine ⟨(cs', y), hl, fun j v hv => ?_, hy, hM⟩
      have hj : j < k := by rw [← hl]; exact (List.getElem?_eq_some_iff.1 hv).1
      rw [hcell j hj, hv])
    have hget : ∀ {β : Type} (f : Nat → β) (i : Nat) (c : β), ((List.range len).map f)[i]? = some c → i < len ∧ c = f i := by
      intro β f i c hc
      rw [List.getElem?_map] at hc
      have hi : i < len := by
        rcases Nat.lt_or_ge i len with h | h
        · exact h
        · rw [List.getElem?_eq_none (by simpa using h)] at hc
          cases hc
      rw [List.getElem?_range hi] at hc
      exact ⟨hi, (Option.some.inj hc).symm⟩
    have hlen : ((List.range len).map fun i => (pq i).2).length = len := by simp
    refine ⟨some a, (List.range len).map fun i => (pq i).2, m, by rw [hlen], ⟨(List.range len).map fun i => (pq i).1, by simp, fun c hc => ?_, fun h0 => ?_, fun i c x hc hx => ?_⟩, by rw [hlen]; exact hlc, by rw [hlen]; exact hcap, fun q hq => ?_⟩
    · obtain ⟨i, hi, rfl⟩ := List.mem_map.1 hc
      exact (hpq i (List.mem_range.1 hi)).1
    · rw [hlen] at h0
      obtain ⟨b, o, spot⟩ := a
      have hk0 := (hpq 0 h0).1
      have h1 := (hpq 0 h0).2.1 0 _ (List.getElem?_eq_getElem (by omega))
      have hs : spot = none := by simpa [Addr.add] using World.cell?_spot h1
      subst hs
      refine ⟨b, o, rfl, ?_, trivial, fun j v hv => ?_⟩
      · have := lt_of_cell h1
        simpa [add_none] using this
      · have hall : ∀ c ∈ (List.range len).map fun i => (pq i).1, c.length = k := fun c hc => by
          obtain ⟨i, hi, rfl⟩ := List.mem_map.1 hc
          exact (hpq i (List.mem_range.1 hi)).1
        have hj := (List.getElem?_eq_some_iff.1 hv).1
        rw [flatten_len hall, List.length_map, List.length_range] at hj
        have h2 : j / k < len := by rw [Nat.div_lt_iff_lt_mul hk]; exact hj
        have h3 : ((List.range len).map fun i => (pq i).1)[j / k]? = some (pq (j / k)).1 := by
          rw [List.getElem?_map, List.getElem?_range h2]
          rfl
        have h4 := flatten_at hall h3 (Nat.mod_lt j hk)
        rw [Nat.mul_comm (j / k) k, Nat.div_add_mod, hv] at h4
        have := (hpq (j / k) h2).2.1 (j % k) v h4.symm
        rw [add_none, add_none, Nat.add_assoc, Nat.mul_comm (j / k) k, Nat.div_add_mod] at this
        exact this
    · obtain ⟨hi, rfl⟩ := hget _ _ _ hc
      obtain ⟨_, rfl⟩ := hget _ _ _ hx
      exact (hpq i hi).2.2.1
    · obtain ⟨i, hi, rfl⟩ := List.mem_map.1 hq
      exact (hpq i (List.mem_range.1 hi)).2.2.2
set_option maxRecDepth 100000 in
set_option maxHeartbeats 1000000 in
/-- A rule that came in. -/
theorem open_rule (fuel : Nat) (vs : List Value) (d : DataW H) (ps : List MemPlace) (hl : vs.length = 4) (h : DataW.trod enc Tryz.prog W 0 (fun _ => true) held fuel 60 vs = some (d, ps)) (hw : ∀ n ∈ d.weights Tryz.prog 60, n ≤ reachBytes) : ∃ x : Ig.Ru, RuR W All vs x ∧ True := by
  match vs, hl with
  | [v0, v1, v2, v3], _ =>
  obtain ⟨xs, n, _, hx, _, hxl, hf⟩ := DataW.trod_struct Tryz.underlying60 h
  have hxl3 : xs.length = 4 := hxl
  match xs, hxl3 with
  | [y0, y1, y2, y3], _ =>
    have e0 : DataW.trod enc Tryz.prog W 0 (fun _ => true) held n 4 (([v0, v1, v2, v3].drop 0).take (Tryz.prog.cellsOf 4)) = some y0 := hf 0 _ rfl
    rw [cBool] at e0
    have e0 : DataW.trod enc Tryz.prog W 0 (fun _ => true) held n 4 [v0] = some y0 := e0
    have e1 : DataW.trod enc Tryz.prog W 0 (fun _ => true) held n 4 (([v0, v1, v2, v3].drop 1).take (Tryz.prog.cellsOf 4)) = some y1 := hf 1 _ rfl
    rw [cBool] at e1
    have e1 : DataW.trod enc Tryz.prog W 0 (fun _ => true) held n 4 [v1] = some y1 := e1
    have e2 : DataW.trod enc Tryz.prog W 0 (fun _ => true) held n 4 (([v0, v1, v2, v3].drop 2).take (Tryz.prog.cellsOf 4)) = some y2 := hf 2 _ rfl
    rw [cBool] at e2
    have e2 : DataW.trod enc Tryz.prog W 0 (fun _ => true) held n 4 [v2] = some y2 := e2
    have e3 : DataW.trod enc Tryz.prog W 0 (fun _ => true) held n 9 (([v0, v1, v2, v3].drop 3).take (Tryz.prog.cellsOf 9)) = some y3 := hf 3 _ rfl
    rw [cString] at e3
    have e3 : DataW.trod enc Tryz.prog W 0 (fun _ => true) held n 9 [v3] = some y3 := e3
    have ed : d = .agg ([y0, y1, y2, y3].map (·.1)) := congrArg Prod.fst hx
    subst ed
    have hu : Tryz.prog.underlying 60 = some (.struct _) := Tryz.underlying60
    simp only [DataW.weights, hu] at hw
    obtain ⟨z0, g0, _⟩ := DataW.trod_bool Tryz.underlying4 e0
    obtain rfl : v0 = .bool z0 := by simpa using g0
    obtain ⟨z1, g1, _⟩ := DataW.trod_bool Tryz.underlying4 e1
    obtain rfl : v1 = .bool z1 := by simpa using g1
    obtain ⟨z2, g2, _⟩ := DataW.trod_bool Tryz.underlying4 e2
    obtain rfl : v2 = .bool z2 := by simpa using g2
    obtain ⟨z3, g3, _⟩ := DataW.trod_string Tryz.underlying9 e3
    have t3 := str_size e3 (weights_mem (j := 3) hw rfl rfl) (by simpa using g3)
    obtain rfl : v3 = .string z3 := by simpa using g3
    exact ⟨⟨z0, z1, z2, z3⟩, rfl, trivial⟩
/-- Rules that came in. -/
theorem open_rules {fuel : Nat} {v : Value} {x : DataW H × List MemPlace} (h : DataW.trod enc Tryz.prog W 0 (fun _ => true) held fuel 23 [v] = some x) (hw : ∀ n ∈ x.1.weights Tryz.prog 23, n ≤ reachBytes) :
    ∃ A l c, v = .slice A l.length c ∧ Rus W All A l ∧ l.length ≤ c ∧ l.length * 24 ≤ reachBytes ∧ ∀ x ∈ l, True :=
  open_sls RuR (fun _ => True) Tryz.underlying23 cRule (by decide) (by kernel_rfl) (fun fuel vs d ps hl h hw => open_rule fuel vs d ps hl h hw) h hw
set_option maxRecDepth 100000 in
set_option maxHeartbeats 1000000 in
/-- A file of rules that came in. -/
theorem open_ifile (fuel : Nat) (vs : List Value) (d : DataW H) (ps : List MemPlace) (hl : vs.length = 2) (h : DataW.trod enc Tryz.prog W 0 (fun _ => true) held fuel 32 vs = some (d, ps)) (hw : ∀ n ∈ d.weights Tryz.prog 32, n ≤ reachBytes) : ∃ x : Ig.Fi, FiR W All vs x ∧ x.rules.length ≤ 4611686018427387904 := by
  match vs, hl with
  | [v0, v1], _ =>
  obtain ⟨xs, n, _, hx, _, hxl, hf⟩ := DataW.trod_struct Tryz.underlying32 h
  have hxl3 : xs.length = 2 := hxl
  match xs, hxl3 with
  | [y0, y1], _ =>
    have e0 : DataW.trod enc Tryz.prog W 0 (fun _ => true) held n 9 (([v0, v1].drop 0).take (Tryz.prog.cellsOf 9)) = some y0 := hf 0 _ rfl
    rw [cString] at e0
    have e0 : DataW.trod enc Tryz.prog W 0 (fun _ => true) held n 9 [v0] = some y0 := e0
    have e1 : DataW.trod enc Tryz.prog W 0 (fun _ => true) held n 23 (([v0, v1].drop 1).take (Tryz.prog.cellsOf 23)) = some y1 := hf 1 _ rfl
    rw [cRules] at e1
    have e1 : DataW.trod enc Tryz.prog W 0 (fun _ => true) held n 23 [v1] = some y1 := e1
    have ed : d = .agg ([y0, y1].map (·.1)) := congrArg Prod.fst hx
    subst ed
    have hu : Tryz.prog.underlying 32 = some (.struct _) := Tryz.underlying32
    simp only [DataW.weights, hu] at hw
    obtain ⟨z0, g0, _⟩ := DataW.trod_string Tryz.underlying9 e0
    have t0 := str_size e0 (weights_mem (j := 0) hw rfl rfl) (by simpa using g0)
    obtain rfl : v0 = .string z0 := by simpa using g0
    obtain ⟨A1, z1, c1, rfl, s1, k1, b1, _⟩ := open_rules e1 (weights_mem (j := 1) hw rfl rfl)
    unfold reachBytes at b1
    exact ⟨⟨z0, z1⟩, ⟨A1, z1.length, c1, rfl, rfl, k1, s1⟩, by show z1.length ≤ _; omega⟩
/-- Files of rules that came in. -/
theorem open_ifiles {fuel : Nat} {v : Value} {x : DataW H × List MemPlace} (h : DataW.trod enc Tryz.prog W 0 (fun _ => true) held fuel 29 [v] = some x) (hw : ∀ n ∈ x.1.weights Tryz.prog 29, n ≤ reachBytes) :
    ∃ A l c, v = .slice A l.length c ∧ Fis W All A l ∧ l.length ≤ c ∧ l.length * 40 ≤ reachBytes ∧ ∀ x ∈ l, x.rules.length ≤ 4611686018427387904 :=
  open_sls FiR (fun x => x.rules.length ≤ 4611686018427387904) Tryz.underlying29 cFileI (by decide) (by kernel_rfl) (fun fuel vs d ps hl h hw => open_ifile fuel vs d ps hl h hw) h hw
set_option maxRecDepth 100000 in
set_option maxHeartbeats 1000000 in
/-- A plain file that came in. -/
theorem open_pfile (fuel : Nat) (vs : List Value) (d : DataW H) (ps : List MemPlace) (hl : vs.length = 4) (h : DataW.trod enc Tryz.prog W 0 (fun _ => true) held fuel 54 vs = some (d, ps)) (hw : ∀ n ∈ d.weights Tryz.prog 54, n ≤ reachBytes) : ∃ x : Pf, PlR W All vs x ∧ x.path.size ≤ 140737488355328 ∧ x.data.size ≤ 140737488355328 := by
  match vs, hl with
  | [v0, v1, v2, v3], _ =>
  obtain ⟨xs, n, _, hx, _, hxl, hf⟩ := DataW.trod_struct Tryz.underlying54 h
  have hxl3 : xs.length = 4 := hxl
  match xs, hxl3 with
  | [y0, y1, y2, y3], _ =>
    have e0 : DataW.trod enc Tryz.prog W 0 (fun _ => true) held n 9 (([v0, v1, v2, v3].drop 0).take (Tryz.prog.cellsOf 9)) = some y0 := hf 0 _ rfl
    rw [cString] at e0
    have e0 : DataW.trod enc Tryz.prog W 0 (fun _ => true) held n 9 [v0] = some y0 := e0
    have e1 : DataW.trod enc Tryz.prog W 0 (fun _ => true) held n 3 (([v0, v1, v2, v3].drop 1).take (Tryz.prog.cellsOf 3)) = some y1 := hf 1 _ rfl
    rw [cInt] at e1
    have e1 : DataW.trod enc Tryz.prog W 0 (fun _ => true) held n 3 [v1] = some y1 := e1
    have e2 : DataW.trod enc Tryz.prog W 0 (fun _ => true) held n 3 (([v0, v1, v2, v3].drop 2).take (Tryz.prog.cellsOf 3)) = some y2 := hf 2 _ rfl
    rw [cInt] at e2
    have e2 : DataW.trod enc Tryz.prog W 0 (fun _ => true) held n 3 [v2] = some y2 := e2
    have e3 : DataW.trod enc Tryz.prog W 0 (fun _ => true) held n 9 (([v0, v1, v2, v3].drop 3).take (Tryz.prog.cellsOf 9)) = some y3 := hf 3 _ rfl
    rw [cString] at e3
    have e3 : DataW.trod enc Tryz.prog W 0 (fun _ => true) held n 9 [v3] = some y3 := e3
    have ed : d = .agg ([y0, y1, y2, y3].map (·.1)) := congrArg Prod.fst hx
    subst ed
    have hu : Tryz.prog.underlying 54 = some (.struct _) := Tryz.underlying54
    simp only [DataW.weights, hu] at hw
    obtain ⟨z0, g0, _⟩ := DataW.trod_string Tryz.underlying9 e0
    have t0 := str_size e0 (weights_mem (j := 0) hw rfl rfl) (by simpa using g0)
    obtain rfl : v0 = .string z0 := by simpa using g0
    obtain ⟨z1, g1, _⟩ := DataW.trod_int Tryz.underlying3 e1
    obtain rfl : v1 = .int .i64 z1 := by simpa using g1
    obtain ⟨z2, g2, _⟩ := DataW.trod_int Tryz.underlying3 e2
    obtain rfl : v2 = .int .i64 z2 := by simpa using g2
    obtain ⟨z3, g3, _⟩ := DataW.trod_string Tryz.underlying9 e3
    have t3 := str_size e3 (weights_mem (j := 3) hw rfl rfl) (by simpa using g3)
    obtain rfl : v3 = .string z3 := by simpa using g3
    exact ⟨⟨z0, z1, z2, z3⟩, rfl, by show z0.size ≤ _; omega, by show z3.size ≤ _; omega⟩
/-- A tree that came in. -/
theorem open_plain {fuel : Nat} {v : Value} {x : DataW H × List MemPlace} (h : DataW.trod enc Tryz.prog W 0 (fun _ => true) held fuel 46 [v] = some x) (hw : ∀ n ∈ x.1.weights Tryz.prog 46, n ≤ reachBytes) :
    ∃ A l c, v = .slice A l.length c ∧ Trs W A l ∧ l.length ≤ c ∧ l.length * 48 ≤ reachBytes ∧ ∀ x ∈ l, x.path.size ≤ 140737488355328 ∧ x.data.size ≤ 140737488355328 := by
  obtain ⟨A, l, c, h1, h2, h3, h4, h5⟩ := open_sls PlR (fun x => x.path.size ≤ 140737488355328 ∧ x.data.size ≤ 140737488355328) Tryz.underlying46 cFile (by decide) (by kernel_rfl) (fun fuel vs d ps hl h hw => open_pfile fuel vs d ps hl h hw) h hw
  exact ⟨A, l, c, h1, trs_of_sls h2, h3, h4, h5⟩
set_option maxRecDepth 100000 in
/-- A string that came in. -/
theorem open_str {b0 : Nat} {v : Value} {d : DataW H} {ps : List MemPlace} (hd : DataW.Trod enc Tryz.prog W 0 (fun _ => true) held 9 v d ps) (hw : ∀ n ∈ d.weights Tryz.prog 9, n ≤ reachBytes) (hval : Value.okWide Tryz.prog W .any b0 9 v) :
    ∃ s : ByteArray, v = .string s ∧ s.size ≤ 140737488351232 := by
  obtain ⟨s, rfl⟩ := okWide_string Tryz.underlying9 hval
  obtain ⟨n, h⟩ := hd
  exact ⟨s, rfl, str_size h hw rfl⟩

/-! ### Read again -/
theorem kids : Kids Tryz.prog (· < Tryz.prog.types.size) := kids_rows (by kernel_rfl) (by kernel_rfl)
theorem slices_full : ∀ t e, t < Tryz.prog.types.size → Tryz.prog.underlying t = some (.slice e) → 0 < Tryz.prog.cellsOf e := slices_full_of Tryz.prog (by kernel_rfl)
theorem carryAll {w' : World} {sp : Nat → Bool} : ∀ {ts : List TypeId} {vs : List Value} {ds : List (DataW H)} {ps : List MemPlace}, DataW.TrodAll enc Tryz.prog W 0 sp held ts vs ds ps → (∀ p ∈ ps, W.sameAt w' p) → DataW.TrodAll enc Tryz.prog w' 0 sp held ts vs ds ps
  | [], [], [], _, h, _ => h
  | _ :: _, _ :: _, _ :: _, _, ⟨p, q, ⟨n, h1⟩, h2, e⟩, hs => ⟨p, q, ⟨n, DataW.trod_carry n _ _ _ h1 (fun x hx => hs x (by rw [e]; exact List.mem_append_left _ hx))⟩, carryAll h2 (fun x hx => hs x (by rw [e]; exact List.mem_append_right _ hx)), e⟩
set_option maxRecDepth 100000 in
/-- What a call owes that reads its arguments and makes new memory alone. -/
theorem post_of_ext {f : Func} {s : ChangeSpec} {apart fresh handsOn again : Bool} {W' : World} {args : Array Value} {v : Value} {ds : List (DataW H)} {before : List MemPlace} (hvars : s.vars = [])
    (hW : DataW.Whole enc Tryz.prog f.params.toList s.vars apart W args.toList ds [] before) (hx : Ext W W') (hT : ∀ t ∈ f.params.toList, t < Tryz.prog.types.size)
    (hres : ∀ (b : Nat) (sp : Nat → Bool) (hd : Bool), DataW.TrodAll enc Tryz.prog W' b sp hd f.resultTypes.toList (v.resultList f.resultTypes.size) (s.fn H ds).results [])
    (hargs : (s.fn H ds).args = ds) (hgs : (s.fn H ds).vars = [])
    (hok : ∀ (j : Nat) (t : TypeId) (r : Value), f.resultTypes[j]? = some t → (v.resultList f.resultTypes.size)[j]? = some r → Value.okWide Tryz.prog W' .any 0 t r) :
    s.post enc Tryz.prog f apart fresh handsOn again W args v W' := by
  have hlt := hW.lt
  have hW0 := hW
  obtain ⟨p, q, hA, hV, rfl, hfz, hnd⟩ := hW
  rw [hvars] at hV
  have hq : q = [] := hV
  subst hq
  rw [List.append_nil] at *
  have again' : ∀ sp : Nat → Bool, (∀ x ∈ p, sp x.block = true) → DataW.TrodAll enc Tryz.prog W' 0 sp true f.params.toList args.toList ds p := fun sp hsp =>
    carryAll (DataW.TrodAll.respare kids (fun t e ht hu => slices_full t e ht hu) hT hA hsp) (fun x hx' => hx.same (hlt x hx'))
  have hv' : ∀ sp : Nat → Bool, DataW.TrodVars enc Tryz.prog W' sp s.vars (s.fn H ds).vars [] := fun sp => by rw [hvars, hgs]; exact rfl
  refine ⟨ds, [], p, [], p, [], hW0, ?_, ?_, ?_, World.keptBut_mono (fun x hx' => ⟨hx', Or.inr (Or.inl hx')⟩) (hx.frame (· ∈ p)), fun _ => ?_⟩
  · rw [List.append_nil]; exact hres _ _ _
  · rw [List.append_nil, hargs]; exact again' _ (fun x hx' => by simpa using hlt x hx')
  · rw [List.append_nil]; exact hv' _
  · have hall := trodAll_append (again' (fun _ => true) (fun _ _ => rfl)) (hres 0 (fun _ => true) true)
    have hvv : DataW.TrodVars (H := H) enc Tryz.prog W' (fun _ => true) s.vars [] [] := by rw [hvars]; exact rfl
    have hz : W'.noneFrozen (([] ++ p) ++ []) := fun b off hp => by
      have hp' : MemPlace.cell b off ∈ p := by simpa using hp
      rw [hx.frozen (p := ⟨b, off, none⟩) (hlt _ hp')]
      exact hfz b off hp'
    have hn : apart = true → (([] ++ p) ++ []).Nodup := fun ha => by simpa using hnd ha
    exact ⟨hok, _, [], ([] ++ p) ++ [], ⟨[] ++ p, [], hall, hvv, rfl, hz, hn⟩, fun x hx' _ => by simpa using hx'⟩
end
end Go.Proofs.YtnjcifppkijanaaGreatDoor
