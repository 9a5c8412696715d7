/- A tree that came in, opened: what its cells hold. -/
import Derived.Test.YtdbokolbheileaaGreatDoorOp
import Derived.Test.YtdbokolbheileaaGreatDoorTm
import Derived.Deep.Slices
set_option linter.unusedSimpArgs false
set_option linter.unusedVariables false
namespace Go.Proofs.YtdbokolbheileaaGreatDoor
open Go Go.ChangeShapes Go.WideShapes Go.RowKit Go.Deep

theorem cFile : Tryz.prog.cellsOf 27 = 4 := by kernel_rfl
/-- No string of the file is longer than memory. -/
structure Pf.Meek (f : Pf) : Prop where
  path : f.path.size ≤ 140737488351232
  data : f.data.size ≤ 140737488351232

section
variable {H : Type} {enc : TypeId × Value → H} {W : World} {held : Bool}
set_option maxRecDepth 100000 in
set_option maxHeartbeats 1000000 in
/-- The cells of a file that came in. -/
theorem open_file {fuel : Nat} {v0 v1 v2 v3 : Value} {d : DataW H} {ps : List MemPlace} (h : DataW.trod enc Tryz.prog W 0 (fun _ => true) held fuel 27 [v0, v1, v2, v3] = some (d, ps)) (hw : ∀ n ∈ d.weights Tryz.prog 27, n ≤ reachBytes) :
    ∃ f : Pf, [v0, v1, v2, v3] = f.arr.toList ∧ f.Meek := by
  obtain ⟨xs, n, _, hx, _, hxl, hf⟩ := DataW.trod_struct Tryz.underlying27 h
  have hxl3 : xs.length = 4 := hxl
  match xs, hxl3 with
  | [y0, y1, y2, y3], _ =>
    have e0 : DataW.trod enc Tryz.prog W 0 (fun _ => true) held n 9 (([v0, v1, v2, v3].drop 0).take (Tryz.prog.cellsOf 9)) = some y0 := hf 0 _ rfl
    rw [cString] at e0
    have e0 : DataW.trod enc Tryz.prog W 0 (fun _ => true) held n 9 [v0] = some y0 := e0
    have e1 : DataW.trod enc Tryz.prog W 0 (fun _ => true) held n 3 (([v0, v1, v2, v3].drop 1).take (Tryz.prog.cellsOf 3)) = some y1 := hf 1 _ rfl
    rw [cInt] at e1
    have e1 : DataW.trod enc Tryz.prog W 0 (fun _ => true) held n 3 [v1] = some y1 := e1
    have e2 : DataW.trod enc Tryz.prog W 0 (fun _ => true) held n 3 (([v0, v1, v2, v3].drop 2).take (Tryz.prog.cellsOf 3)) = some y2 := hf 2 _ rfl
    rw [cInt] at e2
    have e2 : DataW.trod enc Tryz.prog W 0 (fun _ => true) held n 3 [v2] = some y2 := e2
    have e3 : DataW.trod enc Tryz.prog W 0 (fun _ => true) held n 9 (([v0, v1, v2, v3].drop 3).take (Tryz.prog.cellsOf 9)) = some y3 := hf 3 _ rfl
    rw [cString] at e3
    have e3 : DataW.trod enc Tryz.prog W 0 (fun _ => true) held n 9 [v3] = some y3 := e3
    have ed : d = .agg ([y0, y1, y2, y3].map (·.1)) := congrArg Prod.fst hx
    subst ed
    have hu : Tryz.prog.underlying 27 = some (.struct _) := Tryz.underlying27
    simp only [DataW.weights, hu] at hw
    obtain ⟨z0, g0, _⟩ := DataW.trod_string Tryz.underlying9 e0
    have t0 := str_size e0 (weights_mem (j := 0) hw rfl rfl) (by simpa using g0)
    obtain rfl : v0 = .string z0 := by simpa using g0
    obtain ⟨z1, g1, _⟩ := DataW.trod_int Tryz.underlying3 e1
    obtain rfl : v1 = .int .i64 z1 := by simpa using g1
    obtain ⟨z2, g2, _⟩ := DataW.trod_int Tryz.underlying3 e2
    obtain rfl : v2 = .int .i64 z2 := by simpa using g2
    obtain ⟨z3, g3, _⟩ := DataW.trod_string Tryz.underlying9 e3
    have t3 := str_size e3 (weights_mem (j := 3) hw rfl rfl) (by simpa using g3)
    obtain rfl : v3 = .string z3 := by simpa using g3
    exact ⟨⟨z0, z1, z2, z3⟩, rfl, ⟨t0, t3⟩⟩

theorem fl_at {l : List Pf} {i j : Nat} {f : Pf} (hi : l[i]? = some f) (hj : j < 4) : (fl l)[i * 4 + j]? = f.arr.toList[j]? := fl_get hi hj
theorem fl_len (l : List Pf) : (fl l).length = l.length * 4 := by
  induction l with
  | nil => rfl
  | cons f l ih =>
    rw [fl, List.length_append, ih, List.length_cons]
    simp
    omega

set_option maxRecDepth 100000 in
set_option maxHeartbeats 1000000 in
/-- A tree that came in. -/
theorem open_tree {fuel : Nat} {v : Value} {x : DataW H × List MemPlace} (h : DataW.trod enc Tryz.prog W 0 (fun _ => true) held fuel 23 [v] = some x) (hw : ∀ n ∈ x.1.weights Tryz.prog 23, n ≤ reachBytes) :
    ∃ A l c, v = .slice A l.length c ∧ Trs W A l ∧ l.length ≤ c ∧ c ≤ 2932031007402 ∧ (A = none → c = 0) ∧ ∀ f ∈ l, f.Meek := by
  have hu : Tryz.prog.underlying 23 = some (.slice 27) := Tryz.underlying23
  rcases open_slice hu h with ⟨e, _⟩ | ⟨a, len, cap, m, n, D, Pl, e, _, hlc, _, hm, hx, hc⟩
  · obtain rfl : v = .slice none 0 0 := by simpa using e
    exact ⟨none, [], 0, rfl, Trs.nil _ _, Nat.zero_le _, Nat.zero_le _, fun _ => rfl, fun q hq => by cases hq⟩
  · obtain rfl : v = .slice (some a) len cap := by simpa using e
    have hm' : m = cap := by simpa using hm
    subst hm'
    rw [hx] at hw
    simp only [DataW.weights, hu] at hw
    have hcap : m * 48 ≤ reachBytes := by
      have := hw _ (List.mem_cons_self ..)
      have hb : Tryz.prog.bytesOf 27 = 48 := by kernel_rfl
      rw [hb] at this
      simp only [List.length_map, List.length_range] at this
      rwa [show len + (m - len) = m by omega] at this
    obtain ⟨pq, hpq⟩ := choose_lt (α := Pf) (n := len) (p := fun i f => (∀ j v, f.arr.toList[j]? = some v → W.cell? ((a.add (i * 4)).add j) = some v) ∧ f.Meek) (fun i hi => by
      obtain ⟨cs', h1, h2⟩ := hc i (by omega)
      rw [cFile] at h1
      obtain ⟨_, hl, hcell⟩ := World.cells?_some h1
      match cs', hl with
      | [v0, v1, v2, v3], _ =>
        obtain ⟨f, hp, hk⟩ := open_file h2 (fun k hk => hw k (List.mem_cons_of_mem _ (List.mem_append_left _ (weightsAll_mem (d := D i) (List.mem_map.2 ⟨i, List.mem_range.2 hi, rfl⟩) _ hk))))
        refine ⟨f, fun j v hv => ?_, hk⟩
        rw [← hp] at hv
        have hj : j < 4 := (List.getElem?_eq_some_iff.1 hv).1
        rw [hcell j hj, hv])
    have hl : ((List.range len).map pq).length = len := by simp
    refine ⟨some a, (List.range len).map pq, m, by rw [hl], fun h0 => ?_, by rw [hl]; exact hlc, ?_, (fun h => by cases h), fun q hq => ?_⟩
    · have hlen : 0 < len := by simpa using h0
      obtain ⟨b, o, spot⟩ := a
      have h1 := (hpq 0 hlen).1 0 _ rfl
      have hs : spot = none := by simpa [Addr.add] using World.cell?_spot h1
      subst hs
      refine ⟨b, o, rfl, ?_, fun j v hv => ?_⟩
      · have := lt_of_cell h1
        simpa [add_none] using this
      · have hj := (List.getElem?_eq_some_iff.1 hv).1
        rw [fl_len, hl] at hj
        have h2 : j / 4 < len := by omega
        have h3 : ((List.range len).map pq)[j / 4]? = some (pq (j / 4)) := by
          rw [List.getElem?_map, List.getElem?_range h2]
          rfl
        have h4 := fl_at h3 (j := j % 4) (by omega)
        rw [show j / 4 * 4 + j % 4 = j by omega, hv] at h4
        have := (hpq (j / 4) h2).1 (j % 4) v h4.symm
        rw [add_none, add_none] at this
        rw [← this]
        congr 2
        omega
    · unfold reachBytes at hcap
      omega
    · obtain ⟨i, hi, rfl⟩ := List.mem_map.1 hq
      exact (hpq i (List.mem_range.1 hi)).2
set_option maxRecDepth 100000 in
/-- A string that came in. -/
theorem open_str {b0 : Nat} {v : Value} {d : DataW H} {ps : List MemPlace} (hd : DataW.Trod enc Tryz.prog W 0 (fun _ => true) held 9 v d ps) (hw : ∀ n ∈ d.weights Tryz.prog 9, n ≤ reachBytes) (hval : Value.okWide Tryz.prog W .any b0 9 v) :
    ∃ s : ByteArray, v = .string s ∧ s.size ≤ 140737488351232 := by
  obtain ⟨s, rfl⟩ := okWide_string Tryz.underlying9 hval
  obtain ⟨n, h⟩ := hd
  exact ⟨s, rfl, str_size h hw rfl⟩
end
end Go.Proofs.YtdbokolbheileaaGreatDoor
