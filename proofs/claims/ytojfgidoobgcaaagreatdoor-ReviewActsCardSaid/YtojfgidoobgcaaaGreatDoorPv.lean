/- Reviews, votes and digests that came in, opened: what their cells hold, and that they read again as they did. Acts that came in, opened: what their cells hold. -/
import Derived.Test.YtojfgidoobgcaaaGreatDoorOc
import Derived.OpenShut
import Derived.ReadAgain
import Derived.Deep.Strs
import Derived.Deep.Slices
import Derived.Shelf.Vars
import Derived.SizedLaws
import Derived.Test.YtojfgidoobgcaaaGreatDoorOg
set_option linter.unusedSimpArgs false
set_option linter.unusedVariables false
namespace Go.Proofs.YtojfgidoobgcaaaGreatDoor
open Go Go.ChangeShapes Go.WideShapes Go.RowKit Go.Deep

theorem cInt : Tryz.prog.cellsOf 3 = 1 := by kernel_rfl
theorem cByte : Tryz.prog.cellsOf 5 = 1 := by kernel_rfl
theorem cString : Tryz.prog.cellsOf 9 = 1 := by kernel_rfl
theorem cDigest : Tryz.prog.cellsOf 69 = 32 := by kernel_rfl
theorem cDigests : Tryz.prog.cellsOf 25 = 1 := by kernel_rfl
theorem cVote : Tryz.prog.cellsOf 39 = 4 := by kernel_rfl
theorem cVotes : Tryz.prog.cellsOf 26 = 1 := by kernel_rfl
theorem cReview : Tryz.prog.cellsOf 28 = 6 := by kernel_rfl
instance : Inhabited Vt := ⟨⟨⟨#[]⟩, 0, ⟨#[]⟩, []⟩⟩
instance : Inhabited Rv := ⟨⟨0, ⟨#[]⟩, ⟨#[]⟩, [], 0, []⟩⟩

section
variable {H : Type} {enc : TypeId × Value → H} {W : World} {held : Bool}

theorem add_none (b o i : Nat) : (⟨b, o, none⟩ : Addr).add i = ⟨b, o + i, none⟩ := by unfold Addr.add; split <;> simp_all
theorem weightsAll_mem {e : TypeId} {d : DataW H} : ∀ {ds : List (DataW H)}, d ∈ ds → ∀ n ∈ d.weights Tryz.prog e, n ∈ DataW.weightsAll Tryz.prog e ds
  | d0 :: r, hd, n, hn => by
    unfold DataW.weightsAll
    rcases List.mem_cons.1 hd with rfl | h
    · exact List.mem_append_left _ hn
    · exact List.mem_append_right _ (weightsAll_mem h n hn)
theorem weights_mem {ts : List TypeId} {ds : List (DataW H)} {j : Nat} {t : TypeId} {d : DataW H} (hw : ∀ n ∈ DataW.weightsEach Tryz.prog ts ds, n ≤ reachBytes) (ht : ts[j]? = some t) (hd : ds[j]? = some d) : ∀ n ∈ d.weights Tryz.prog t, n ≤ reachBytes :=
  fun n hn => hw n (DataW.weights_mem_each ht hd n hn)

/-- The string's size. -/
theorem str_size {n : Nat} {v : Value} {z : ByteArray} {y : DataW H × List MemPlace} (h : DataW.trod enc Tryz.prog W 0 (fun _ => true) held n 9 [v] = some y) (hw : ∀ k ∈ y.1.weights Tryz.prog 9, k ≤ reachBytes) (hv : v = .string z) : z.size ≤ 140737488351232 := by
  obtain ⟨s, h1, h2, _⟩ := DataW.trod_string Tryz.underlying9 h
  have : v = .string s := by simpa using h1
  rw [hv] at this
  obtain rfl : z = s := by simpa using this
  rw [h2] at hw
  have h9 := hw z.data.toList.length (by simp [DataW.weights])
  unfold reachBytes at h9
  rw [Array.length_toList] at h9
  have h8 : z.size = z.data.size := rfl
  omega

/-- A list that came in, whatever its elements. -/
theorem open_sls {α : Type} [Inhabited α] {t e : TypeId} {k by_ : Nat} (R : Reads α) (M : α → Prop) (hu : Tryz.prog.underlying t = some (.slice e)) (ck : Tryz.prog.cellsOf e = k) (hk : 0 < k) (hby : Tryz.prog.bytesOf e = by_)
    (hel : ∀ (fuel : Nat) (vs : List Value) (d : DataW H) (ps : List MemPlace), vs.length = k → DataW.trod enc Tryz.prog W 0 (fun _ => true) held fuel e vs = some (d, ps) → (∀ n ∈ d.weights Tryz.prog e, n ≤ reachBytes) → ∃ x, R W All vs x ∧ M x)
    {fuel : Nat} {v : Value} {x : DataW H × List MemPlace} (h : DataW.trod enc Tryz.prog W 0 (fun _ => true) held fuel t [v] = some x) (hw : ∀ n ∈ x.1.weights Tryz.prog t, n ≤ reachBytes) :
    ∃ A l c, v = .slice A l.length c ∧ Sls k R W All A l ∧ l.length ≤ c ∧ l.length * by_ ≤ reachBytes ∧ ∀ x ∈ l, M x := by
  rcases open_slice hu h with ⟨e, _⟩ | ⟨a, len, cap, m, n, D, Pl, e, _, hlc, _, hm, hx, hc⟩
  · obtain rfl : v = .slice none 0 0 := by simpa using e
    exact ⟨none, [], 0, rfl, Sls.nil _ _ _ _, Nat.zero_le _, by simp, fun q hq => by cases hq⟩
  · obtain rfl : v = .slice (some a) len cap := by simpa using e
    have hm' : m = cap := by simpa using hm
    subst hm'
    rw [hx] at hw
    simp only [DataW.weights, hu] at hw
    have hcap : len * by_ ≤ reachBytes := by
      have := hw _ (List.mem_cons_self ..)
      rw [hby] at this
      simp only [List.length_map, List.length_range] at this
      refine Nat.le_trans (Nat.mul_le_mul_right by_ ?_) this
      omega
    obtain ⟨pq, hpq⟩ := choose_lt (α := List Value × α) (n := len) (p := fun i f => f.1.length = k ∧ (∀ j v, f.1[j]? = some v → W.cell? ((a.add (i * k)).add j) = some v) ∧ R W All f.1 f.2 ∧ M f.2) (fun i hi => by
      obtain ⟨cs', h1, h2⟩ := hc i (by omega)
      rw [ck] at h1
      obtain ⟨_, hl, hcell⟩ := World.cells?_some h1
      obtain ⟨y, hy, hM⟩ := hel n cs' (D i) (Pl i) hl h2 (fun k hk => hw k (List.mem_cons_of_mem _ (List.mem_append_left _ (weightsAll_mem (d := D i) (List.mem_map.2 ⟨i, List.mem_range.2 hi, rfl⟩) _ hk))))
      refine ⟨(cs', y), hl, fun j v hv => ?_, hy, hM⟩
      have hj : j < k := by rw [← hl]; exact (List.getElem?_eq_some_iff.1 hv).1
      rw [hcell j hj, hv])
    have hget : ∀ {β : Type} (f : Nat → β) (i : Nat) (c : β), ((List.range len).map f)[i]? = some c → i < len ∧ c = f i := by
      intro β f i c hc
      rw [List.getElem?_map] at hc
      have hi : i < len := by
        rcases Nat.lt_or_ge i len with h | h
        · exact h
        · rw [List.getElem?_eq_none (by simpa using h)] at hc
          cases hc
      rw [List.getElem?_range hi] at hc
      exact ⟨hi, (Option.some.inj hc).symm⟩
    have hlen : ((List.range len).map fun i => (pq i).2).length = len := by simp
    refine ⟨some a, (List.range len).map fun i => (pq i).2, m, by rw [hlen], ⟨(List.range len).map fun i => (pq i).1, by simp, fun c hc => ?_, fun h0 => ?_, fun i c x hc hx => ?_⟩, by rw [hlen]; exact hlc, by rw [hlen]; exact hcap, fun q hq => ?_⟩
    · obtain ⟨i, hi, rfl⟩ := List.mem_map.1 hc
      exact (hpq i (List.mem_range.1 hi)).1
    · rw [hlen] at h0
      obtain ⟨b, o, spot⟩ := a
      have hk0 := (hpq 0 h0).1
      have h1 := (hpq 0 h0).2.1 0 _ (List.getElem?_eq_getElem (by omega))
      have hs : spot = none := by simpa [Addr.add] using World.cell?_spot h1
      subst hs
      refine ⟨b, o, rfl, ?_, trivial, fun j v hv => ?_⟩
      · have := lt_of_cell h1
        simpa [add_none] using this
      · have hall : ∀ c ∈ (List.range len).map fun i => (pq i).1, c.length = k := fun c hc => by
          obtain ⟨i, hi, rfl⟩ := List.mem_map.1 hc
          exact (hpq i (List.mem_range.1 hi)).1
        have hj := (List.getElem?_eq_some_iff.1 hv).1
        rw [flatten_len hall, List.length_map, List.length_range] at hj
        have h2 : j / k < len := by rw [Nat.div_lt_iff_lt_mul hk]; exact hj
        have h3 : ((List.range len).map fun i => (pq i).1)[j / k]? = some (pq (j / k)).1 := by
          rw [List.getElem?_map, List.getElem?_range h2]
          rfl
        have h4 := flatten_at hall h3 (Nat.mod_lt j hk)
        rw [Nat.mul_comm (j / k) k, Nat.div_add_mod, hv] at h4
        have := (hpq (j / k) h2).2.1 (j % k) v h4.symm
        rw [add_none, add_none, Nat.add_assoc, Nat.mul_comm (j / k) k, Nat.div_add_mod] at this
        exact this
    · obtain ⟨hi, rfl⟩ := hget _ _ _ hc
      obtain ⟨_, rfl⟩ := hget _ _ _ hx
      exact (hpq i hi).2.2.1
    · obtain ⟨i, hi, rfl⟩ := List.mem_map.1 hq
      exact (hpq i (List.mem_range.1 hi)).2.2.2
/-- A digest that came in. -/
theorem open_dg (fuel : Nat) (vs : List Value) (d : DataW H) (ps : List MemPlace) (hl : vs.length = 32) (h : DataW.trod enc Tryz.prog W 0 (fun _ => true) held fuel 69 vs = some (d, ps)) : ∃ x : Dg, Dig W All vs x := by
  obtain ⟨xs, m, _, _, _, hxl, hf⟩ := DataW.trod_array Tryz.underlying69 h
  have key : ∀ i, i < 32 → ∃ b : UInt8, vs[i]? = some (.int .u8 b.toNat) := fun i hi => by
    have h1 := hf i hi
    rw [cByte, Nat.mul_one] at h1
    have h2 : xs[i]? = some xs[i] := List.getElem?_eq_getElem (by omega)
    rw [h2] at h1
    obtain ⟨z, hz, _, hwf⟩ := DataW.trod_int Tryz.underlying5 h1
    have h3 : vs[i]? = some (.int .u8 z) := by
      have : ((vs.drop i).take 1)[0]? = some (.int .u8 z) := by rw [hz]; rfl
      simpa using this
    have hr : 0 ≤ z ∧ z ≤ 255 := by simpa [Lit.wf, IntKind.has, IntKind.min, IntKind.max, IntKind.signed, IntKind.bits] using hwf
    refine ⟨UInt8.ofNat z.toNat, ?_⟩
    rw [h3]
    congr 2
    rw [UInt8.toNat_ofNat_of_lt' (by show z.toNat < 256; omega)]
    omega
  obtain ⟨f, hf2⟩ := choose_lt (α := UInt8) (n := 32) (p := fun i b => vs[i]? = some (.int .u8 b.toNat)) key
  refine ⟨⟨(List.range 32).map f, by simp⟩, ?_⟩
  refine List.ext_getElem? fun i => ?_
  show vs[i]? = ((((List.range 32).map f)).map fun x : UInt8 => Value.int .u8 x.toNat)[i]?
  rcases Nat.lt_or_ge i 32 with hi | hi
  · rw [hf2 i hi, List.getElem?_map, List.getElem?_map, List.getElem?_range hi]
    rfl
  · rw [List.getElem?_eq_none (by omega), List.getElem?_eq_none (by simp; omega)]
/-- Digests that came in. -/
theorem open_ds {fuel : Nat} {v : Value} {x : DataW H × List MemPlace} (h : DataW.trod enc Tryz.prog W 0 (fun _ => true) held fuel 25 [v] = some x) (hw : ∀ n ∈ x.1.weights Tryz.prog 25, n ≤ reachBytes) :
    ∃ A l c, v = .slice A l.length c ∧ Ds W All A l ∧ l.length ≤ c ∧ l.length * 32 ≤ reachBytes := by
  obtain ⟨A, l, c, h1, h2, h3, h4, _⟩ := open_sls Dig (fun _ => True) Tryz.underlying25 cDigest (by decide) (by kernel_rfl) (fun fuel vs d ps hl h _ => (open_dg fuel vs d ps hl h).imp fun x hx => ⟨hx, trivial⟩) h hw
  exact ⟨A, l, c, h1, h2, h3, h4⟩
set_option maxRecDepth 100000 in
set_option maxHeartbeats 1000000 in
/-- A vote that came in. -/
theorem open_vote (fuel : Nat) (vs : List Value) (d : DataW H) (ps : List MemPlace) (hl : vs.length = 4) (h : DataW.trod enc Tryz.prog W 0 (fun _ => true) held fuel 39 vs = some (d, ps)) (hw : ∀ n ∈ d.weights Tryz.prog 39, n ≤ reachBytes) : ∃ x : Vt, Vot W All vs x ∧ x.Wide := by
  match vs, hl with
  | [v0, v1, v2, v3], _ =>
  obtain ⟨xs, n, _, hx, _, hxl, hf⟩ := DataW.trod_struct Tryz.underlying39 h
  have hxl3 : xs.length = 4 := hxl
  match xs, hxl3 with
  | [y0, y1, y2, y3], _ =>
    have e0 : DataW.trod enc Tryz.prog W 0 (fun _ => true) held n 9 (([v0, v1, v2, v3].drop 0).take (Tryz.prog.cellsOf 9)) = some y0 := hf 0 _ rfl
    rw [cString] at e0
    have e0 : DataW.trod enc Tryz.prog W 0 (fun _ => true) held n 9 [v0] = some y0 := e0
    have e1 : DataW.trod enc Tryz.prog W 0 (fun _ => true) held n 3 (([v0, v1, v2, v3].drop 1).take (Tryz.prog.cellsOf 3)) = some y1 := hf 1 _ rfl
    rw [cInt] at e1
    have e1 : DataW.trod enc Tryz.prog W 0 (fun _ => true) held n 3 [v1] = some y1 := e1
    have e2 : DataW.trod enc Tryz.prog W 0 (fun _ => true) held n 9 (([v0, v1, v2, v3].drop 2).take (Tryz.prog.cellsOf 9)) = some y2 := hf 2 _ rfl
    rw [cString] at e2
    have e2 : DataW.trod enc Tryz.prog W 0 (fun _ => true) held n 9 [v2] = some y2 := e2
    have e3 : DataW.trod enc Tryz.prog W 0 (fun _ => true) held n 25 (([v0, v1, v2, v3].drop 3).take (Tryz.prog.cellsOf 25)) = some y3 := hf 3 _ rfl
    rw [cDigests] at e3
    have e3 : DataW.trod enc Tryz.prog W 0 (fun _ => true) held n 25 [v3] = some y3 := e3
    have ed : d = .agg ([y0, y1, y2, y3].map (·.1)) := congrArg Prod.fst hx
    subst ed
    have hu : Tryz.prog.underlying 39 = some (.struct _) := Tryz.underlying39
    simp only [DataW.weights, hu] at hw
    obtain ⟨z0, g0, _⟩ := DataW.trod_string Tryz.underlying9 e0
    have t0 := str_size e0 (weights_mem (j := 0) hw rfl rfl) (by simpa using g0)
    obtain rfl : v0 = .string z0 := by simpa using g0
    obtain ⟨z1, g1, _⟩ := DataW.trod_int Tryz.underlying3 e1
    obtain rfl : v1 = .int .i64 z1 := by simpa using g1
    obtain ⟨z2, g2, _⟩ := DataW.trod_string Tryz.underlying9 e2
    have t2 := str_size e2 (weights_mem (j := 2) hw rfl rfl) (by simpa using g2)
    obtain rfl : v2 = .string z2 := by simpa using g2
    obtain ⟨A3, z3, c3, rfl, s3, k3, b3⟩ := open_ds e3 (weights_mem (j := 3) hw rfl rfl)
    unfold reachBytes at b3
    exact ⟨⟨z0, z1, z2, z3⟩, ⟨A3, z3.length, c3, rfl, rfl, k3, s3⟩, ⟨by show z0.size ≤ _; omega, by show z2.size ≤ _; omega, by show z3.length ≤ _; omega⟩⟩
/-- Votes that came in. -/
theorem open_vs {fuel : Nat} {v : Value} {x : DataW H × List MemPlace} (h : DataW.trod enc Tryz.prog W 0 (fun _ => true) held fuel 26 [v] = some x) (hw : ∀ n ∈ x.1.weights Tryz.prog 26, n ≤ reachBytes) :
    ∃ A l c, v = .slice A l.length c ∧ Vs W All A l ∧ l.length ≤ c ∧ l.length * 64 ≤ reachBytes ∧ ∀ x ∈ l, x.Wide :=
  open_sls Vot Vt.Wide Tryz.underlying26 cVote (by decide) (by kernel_rfl) (fun fuel vs d ps hl h hw => open_vote fuel vs d ps hl h hw) h hw
set_option maxRecDepth 100000 in
set_option maxHeartbeats 1000000 in
/-- A review that came in. -/
theorem open_review (fuel : Nat) (vs : List Value) (d : DataW H) (ps : List MemPlace) (hl : vs.length = 6) (h : DataW.trod enc Tryz.prog W 0 (fun _ => true) held fuel 28 vs = some (d, ps)) (hw : ∀ n ∈ d.weights Tryz.prog 28, n ≤ reachBytes) : ∃ x : Rv, Rev W All vs x ∧ x.Wide := by
  match vs, hl with
  | [v0, v1, v2, v3, v4, v5], _ =>
  obtain ⟨xs, n, _, hx, _, hxl, hf⟩ := DataW.trod_struct Tryz.underlying28 h
  have hxl3 : xs.length = 6 := hxl
  match xs, hxl3 with
  | [y0, y1, y2, y3, y4, y5], _ =>
    have e0 : DataW.trod enc Tryz.prog W 0 (fun _ => true) held n 3 (([v0, v1, v2, v3, v4, v5].drop 0).take (Tryz.prog.cellsOf 3)) = some y0 := hf 0 _ rfl
    rw [cInt] at e0
    have e0 : DataW.trod enc Tryz.prog W 0 (fun _ => true) held n 3 [v0] = some y0 := e0
    have e1 : DataW.trod enc Tryz.prog W 0 (fun _ => true) held n 9 (([v0, v1, v2, v3, v4, v5].drop 1).take (Tryz.prog.cellsOf 9)) = some y1 := hf 1 _ rfl
    rw [cString] at e1
    have e1 : DataW.trod enc Tryz.prog W 0 (fun _ => true) held n 9 [v1] = some y1 := e1
    have e2 : DataW.trod enc Tryz.prog W 0 (fun _ => true) held n 9 (([v0, v1, v2, v3, v4, v5].drop 2).take (Tryz.prog.cellsOf 9)) = some y2 := hf 2 _ rfl
    rw [cString] at e2
    have e2 : DataW.trod enc Tryz.prog W 0 (fun _ => true) held n 9 [v2] = some y2 := e2
    have e3 : DataW.trod enc Tryz.prog W 0 (fun _ => true) held n 25 (([v0, v1, v2, v3, v4, v5].drop 3).take (Tryz.prog.cellsOf 25)) = some y3 := hf 3 _ rfl
    rw [cDigests] at e3
    have e3 : DataW.trod enc Tryz.prog W 0 (fun _ => true) held n 25 [v3] = some y3 := e3
    have e4 : DataW.trod enc Tryz.prog W 0 (fun _ => true) held n 3 (([v0, v1, v2, v3, v4, v5].drop 4).take (Tryz.prog.cellsOf 3)) = some y4 := hf 4 _ rfl
    rw [cInt] at e4
    have e4 : DataW.trod enc Tryz.prog W 0 (fun _ => true) held n 3 [v4] = some y4 := e4
    have e5 : DataW.trod enc Tryz.prog W 0 (fun _ => true) held n 26 (([v0, v1, v2, v3, v4, v5].drop 5).take (Tryz.prog.cellsOf 26)) = some y5 := hf 5 _ rfl
    rw [cVotes] at e5
    have e5 : DataW.trod enc Tryz.prog W 0 (fun _ => true) held n 26 [v5] = some y5 := e5
    have ed : d = .agg ([y0, y1, y2, y3, y4, y5].map (·.1)) := congrArg Prod.fst hx
    subst ed
    have hu : Tryz.prog.underlying 28 = some (.struct _) := Tryz.underlying28
    simp only [DataW.weights, hu] at hw
    obtain ⟨z0, g0, _⟩ := DataW.trod_int Tryz.underlying3 e0
    obtain rfl : v0 = .int .i64 z0 := by simpa using g0
    obtain ⟨z1, g1, _⟩ := DataW.trod_string Tryz.underlying9 e1
    have t1 := str_size e1 (weights_mem (j := 1) hw rfl rfl) (by simpa using g1)
    obtain rfl : v1 = .string z1 := by simpa using g1
    obtain ⟨z2, g2, _⟩ := DataW.trod_string Tryz.underlying9 e2
    have t2 := str_size e2 (weights_mem (j := 2) hw rfl rfl) (by simpa using g2)
    obtain rfl : v2 = .string z2 := by simpa using g2
    obtain ⟨A3, z3, c3, rfl, s3, k3, b3⟩ := open_ds e3 (weights_mem (j := 3) hw rfl rfl)
    unfold reachBytes at b3
    obtain ⟨z4, g4, _⟩ := DataW.trod_int Tryz.underlying3 e4
    obtain rfl : v4 = .int .i64 z4 := by simpa using g4
    obtain ⟨A5, z5, c5, rfl, s5, k5, b5, m5⟩ := open_vs e5 (weights_mem (j := 5) hw rfl rfl)
    unfold reachBytes at b5
    exact ⟨⟨z0, z1, z2, z3, z4, z5⟩, ⟨A3, z3.length, c3, A5, z5.length, c5, rfl, ⟨rfl, k3, s3⟩, rfl, k5, s5⟩, ⟨by show z1.size ≤ _; omega, by show z2.size ≤ _; omega, by show z3.length ≤ _; omega, by show z5.length ≤ _; omega, m5⟩⟩
/-- Reviews that came in. -/
theorem open_rs {fuel : Nat} {v : Value} {x : DataW H × List MemPlace} (h : DataW.trod enc Tryz.prog W 0 (fun _ => true) held fuel 22 [v] = some x) (hw : ∀ n ∈ x.1.weights Tryz.prog 22, n ≤ reachBytes) :
    ∃ A l c, v = .slice A l.length c ∧ Rs W All A l ∧ l.length ≤ c ∧ l.length * 96 ≤ reachBytes ∧ ∀ x ∈ l, x.Wide :=
  open_sls Rev Rv.Wide Tryz.underlying22 cReview (by decide) (by kernel_rfl) (fun fuel vs d ps hl h hw => open_review fuel vs d ps hl h hw) h hw
set_option maxRecDepth 100000 in
/-- A string that came in. -/
theorem open_str {b0 : Nat} {v : Value} {d : DataW H} {ps : List MemPlace} (hd : DataW.Trod enc Tryz.prog W 0 (fun _ => true) held 9 v d ps) (hw : ∀ n ∈ d.weights Tryz.prog 9, n ≤ reachBytes) (hval : Value.okWide Tryz.prog W .any b0 9 v) :
    ∃ s : ByteArray, v = .string s ∧ s.size ≤ 140737488351232 := by
  obtain ⟨s, rfl⟩ := okWide_string Tryz.underlying9 hval
  obtain ⟨n, h⟩ := hd
  exact ⟨s, rfl, str_size h hw rfl⟩

/-! ### Read again -/
theorem kids : Kids Tryz.prog (· < Tryz.prog.types.size) := kids_rows (by kernel_rfl) (by kernel_rfl)
theorem slices_full : ∀ t e, t < Tryz.prog.types.size → Tryz.prog.underlying t = some (.slice e) → 0 < Tryz.prog.cellsOf e := slices_full_of Tryz.prog (by kernel_rfl)
theorem carryAll {w' : World} {sp : Nat → Bool} : ∀ {ts : List TypeId} {vs : List Value} {ds : List (DataW H)} {ps : List MemPlace}, DataW.TrodAll enc Tryz.prog W 0 sp held ts vs ds ps → (∀ p ∈ ps, W.sameAt w' p) → DataW.TrodAll enc Tryz.prog w' 0 sp held ts vs ds ps
  | [], [], [], _, h, _ => h
  | _ :: _, _ :: _, _ :: _, _, ⟨p, q, ⟨n, h1⟩, h2, e⟩, hs => ⟨p, q, ⟨n, DataW.trod_carry n _ _ _ h1 (fun x hx => hs x (by rw [e]; exact List.mem_append_left _ hx))⟩, carryAll h2 (fun x hx => hs x (by rw [e]; exact List.mem_append_right _ hx)), e⟩
set_option maxRecDepth 100000 in
/-- What a call owes that reads its arguments and makes new memory alone. -/
theorem post_of_ext {f : Func} {s : ChangeSpec} {apart fresh handsOn again : Bool} {W' : World} {args : Array Value} {v : Value} {ds : List (DataW H)} {before : List MemPlace} (hvars : s.vars = [])
    (hW : DataW.Whole enc Tryz.prog f.params.toList s.vars apart W args.toList ds [] before) (hx : Ext W W') (hT : ∀ t ∈ f.params.toList, t < Tryz.prog.types.size)
    (hres : ∀ (b : Nat) (sp : Nat → Bool) (hd : Bool), DataW.TrodAll enc Tryz.prog W' b sp hd f.resultTypes.toList (v.resultList f.resultTypes.size) (s.fn H ds).results [])
    (hargs : (s.fn H ds).args = ds) (hgs : (s.fn H ds).vars = [])
    (hok : ∀ (j : Nat) (t : TypeId) (r : Value), f.resultTypes[j]? = some t → (v.resultList f.resultTypes.size)[j]? = some r → Value.okWide Tryz.prog W' .any 0 t r) :
    s.post enc Tryz.prog f apart fresh handsOn again W args v W' := by
  have hlt := hW.lt
  have hW0 := hW
  obtain ⟨p, q, hA, hV, rfl, hfz, hnd⟩ := hW
  rw [hvars] at hV
  have hq : q = [] := hV
  subst hq
  rw [List.append_nil] at *
  have again' : ∀ sp : Nat → Bool, (∀ x ∈ p, sp x.block = true) → DataW.TrodAll enc Tryz.prog W' 0 sp true f.params.toList args.toList ds p := fun sp hsp =>
    carryAll (DataW.TrodAll.respare kids (fun t e ht hu => slices_full t e ht hu) hT hA hsp) (fun x hx' => hx.same (hlt x hx'))
  have hv' : ∀ sp : Nat → Bool, DataW.TrodVars enc Tryz.prog W' sp s.vars (s.fn H ds).vars [] := fun sp => by rw [hvars, hgs]; exact rfl
  refine ⟨ds, [], p, [], p, [], hW0, ?_, ?_, ?_, World.keptBut_mono (fun x hx' => ⟨hx', Or.inr (Or.inl hx')⟩) (hx.frame (· ∈ p)), fun _ => ?_⟩
  · rw [List.append_nil]; exact hres _ _ _
  · rw [List.append_nil, hargs]; exact again' _ (fun x hx' => by simpa using hlt x hx')
  · rw [List.append_nil]; exact hv' _
  · have hall := trodAll_append (again' (fun _ => true) (fun _ _ => rfl)) (hres 0 (fun _ => true) true)
    have hvv : DataW.TrodVars (H := H) enc Tryz.prog W' (fun _ => true) s.vars [] [] := by rw [hvars]; exact rfl
    have hz : W'.noneFrozen (([] ++ p) ++ []) := fun b off hp => by
      have hp' : MemPlace.cell b off ∈ p := by simpa using hp
      rw [hx.frozen (p := ⟨b, off, none⟩) (hlt _ hp')]
      exact hfz b off hp'
    have hn : apart = true → (([] ++ p) ++ []).Nodup := fun ha => by simpa using hnd ha
    exact ⟨hok, _, [], ([] ++ p) ++ [], ⟨[] ++ p, [], hall, hvv, rfl, hz, hn⟩, fun x hx' _ => by simpa using hx'⟩
end
end Go.Proofs.YtojfgidoobgcaaaGreatDoor
namespace Go.Proofs.YtojfgidoobgcaaaGreatDoor
open Go Go.ChangeShapes Go.WideShapes Go.RowKit Go.Deep

theorem cAct : Tryz.prog.cellsOf 49 = 11 := by kernel_rfl
instance : Inhabited Vw.Ac := ⟨⟨0, 0, ⟨#[]⟩, ⟨#[]⟩, [], default, 0, 0⟩⟩
section
variable {H : Type} {enc : TypeId × Value → H} {W : World} {held : Bool}
set_option maxRecDepth 100000 in
set_option maxHeartbeats 1000000 in
/-- An act that came in. -/
theorem open_act (fuel : Nat) (vs : List Value) (d : DataW H) (ps : List MemPlace) (hl : vs.length = 11) (h : DataW.trod enc Tryz.prog W 0 (fun _ => true) held fuel 49 vs = some (d, ps)) (hw : ∀ n ∈ d.weights Tryz.prog 49, n ≤ reachBytes) : ∃ x : Vw.Ac, ActR W All vs x ∧ x.Wide := by
  match vs, hl with
  | [v0, v1, v2, v3, v4, v5, v6, v7, v8, v9, v10], _ =>
  obtain ⟨xs, n, _, hx, _, hxl, hf⟩ := DataW.trod_struct Tryz.underlying49 h
  have hxl3 : xs.length = 8 := hxl
  match xs, hxl3 with
  | [y0, y1, y2, y3, y4, y5, y6, y7], _ =>
    have e0 : DataW.trod enc Tryz.prog W 0 (fun _ => true) held n 3 (([v0, v1, v2, v3, v4, v5, v6, v7, v8, v9, v10].drop 0).take (Tryz.prog.cellsOf 3)) = some y0 := hf 0 _ rfl
    rw [cInt] at e0
    have e0 : DataW.trod enc Tryz.prog W 0 (fun _ => true) held n 3 [v0] = some y0 := e0
    have e1 : DataW.trod enc Tryz.prog W 0 (fun _ => true) held n 3 (([v0, v1, v2, v3, v4, v5, v6, v7, v8, v9, v10].drop 1).take (Tryz.prog.cellsOf 3)) = some y1 := hf 1 _ rfl
    rw [cInt] at e1
    have e1 : DataW.trod enc Tryz.prog W 0 (fun _ => true) held n 3 [v1] = some y1 := e1
    have e2 : DataW.trod enc Tryz.prog W 0 (fun _ => true) held n 9 (([v0, v1, v2, v3, v4, v5, v6, v7, v8, v9, v10].drop 2).take (Tryz.prog.cellsOf 9)) = some y2 := hf 2 _ rfl
    rw [cString] at e2
    have e2 : DataW.trod enc Tryz.prog W 0 (fun _ => true) held n 9 [v2] = some y2 := e2
    have e3 : DataW.trod enc Tryz.prog W 0 (fun _ => true) held n 9 (([v0, v1, v2, v3, v4, v5, v6, v7, v8, v9, v10].drop 3).take (Tryz.prog.cellsOf 9)) = some y3 := hf 3 _ rfl
    rw [cString] at e3
    have e3 : DataW.trod enc Tryz.prog W 0 (fun _ => true) held n 9 [v3] = some y3 := e3
    have e4 : DataW.trod enc Tryz.prog W 0 (fun _ => true) held n 25 (([v0, v1, v2, v3, v4, v5, v6, v7, v8, v9, v10].drop 4).take (Tryz.prog.cellsOf 25)) = some y4 := hf 4 _ rfl
    rw [cDigests] at e4
    have e4 : DataW.trod enc Tryz.prog W 0 (fun _ => true) held n 25 [v4] = some y4 := e4
    have e5 : DataW.trod enc Tryz.prog W 0 (fun _ => true) held n 39 (([v0, v1, v2, v3, v4, v5, v6, v7, v8, v9, v10].drop 5).take (Tryz.prog.cellsOf 39)) = some y5 := hf 5 _ rfl
    rw [cVote] at e5
    have e5 : DataW.trod enc Tryz.prog W 0 (fun _ => true) held n 39 [v5, v6, v7, v8] = some y5 := e5
    have e6 : DataW.trod enc Tryz.prog W 0 (fun _ => true) held n 3 (([v0, v1, v2, v3, v4, v5, v6, v7, v8, v9, v10].drop 9).take (Tryz.prog.cellsOf 3)) = some y6 := hf 6 _ rfl
    rw [cInt] at e6
    have e6 : DataW.trod enc Tryz.prog W 0 (fun _ => true) held n 3 [v9] = some y6 := e6
    have e7 : DataW.trod enc Tryz.prog W 0 (fun _ => true) held n 3 (([v0, v1, v2, v3, v4, v5, v6, v7, v8, v9, v10].drop 10).take (Tryz.prog.cellsOf 3)) = some y7 := hf 7 _ rfl
    rw [cInt] at e7
    have e7 : DataW.trod enc Tryz.prog W 0 (fun _ => true) held n 3 [v10] = some y7 := e7
    have ed : d = .agg ([y0, y1, y2, y3, y4, y5, y6, y7].map (·.1)) := congrArg Prod.fst hx
    subst ed
    have hu : Tryz.prog.underlying 49 = some (.struct _) := Tryz.underlying49
    simp only [DataW.weights, hu] at hw
    obtain ⟨z0, g0, _⟩ := DataW.trod_int Tryz.underlying3 e0
    obtain rfl : v0 = .int .i64 z0 := by simpa using g0
    obtain ⟨z1, g1, _⟩ := DataW.trod_int Tryz.underlying3 e1
    obtain rfl : v1 = .int .i64 z1 := by simpa using g1
    obtain ⟨z2, g2, _⟩ := DataW.trod_string Tryz.underlying9 e2
    have t2 := str_size e2 (weights_mem (j := 2) hw rfl rfl) (by simpa using g2)
    obtain rfl : v2 = .string z2 := by simpa using g2
    obtain ⟨z3, g3, _⟩ := DataW.trod_string Tryz.underlying9 e3
    have t3 := str_size e3 (weights_mem (j := 3) hw rfl rfl) (by simpa using g3)
    obtain rfl : v3 = .string z3 := by simpa using g3
    obtain ⟨A4, z4, c4, rfl, s4, k4, b4⟩ := open_ds e4 (weights_mem (j := 4) hw rfl rfl)
    unfold reachBytes at b4
    obtain ⟨z5, Q5, mw5⟩ := open_vote n _ _ _ rfl e5 (weights_mem (j := 5) hw rfl rfl)
    obtain ⟨X, p, q, hvs, hp, hpq, hdv⟩ := Q5
    cases hvs
    obtain ⟨z6, g6, _⟩ := DataW.trod_int Tryz.underlying3 e6
    obtain rfl : v9 = .int .i64 z6 := by simpa using g6
    obtain ⟨z7, g7, _⟩ := DataW.trod_int Tryz.underlying3 e7
    obtain rfl : v10 = .int .i64 z7 := by simpa using g7
    exact ⟨⟨z0, z1, z2, z3, z4, z5, z6, z7⟩, ⟨A4, z4.length, c4, X, p, q, rfl, ⟨rfl, k4, s4⟩, hp, hpq, hdv⟩, ⟨by show z2.size ≤ _; omega, by show z3.size ≤ _; omega, by show z4.length ≤ _; omega, by show 1 ≤ _; omega, fun v hv => by
      obtain rfl : v = z5 := by simpa [Vw.Ac.rv] using hv
      exact mw5⟩⟩
/-- Acts that came in. -/
theorem open_acts {fuel : Nat} {v : Value} {x : DataW H × List MemPlace} (h : DataW.trod enc Tryz.prog W 0 (fun _ => true) held fuel 55 [v] = some x) (hw : ∀ n ∈ x.1.weights Tryz.prog 55, n ≤ reachBytes) :
    ∃ A l c, v = .slice A l.length c ∧ As W All A l ∧ l.length ≤ c ∧ l.length * 152 ≤ reachBytes ∧ ∀ x ∈ l, x.Wide :=
  open_sls ActR Vw.Ac.Wide Tryz.underlying55 cAct (by decide) (by kernel_rfl) (fun fuel vs d ps hl h hw => open_act fuel vs d ps hl h hw) h hw
end
end Go.Proofs.YtojfgidoobgcaaaGreatDoor
