/- Reviews, votes and digests that came in, opened: what their cells hold, and that they read again as they did. Acts that came in, opened: what their cells hold. Walks: ReviewUpdates. -/
import Derived.Test.YtojfgidoobgcaaaGreatDoorOc
import Derived.OpenShut
import Derived.ReadAgain
import Derived.Deep.Strs
import Derived.Deep.Slices
import Derived.Shelf.Vars
import Derived.SizedLaws
import Derived.Test.YtojfgidoobgcaaaGreatDoorOg
import Derived.Test.YtojfgidoobgcaaaGreatDoorOi
import Derived.Test.YtojfgidoobgcaaaGreatDoorNm
import Derived.Test.YtojfgidoobgcaaaGreatDoorNt
import Derived.Test.YtojfgidoobgcaaaGreatDoorHeld
import Derived.Test.YtojfgidoobgcaaaGreatDoorMf
set_option linter.unusedSimpArgs false
set_option linter.unusedVariables false
namespace Go.Proofs.YtojfgidoobgcaaaGreatDoor
open Go Go.ChangeShapes Go.WideShapes Go.RowKit Go.Deep

theorem cInt : Tryz.prog.cellsOf 3 = 1 := by kernel_rfl
theorem cByte : Tryz.prog.cellsOf 5 = 1 := by kernel_rfl
theorem cString : Tryz.prog.cellsOf 9 = 1 := by kernel_rfl
theorem cDigest : Tryz.prog.cellsOf 69 = 32 := by kernel_rfl
theorem cDigests : Tryz.prog.cellsOf 25 = 1 := by kernel_rfl
theorem cVote : Tryz.prog.cellsOf 39 = 4 := by kernel_rfl
theorem cVotes : Tryz.prog.cellsOf 26 = 1 := by kernel_rfl
theorem cReview : Tryz.prog.cellsOf 28 = 6 := by kernel_rfl
instance : Inhabited Vt := ⟨⟨⟨#[]⟩, 0, ⟨#[]⟩, []⟩⟩
instance : Inhabited Rv := ⟨⟨0, ⟨#[]⟩, ⟨#[]⟩, [], 0, []⟩⟩

section
variable {H : Type} {enc : TypeId × Value → H} {W : World} {held : Bool}

theorem add_none (b o i : Nat) : (⟨b, o, none⟩ : Addr).add i = ⟨b, o + i, none⟩ := by unfold Addr.add; split <;> simp_all
theorem weightsAll_mem {e : TypeId} {d : DataW H} : ∀ {ds : List (DataW H)}, d ∈ ds → ∀ n ∈ d.weights Tryz.prog e, n ∈ DataW.weightsAll Tryz.prog e ds
  | d0 :: r, hd, n, hn => by
    unfold DataW.weightsAll
    rcases List.mem_cons.1 hd with rfl | h
    · exact List.mem_append_left _ hn
    · exact List.mem_append_right _ (weightsAll_mem h n hn)
theorem weights_mem {ts : List TypeId} {ds : List (DataW H)} {j : Nat} {t : TypeId} {d : DataW H} (hw : ∀ n ∈ DataW.weightsEach Tryz.prog ts ds, n ≤ reachBytes) (ht : ts[j]? = some t) (hd : ds[j]? = some d) : ∀ n ∈ d.weights Tryz.prog t, n ≤ reachBytes :=
  fun n hn => hw n (DataW.weights_mem_each ht hd n hn)

/-- The string's size. -/
theorem str_size {n : Nat} {v : Value} {z : ByteArray} {y : DataW H × List MemPlace} (h : DataW.trod enc Tryz.prog W 0 (fun _ => true) held n 9 [v] = some y) (hw : ∀ k ∈ y.1.weights Tryz.prog 9, k ≤ reachBytes) (hv : v = .string z) : z.size ≤ 140737488351232 := by
  obtain ⟨s, h1, h2, _⟩ := DataW.trod_string Tryz.underlying9 h
  have : v = .string s := by simpa using h1
  rw [hv] at this
  obtain rfl : z = s := by simpa using this
  rw [h2] at hw
  have h9 := hw z.data.toList.length (by simp [DataW.weights])
  unfold reachBytes at h9
  rw [Array.length_toList] at h9
  have h8 : z.size = z.data.size := rfl
  omega

/-- A list that came in, whatever its elements. -/
theorem open_sls {α : Type} [Inhabited α] {t e : TypeId} {k by_ : Nat} (R : Reads α) (M : α → Prop) (hu : Tryz.prog.underlying t = some (.slice e)) (ck : Tryz.prog.cellsOf e = k) (hk : 0 < k) (hby : Tryz.prog.bytesOf e = by_)
    (hel : ∀ (fuel : Nat) (vs : List Value) (d : DataW H) (ps : List MemPlace), vs.length = k → DataW.trod enc Tryz.prog W 0 (fun _ => true) held fuel e vs = some (d, ps) → (∀ n ∈ d.weights Tryz.prog e, n ≤ reachBytes) → ∃ x, R W All vs x ∧ M x)
    {fuel : Nat} {v : Value} {x : DataW H × List MemPlace} (h : DataW.trod enc Tryz.prog W 0 (fun _ => true) held fuel t [v] = some x) (hw : ∀ n ∈ x.1.weights Tryz.prog t, n ≤ reachBytes) :
    ∃ A l c, v = .slice A l.length c ∧ Sls k R W All A l ∧ l.length ≤ c ∧ l.length * by_ ≤ reachBytes ∧ ∀ x ∈ l, M x := by
  rcases open_slice hu h with ⟨e, _⟩ | ⟨a, len, cap, m, n, D, Pl, e, _, hlc, _, hm, hx, hc⟩
  · obtain rfl : v = .slice none 0 0 := by simpa using e
    exact ⟨none, [], 0, rfl, Sls.nil _ _ _ _, Nat.zero_le _, by simp, fun q hq => by cases hq⟩
  · obtain rfl : v = .slice (some a) len cap := by simpa using e
    have hm' : m = cap := by simpa using hm
    subst hm'
    rw [hx] at hw
    simp only [DataW.weights, hu] at hw
    have hcap : len * by_ ≤ reachBytes := by
      have := hw _ (List.mem_cons_self ..)
      rw [hby] at this
      simp only [List.length_map, List.length_range] at this
      refine Nat.le_trans (Nat.mul_le_mul_right by_ ?_) this
      omega
    obtain ⟨pq, hpq⟩ := choose_lt (α := List Value × α) (n := len) (p := fun i f => f.1.length = k ∧ (∀ j v, f.1[j]? = some v → W.cell? ((a.add (i * k)).add j) = some v) ∧ R W All f.1 f.2 ∧ M f.2) (fun i hi => by
      obtain ⟨cs', h1, h2⟩ := hc i (by omega)
      rw [ck] at h1
      obtain ⟨_, hl, hcell⟩ := World.cells?_some h1
      obtain ⟨y, hy, hM⟩ := hel n cs' (D i) (Pl i) hl h2 (fun k hk => hw k (List.mem_cons_of_mem _ (List.mem_append_left _ (weightsAll_mem (d := D i) (List.mem_map.2 ⟨i, List.mem_range.2 hi, rfl⟩) _ hk))))
      refine ⟨(cs', y), hl, fun j v hv => ?_, hy, hM⟩
      have hj : j < k := by rw [← hl]; exact (List.getElem?_eq_some_iff.1 hv).1
      rw [hcell j hj, hv])
    have hget : ∀ {β : Type} (f : Nat → β) (i : Nat) (c : β), ((List.range len).map f)[i]? = some c → i < len ∧ c = f i := by
      intro β f i c hc
      rw [List.getElem?_map] at hc
      have hi : i < len := by
        rcases Nat.lt_or_ge i len with h | h
        · exact h
        · rw [List.getElem?_eq_none (by simpa using h)] at hc
          cases hc
      rw [List.getElem?_range hi] at hc
      exact ⟨hi, (Option.some.inj hc).symm⟩
    have hlen : ((List.range len).map fun i => (pq i).2).length = len := by simp
    refine ⟨some a, (List.range len).map fun i => (pq i).2, m, by rw [hlen], ⟨(List.range len).map fun i => (pq i).1, by simp, fun c hc => ?_, fun h0 => ?_, fun i c x hc hx => ?_⟩, by rw [hlen]; exact hlc, by rw [hlen]; exact hcap, fun q hq => ?_⟩
    · obtain ⟨i, hi, rfl⟩ := List.mem_map.1 hc
      exact (hpq i (List.mem_range.1 hi)).1
    · rw [hlen] at h0
      obtain ⟨b, o, spot⟩ := a
      have hk0 := (hpq 0 h0).1
      have h1 := (hpq 0 h0).2.1 0 _ (List.getElem?_eq_getElem (by omega))
      have hs : spot = none := by simpa [Addr.add] using World.cell?_spot h1
      subst hs
      refine ⟨b, o, rfl, ?_, trivial, fun j v hv => ?_⟩
      · have := lt_of_cell h1
        simpa [add_none] using this
      · have hall : ∀ c ∈ (List.range len).map fun i => (pq i).1, c.length = k := fun c hc => by
          obtain ⟨i, hi, rfl⟩ := List.mem_map.1 hc
          exact (hpq i (List.mem_range.1 hi)).1
        have hj := (List.getElem?_eq_some_iff.1 hv).1
        rw [flatten_len hall, List.length_map, List.length_range] at hj
        have h2 : j / k < len := by rw [Nat.div_lt_iff_lt_mul hk]; exact hj
        have h3 : ((List.range len).map fun i => (pq i).1)[j / k]? = some (pq (j / k)).1 := by
          rw [List.getElem?_map, List.getElem?_range h2]
          rfl
        have h4 := flatten_at hall h3 (Nat.mod_lt j hk)
        rw [Nat.mul_comm (j / k) k, Nat.div_add_mod, hv] at h4
        have := (hpq (j / k) h2).2.1 (j % k) v h4.symm
        rw [add_none, add_none, Nat.add_assoc, Nat.mul_comm (j / k) k, Nat.div_add_mod] at this
        exact this
    · obtain ⟨hi, rfl⟩ := hget _ _ _ hc
      obtain ⟨_, rfl⟩ := hget _ _ _ hx
      exact (hpq i hi).2.2.1
    · obtain ⟨i, hi, rfl⟩ := List.mem_map.1 hq
      exact (hpq i (List.mem_range.1 hi)).2.2.2
/-- A digest that came in. -/
theorem open_dg (fuel : Nat) (vs : List Value) (d : DataW H) (ps : List MemPlace) (hl : vs.length = 32) (h : DataW.trod enc Tryz.prog W 0 (fun _ => true) held fuel 69 vs = some (d, ps)) : ∃ x : Dg, Dig W All vs x := by
  obtain ⟨xs, m, _, _, _, hxl, hf⟩ := DataW.trod_array Tryz.underlying69 h
  have key : ∀ i, i < 32 → ∃ b : UInt8, vs[i]? = some (.int .u8 b.toNat) := fun i hi => by
    have h1 := hf i hi
    rw [cByte, Nat.mul_one] at h1
    have h2 : xs[i]? = some xs[i] := List.getElem?_eq_getElem (by omega)
    rw [h2] at h1
    obtain ⟨z, hz, _, hwf⟩ := DataW.trod_int Tryz.underlying5 h1
    have h3 : vs[i]? = some (.int .u8 z) := by
      have : ((vs.drop i).take 1)[0]? = some (.int .u8 z) := by rw [hz]; rfl
      simpa using this
    have hr : 0 ≤ z ∧ z ≤ 255 := by simpa [Lit.wf, IntKind.has, IntKind.min, IntKind.max, IntKind.signed, IntKind.bits] using hwf
    refine ⟨UInt8.ofNat z.toNat, ?_⟩
    rw [h3]
    congr 2
    rw [UInt8.toNat_ofNat_of_lt' (by show z.toNat < 256; omega)]
    omega
  obtain ⟨f, hf2⟩ := choose_lt (α := UInt8) (n := 32) (p := fun i b => vs[i]? = some (.int .u8 b.toNat)) key
  refine ⟨⟨(List.range 32).map f, by simp⟩, ?_⟩
  refine List.ext_getElem? fun i => ?_
  show vs[i]? = ((((List.range 32).map f)).map fun x : UInt8 => Value.int .u8 x.toNat)[i]?
  rcases Nat.lt_or_ge i 32 with hi | hi
  · rw [hf2 i hi, List.getElem?_map, List.getElem?_map, List.getElem?_range hi]
    rfl
  · rw [List.getElem?_eq_none (by omega), List.getElem?_eq_none (by simp; omega)]
/-- Digests that came in. -/
theorem open_ds {fuel : Nat} {v : Value} {x : DataW H × List MemPlace} (h : DataW.trod enc Tryz.prog W 0 (fun _ => true) held fuel 25 [v] = some x) (hw : ∀ n ∈ x.1.weights Tryz.prog 25, n ≤ reachBytes) :
    ∃ A l c, v = .slice A l.length c ∧ Ds W All A l ∧ l.length ≤ c ∧ l.length * 32 ≤ reachBytes := by
  obtain ⟨A, l, c, h1, h2, h3, h4, _⟩ := open_sls Dig (fun _ => True) Tryz.underlying25 cDigest (by decide) (by kernel_rfl) (fun fuel vs d ps hl h _ => (open_dg fuel vs d ps hl h).imp fun x hx => ⟨hx, trivial⟩) h hw
  exact ⟨A, l, c, h1, h2, h3, h4⟩
set_option maxRecDepth 100000 in
set_option maxHeartbeats 1000000 in
/-- A vote that came in. -/
theorem open_vote (fuel : Nat) (vs : List Value) (d : DataW H) (ps : List MemPlace) (hl : vs.length = 4) (h : DataW.trod enc Tryz.prog W 0 (fun _ => true) held fuel 39 vs = some (d, ps)) (hw : ∀ n ∈ d.weights Tryz.prog 39, n ≤ reachBytes) : ∃ x : Vt, Vot W All vs x ∧ x.Wide := by
  match vs, hl with
  | [v0, v1, v2, v3], _ =>
  obtain ⟨xs, n, _, hx, _, hxl, hf⟩ := DataW.trod_struct Tryz.underlying39 h
  have hxl3 : xs.length = 4 := hxl
  match xs, hxl3 with
  | [y0, y1, y2, y3], _ =>
    have e0 : DataW.trod enc Tryz.prog W 0 (fun _ => true) held n 9 (([v0, v1, v2, v3].drop 0).take (Tryz.prog.cellsOf 9)) = some y0 := hf 0 _ rfl
    rw [cString] at e0
    have e0 : DataW.trod enc Tryz.prog W 0 (fun _ => true) held n 9 [v0] = some y0 := e0
    have e1 : DataW.trod enc Tryz.prog W 0 (fun _ => true) held n 3 (([v0, v1, v2, v3].drop 1).take (Tryz.prog.cellsOf 3)) = some y1 := hf 1 _ rfl
    rw [cInt] at e1
    have e1 : DataW.trod enc Tryz.prog W 0 (fun _ => true) held n 3 [v1] = some y1 := e1
    have e2 : DataW.trod enc Tryz.prog W 0 (fun _ => true) held n 9 (([v0, v1, v2, v3].drop 2).take (Tryz.prog.cellsOf 9)) = some y2 := hf 2 _ rfl
    rw [cString] at e2
    have e2 : DataW.trod enc Tryz.prog W 0 (fun _ => true) held n 9 [v2] = some y2 := e2
    have e3 : DataW.trod enc Tryz.prog W 0 (fun _ => true) held n 25 (([v0, v1, v2, v3].drop 3).take (Tryz.prog.cellsOf 25)) = some y3 := hf 3 _ rfl
    rw [cDigests] at e3
    have e3 : DataW.trod enc Tryz.prog W 0 (fun _ => true) held n 25 [v3] = some y3 := e3
    have ed : d = .agg ([y0, y1, y2, y3].map (·.1)) := congrArg Prod.fst hx
    subst ed
    have hu : Tryz.prog.underlying 39 = some (.struct _) := Tryz.underlying39
    simp only [DataW.weights, hu] at hw
    obtain ⟨z0, g0, _⟩ := DataW.trod_string Tryz.underlying9 e0
    have t0 := str_size e0 (weights_mem (j := 0) hw rfl rfl) (by simpa using g0)
    obtain rfl : v0 = .string z0 := by simpa using g0
    obtain ⟨z1, g1, _⟩ := DataW.trod_int Tryz.underlying3 e1
    obtain rfl : v1 = .int .i64 z1 := by simpa using g1
    obtain ⟨z2, g2, _⟩ := DataW.trod_string Tryz.underlying9 e2
    have t2 := str_size e2 (weights_mem (j := 2) hw rfl rfl) (by simpa using g2)
    obtain rfl : v2 = .string z2 := by simpa using g2
    obtain ⟨A3, z3, c3, rfl, s3, k3, b3⟩ := open_ds e3 (weights_mem (j := 3) hw rfl rfl)
    unfold reachBytes at b3
    exact ⟨⟨z0, z1, z2, z3⟩, ⟨A3, z3.length, c3, rfl, rfl, k3, s3⟩, ⟨by show z0.size ≤ _; omega, by show z2.size ≤ _; omega, by show z3.length ≤ _; omega⟩⟩
/-- Votes that came in. -/
theorem open_vs {fuel : Nat} {v : Value} {x : DataW H × List MemPlace} (h : DataW.trod enc Tryz.prog W 0 (fun _ => true) held fuel 26 [v] = some x) (hw : ∀ n ∈ x.1.weights Tryz.prog 26, n ≤ reachBytes) :
    ∃ A l c, v = .slice A l.length c ∧ Vs W All A l ∧ l.length ≤ c ∧ l.length * 64 ≤ reachBytes ∧ ∀ x ∈ l, x.Wide :=
  open_sls Vot Vt.Wide Tryz.underlying26 cVote (by decide) (by kernel_rfl) (fun fuel vs d ps hl h hw => open_vote fuel vs d ps hl h hw) h hw
set_option maxRecDepth 100000 in
set_option maxHeartbeats 1000000 in
/-- A review that came in. -/
theorem open_review (fuel : Nat) (vs : List Value) (d : DataW H) (ps : List MemPlace) (hl : vs.length = 6) (h : DataW.trod enc Tryz.prog W 0 (fun _ => true) held fuel 28 vs = some (d, ps)) (hw : ∀ n ∈ d.weights Tryz.prog 28, n ≤ reachBytes) : ∃ x : Rv, Rev W All vs x ∧ x.Wide := by
  match vs, hl with
  | [v0, v1, v2, v3, v4, v5], _ =>
  obtain ⟨xs, n, _, hx, _, hxl, hf⟩ := DataW.trod_struct Tryz.underlying28 h
  have hxl3 : xs.length = 6 := hxl
  match xs, hxl3 with
  | [y0, y1, y2, y3, y4, y5], _ =>
    have e0 : DataW.trod enc Tryz.prog W 0 (fun _ => true) held n 3 (([v0, v1, v2, v3, v4, v5].drop 0).take (Tryz.prog.cellsOf 3)) = some y0 := hf 0 _ rfl
    rw [cInt] at e0
    have e0 : DataW.trod enc Tryz.prog W 0 (fun _ => true) held n 3 [v0] = some y0 := e0
    have e1 : DataW.trod enc Tryz.prog W 0 (fun _ => true) held n 9 (([v0, v1, v2, v3, v4, v5].drop 1).take (Tryz.prog.cellsOf 9)) = some y1 := hf 1 _ rfl
    rw [cString] at e1
    have e1 : DataW.trod enc Tryz.prog W 0 (fun _ => true) held n 9 [v1] = some y1 := e1
    have e2 : DataW.trod enc Tryz.prog W 0 (fun _ => true) held n 9 (([v0, v1, v2, v3, v4, v5].drop 2).take (Tryz.prog.cellsOf 9)) = some y2 := hf 2 _ rfl
    rw [cString] at e2
    have e2 : DataW.trod enc Tryz.prog W 0 (fun _ => true) held n 9 [v2] = some y2 := e2
    have e3 : DataW.trod enc Tryz.prog W 0 (fun _ => true) held n 25 (([v0, v1, v2, v3, v4, v5].drop 3).take (Tryz.prog.cellsOf 25)) = some y3 := hf 3 _ rfl
    rw [cDigests] at e3
    have e3 : DataW.trod enc Tryz.prog W 0 (fun _ => true) held n 25 [v3] = some y3 := e3
    have e4 : DataW.trod enc Tryz.prog W 0 (fun _ => true) held n 3 (([v0, v1, v2, v3, v4, v5].drop 4).take (Tryz.prog.cellsOf 3)) = some y4 := hf 4 _ rfl
    rw [cInt] at e4
    have e4 : DataW.trod enc Tryz.prog W 0 (fun _ => true) held n 3 [v4] = some y4 := e4
    have e5 : DataW.trod enc Tryz.prog W 0 (fun _ => true) held n 26 (([v0, v1, v2, v3, v4, v5].drop 5).take (Tryz.prog.cellsOf 26)) = some y5 := hf 5 _ rfl
    rw [cVotes] at e5
    have e5 : DataW.trod enc Tryz.prog W 0 (fun _ => true) held n 26 [v5] = some y5 := e5
    have ed : d = .agg ([y0, y1, y2, y3, y4, y5].map (·.1)) := congrArg Prod.fst hx
    subst ed
    have hu : Tryz.prog.underlying 28 = some (.struct _) := Tryz.underlying28
    simp only [DataW.weights, hu] at hw
    obtain ⟨z0, g0, _⟩ := DataW.trod_int Tryz.underlying3 e0
    obtain rfl : v0 = .int .i64 z0 := by simpa using g0
    obtain ⟨z1, g1, _⟩ := DataW.trod_string Tryz.underlying9 e1
    have t1 := str_size e1 (weights_mem (j := 1) hw rfl rfl) (by simpa using g1)
    obtain rfl : v1 = .string z1 := by simpa using g1
    obtain ⟨z2, g2, _⟩ := DataW.trod_string Tryz.underlying9 e2
    have t2 := str_size e2 (weights_mem (j := 2) hw rfl rfl) (by simpa using g2)
    obtain rfl : v2 = .string z2 := by simpa using g2
    obtain ⟨A3, z3, c3, rfl, s3, k3, b3⟩ := open_ds e3 (weights_mem (j := 3) hw rfl rfl)
    unfold reachBytes at b3
    obtain ⟨z4, g4, _⟩ := DataW.trod_int Tryz.underlying3 e4
    obtain rfl : v4 = .int .i64 z4 := by simpa using g4
    obtain ⟨A5, z5, c5, rfl, s5, k5, b5, m5⟩ := open_vs e5 (weights_mem (j := 5) hw rfl rfl)
    unfold reachBytes at b5
    exact ⟨⟨z0, z1, z2, z3, z4, z5⟩, ⟨A3, z3.length, c3, A5, z5.length, c5, rfl, ⟨rfl, k3, s3⟩, rfl, k5, s5⟩, ⟨by show z1.size ≤ _; omega, by show z2.size ≤ _; omega, by show z3.length ≤ _; omega, by show z5.length ≤ _; omega, m5⟩⟩
/-- Reviews that came in. -/
theorem open_rs {fuel : Nat} {v : Value} {x : DataW H × List MemPlace} (h : DataW.trod enc Tryz.prog W 0 (fun _ => true) held fuel 22 [v] = some x) (hw : ∀ n ∈ x.1.weights Tryz.prog 22, n ≤ reachBytes) :
    ∃ A l c, v = .slice A l.length c ∧ Rs W All A l ∧ l.length ≤ c ∧ l.length * 96 ≤ reachBytes ∧ ∀ x ∈ l, x.Wide :=
  open_sls Rev Rv.Wide Tryz.underlying22 cReview (by decide) (by kernel_rfl) (fun fuel vs d ps hl h hw => open_review fuel vs d ps hl h hw) h hw
set_option maxRecDepth 100000 in
/-- A string that came in. -/
theorem open_str {b0 : Nat} {v : Value} {d : DataW H} {ps : List MemPlace} (hd : DataW.Trod enc Tryz.prog W 0 (fun _ => true) held 9 v d ps) (hw : ∀ n ∈ d.weights Tryz.prog 9, n ≤ reachBytes) (hval : Value.okWide Tryz.prog W .any b0 9 v) :
    ∃ s : ByteArray, v = .string s ∧ s.size ≤ 140737488351232 := by
  obtain ⟨s, rfl⟩ := okWide_string Tryz.underlying9 hval
  obtain ⟨n, h⟩ := hd
  exact ⟨s, rfl, str_size h hw rfl⟩

/-! ### Read again -/
theorem kids : Kids Tryz.prog (· < Tryz.prog.types.size) := kids_rows (by kernel_rfl) (by kernel_rfl)
theorem slices_full : ∀ t e, t < Tryz.prog.types.size → Tryz.prog.underlying t = some (.slice e) → 0 < Tryz.prog.cellsOf e := slices_full_of Tryz.prog (by kernel_rfl)
theorem carryAll {w' : World} {sp : Nat → Bool} : ∀ {ts : List TypeId} {vs : List Value} {ds : List (DataW H)} {ps : List MemPlace}, DataW.TrodAll enc Tryz.prog W 0 sp held ts vs ds ps → (∀ p ∈ ps, W.sameAt w' p) → DataW.TrodAll enc Tryz.prog w' 0 sp held ts vs ds ps
  | [], [], [], _, h, _ => h
  | _ :: _, _ :: _, _ :: _, _, ⟨p, q, ⟨n, h1⟩, h2, e⟩, hs => ⟨p, q, ⟨n, DataW.trod_carry n _ _ _ h1 (fun x hx => hs x (by rw [e]; exact List.mem_append_left _ hx))⟩, carryAll h2 (fun x hx => hs x (by rw [e]; exact List.mem_append_right _ hx)), e⟩
set_option maxRecDepth 100000 in
/-- What a call owes that reads its arguments and makes new memory alone. -/
theorem post_of_ext {f : Func} {s : ChangeSpec} {apart fresh handsOn again : Bool} {W' : World} {args : Array Value} {v : Value} {ds : List (DataW H)} {before : List MemPlace} (hvars : s.vars = [])
    (hW : DataW.Whole enc Tryz.prog f.params.toList s.vars apart W args.toList ds [] before) (hx : Ext W W') (hT : ∀ t ∈ f.params.toList, t < Tryz.prog.types.size)
    (hres : ∀ (b : Nat) (sp : Nat → Bool) (hd : Bool), DataW.TrodAll enc Tryz.prog W' b sp hd f.resultTypes.toList (v.resultList f.resultTypes.size) (s.fn H ds).results [])
    (hargs : (s.fn H ds).args = ds) (hgs : (s.fn H ds).vars = [])
    (hok : ∀ (j : Nat) (t : TypeId) (r : Value), f.resultTypes[j]? = some t → (v.resultList f.resultTypes.size)[j]? = some r → Value.okWide Tryz.prog W' .any 0 t r) :
    s.post enc Tryz.prog f apart fresh handsOn again W args v W' := by
  have hlt := hW.lt
  have hW0 := hW
  obtain ⟨p, q, hA, hV, rfl, hfz, hnd⟩ := hW
  rw [hvars] at hV
  have hq : q = [] := hV
  subst hq
  rw [List.append_nil] at *
  have again' : ∀ sp : Nat → Bool, (∀ x ∈ p, sp x.block = true) → DataW.TrodAll enc Tryz.prog W' 0 sp true f.params.toList args.toList ds p := fun sp hsp =>
    carryAll (DataW.TrodAll.respare kids (fun t e ht hu => slices_full t e ht hu) hT hA hsp) (fun x hx' => hx.same (hlt x hx'))
  have hv' : ∀ sp : Nat → Bool, DataW.TrodVars enc Tryz.prog W' sp s.vars (s.fn H ds).vars [] := fun sp => by rw [hvars, hgs]; exact rfl
  refine ⟨ds, [], p, [], p, [], hW0, ?_, ?_, ?_, World.keptBut_mono (fun x hx' => ⟨hx', Or.inr (Or.inl hx')⟩) (hx.frame (· ∈ p)), fun _ => ?_⟩
  · rw [List.append_nil]; exact hres _ _ _
  · rw [List.append_nil, hargs]; exact again' _ (fun x hx' => by simpa using hlt x hx')
  · rw [List.append_nil]; exact hv' _
  · have hall := trodAll_append (again' (fun _ => true) (fun _ _ => rfl)) (hres 0 (fun _ => true) true)
    have hvv : DataW.TrodVars (H := H) enc Tryz.prog W' (fun _ => true) s.vars [] [] := by rw [hvars]; exact rfl
    have hz : W'.noneFrozen (([] ++ p) ++ []) := fun b off hp => by
      have hp' : MemPlace.cell b off ∈ p := by simpa using hp
      rw [hx.frozen (p := ⟨b, off, none⟩) (hlt _ hp')]
      exact hfz b off hp'
    have hn : apart = true → (([] ++ p) ++ []).Nodup := fun ha => by simpa using hnd ha
    exact ⟨hok, _, [], ([] ++ p) ++ [], ⟨[] ++ p, [], hall, hvv, rfl, hz, hn⟩, fun x hx' _ => by simpa using hx'⟩
end
end Go.Proofs.YtojfgidoobgcaaaGreatDoor
namespace Go.Proofs.YtojfgidoobgcaaaGreatDoor
open Go Go.ChangeShapes Go.WideShapes Go.RowKit Go.Deep

theorem cAct : Tryz.prog.cellsOf 49 = 11 := by kernel_rfl
instance : Inhabited Vw.Ac := ⟨⟨0, 0, ⟨#[]⟩, ⟨#[]⟩, [], default, 0, 0⟩⟩
section
variable {H : Type} {enc : TypeId × Value → H} {W : World} {held : Bool}
set_option maxRecDepth 100000 in
set_option maxHeartbeats 1000000 in
/-- An act that came in. -/
theorem open_act (fuel : Nat) (vs : List Value) (d : DataW H) (ps : List MemPlace) (hl : vs.length = 11) (h : DataW.trod enc Tryz.prog W 0 (fun _ => true) held fuel 49 vs = some (d, ps)) (hw : ∀ n ∈ d.weights Tryz.prog 49, n ≤ reachBytes) : ∃ x : Vw.Ac, ActR W All vs x ∧ x.Wide := by
  match vs, hl with
  | [v0, v1, v2, v3, v4, v5, v6, v7, v8, v9, v10], _ =>
  obtain ⟨xs, n, _, hx, _, hxl, hf⟩ := DataW.trod_struct Tryz.underlying49 h
  have hxl3 : xs.length = 8 := hxl
  match xs, hxl3 with
  | [y0, y1, y2, y3, y4, y5, y6, y7], _ =>
    have e0 : DataW.trod enc Tryz.prog W 0 (fun _ => true) held n 3 (([v0, v1, v2, v3, v4, v5, v6, v7, v8, v9, v10].drop 0).take (Tryz.prog.cellsOf 3)) = some y0 := hf 0 _ rfl
    rw [cInt] at e0
    have e0 : DataW.trod enc Tryz.prog W 0 (fun _ => true) held n 3 [v0] = some y0 := e0
    have e1 : DataW.trod enc Tryz.prog W 0 (fun _ => true) held n 3 (([v0, v1, v2, v3, v4, v5, v6, v7, v8, v9, v10].drop 1).take (Tryz.prog.cellsOf 3)) = some y1 := hf 1 _ rfl
    rw [cInt] at e1
    have e1 : DataW.trod enc Tryz.prog W 0 (fun _ => true) held n 3 [v1] = some y1 := e1
    have e2 : DataW.trod enc Tryz.prog W 0 (fun _ => true) held n 9 (([v0, v1, v2, v3, v4, v5, v6, v7, v8, v9, v10].drop 2).take (Tryz.prog.cellsOf 9)) = some y2 := hf 2 _ rfl
    rw [cString] at e2
    have e2 : DataW.trod enc Tryz.prog W 0 (fun _ => true) held n 9 [v2] = some y2 := e2
    have e3 : DataW.trod enc Tryz.prog W 0 (fun _ => true) held n 9 (([v0, v1, v2, v3, v4, v5, v6, v7, v8, v9, v10].drop 3).take (Tryz.prog.cellsOf 9)) = some y3 := hf 3 _ rfl
    rw [cString] at e3
    have e3 : DataW.trod enc Tryz.prog W 0 (fun _ => true) held n 9 [v3] = some y3 := e3
    have e4 : DataW.trod enc Tryz.prog W 0 (fun _ => true) held n 25 (([v0, v1, v2, v3, v4, v5, v6, v7, v8, v9, v10].drop 4).take (Tryz.prog.cellsOf 25)) = some y4 := hf 4 _ rfl
    rw [cDigests] at e4
    have e4 : DataW.trod enc Tryz.prog W 0 (fun _ => true) held n 25 [v4] = some y4 := e4
    have e5 : DataW.trod enc Tryz.prog W 0 (fun _ => true) held n 39 (([v0, v1, v2, v3, v4, v5, v6, v7, v8, v9, v10].drop 5).take (Tryz.prog.cellsOf 39)) = some y5 := hf 5 _ rfl
    rw [cVote] at e5
    have e5 : DataW.trod enc Tryz.prog W 0 (fun _ => true) held n 39 [v5, v6, v7, v8] = some y5 := e5
    have e6 : DataW.trod enc Tryz.prog W 0 (fun _ => true) held n 3 (([v0, v1, v2, v3, v4, v5, v6, v7, v8, v9, v10].drop 9).take (Tryz.prog.cellsOf 3)) = some y6 := hf 6 _ rfl
    rw [cInt] at e6
    have e6 : DataW.trod enc Tryz.prog W 0 (fun _ => true) held n 3 [v9] = some y6 := e6
    have e7 : DataW.trod enc Tryz.prog W 0 (fun _ => true) held n 3 (([v0, v1, v2, v3, v4, v5, v6, v7, v8, v9, v10].drop 10).take (Tryz.prog.cellsOf 3)) = some y7 := hf 7 _ rfl
    rw [cInt] at e7
    have e7 : DataW.trod enc Tryz.prog W 0 (fun _ => true) held n 3 [v10] = some y7 := e7
    have ed : d = .agg ([y0, y1, y2, y3, y4, y5, y6, y7].map (·.1)) := congrArg Prod.fst hx
    subst ed
    have hu : Tryz.prog.underlying 49 = some (.struct _) := Tryz.underlying49
    simp only [DataW.weights, hu] at hw
    obtain ⟨z0, g0, _⟩ := DataW.trod_int Tryz.underlying3 e0
    obtain rfl : v0 = .int .i64 z0 := by simpa using g0
    obtain ⟨z1, g1, _⟩ := DataW.trod_int Tryz.underlying3 e1
    obtain rfl : v1 = .int .i64 z1 := by simpa using g1
    obtain ⟨z2, g2, _⟩ := DataW.trod_string Tryz.underlying9 e2
    have t2 := str_size e2 (weights_mem (j := 2) hw rfl rfl) (by simpa using g2)
    obtain rfl : v2 = .string z2 := by simpa using g2
    obtain ⟨z3, g3, _⟩ := DataW.trod_string Tryz.underlying9 e3
    have t3 := str_size e3 (weights_mem (j := 3) hw rfl rfl) (by simpa using g3)
    obtain rfl : v3 = .string z3 := by simpa using g3
    obtain ⟨A4, z4, c4, rfl, s4, k4, b4⟩ := open_ds e4 (weights_mem (j := 4) hw rfl rfl)
    unfold reachBytes at b4
    obtain ⟨z5, Q5, mw5⟩ := open_vote n _ _ _ rfl e5 (weights_mem (j := 5) hw rfl rfl)
    obtain ⟨X, p, q, hvs, hp, hpq, hdv⟩ := Q5
    cases hvs
    obtain ⟨z6, g6, _⟩ := DataW.trod_int Tryz.underlying3 e6
    obtain rfl : v9 = .int .i64 z6 := by simpa using g6
    obtain ⟨z7, g7, _⟩ := DataW.trod_int Tryz.underlying3 e7
    obtain rfl : v10 = .int .i64 z7 := by simpa using g7
    exact ⟨⟨z0, z1, z2, z3, z4, z5, z6, z7⟩, ⟨A4, z4.length, c4, X, p, q, rfl, ⟨rfl, k4, s4⟩, hp, hpq, hdv⟩, ⟨by show z2.size ≤ _; omega, by show z3.size ≤ _; omega, by show z4.length ≤ _; omega, by show 1 ≤ _; omega, fun v hv => by
      obtain rfl : v = z5 := by simpa [Vw.Ac.rv] using hv
      exact mw5⟩⟩
/-- Acts that came in. -/
theorem open_acts {fuel : Nat} {v : Value} {x : DataW H × List MemPlace} (h : DataW.trod enc Tryz.prog W 0 (fun _ => true) held fuel 55 [v] = some x) (hw : ∀ n ∈ x.1.weights Tryz.prog 55, n ≤ reachBytes) :
    ∃ A l c, v = .slice A l.length c ∧ As W All A l ∧ l.length ≤ c ∧ l.length * 152 ≤ reachBytes ∧ ∀ x ∈ l, x.Wide :=
  open_sls ActR Vw.Ac.Wide Tryz.underlying55 cAct (by decide) (by kernel_rfl) (fun fuel vs d ps hl h hw => open_act fuel vs d ps hl h hw) h hw
end
end Go.Proofs.YtojfgidoobgcaaaGreatDoor
namespace Go.Proofs.YtojfgidoobgcaaaGreatDoor
open Go Go.RowKit

theorem people_len2 (r : Rv) (k : Int) : (Vw.people r k).length ≤ r.votes.length := by
  rw [people_fold]
  have : ∀ (l : List Vt) (a : List ByteArray), (l.foldl (Vw.pStep r k) a).length ≤ a.length + l.length := by
    intro l
    induction l with
    | nil => intro a; simp
    | cons v l ih =>
      intro a
      rw [List.foldl_cons, List.length_cons]
      have h1 := ih (Vw.pStep r k a v)
      have h2 : (Vw.pStep r k a v).length ≤ a.length + 1 := by
        unfold Vw.pStep
        split
        · exact ins_len _ _
        · omega
      omega
  simpa using this r.votes []
set_option maxHeartbeats 4000000 in
set_option maxRecDepth 100000 in
/-- ReviewUpdates' closure. -/
theorem upd2_any (who : ByteArray) (d : List Dg) (gw gi : Nat) (B : Option Addr) (p q : Nat) (w0 w : World) (hw : Ext w0 w) (hbw : Blk w0 gw 9 #[.string who]) (hbi : Blk w0 gi 25 #[.slice B p q])
    (hd : Ds w0 All B d) (hp : d.length = p) (hpb : p ≤ 1000000000) (c : List Value) (v : Vt) (hv : Vot w All c v) (hf : v.Fits) :
    Calls Tryz.prog 37 #[.agg c.toArray, .pointer (some ⟨gw, 0, none⟩), .pointer (some ⟨gi, 0, none⟩)] w (Ret (.bool (Qm.eqB v.who who && decide (v.ids = d))) w) := by
  obtain ⟨A', n', m', rfl, hn', hm', hids⟩ := hv
  have hnb : n' ≤ 1000000000 := by rw [← hn']; exact hf.ids
  obtain ⟨s, hs⟩ : ∃ s, s = decide (v.ids = d) := ⟨_, rfl⟩
  have HEQ : Hid (∀ W, Ext w W → Calls Tryz.prog 35 #[.slice A' n' m', .slice B p q] W (Ret (.bool s) W)) := Lib.hid fun W hW => by rw [hs]; exact dsame_any A' B n' m' p q v.ids d W (Ds.ext hids hW) (Ds.ext hd (hw.trans hW)) hn' hp hnb hpb
  rw [← hs]
  obtain ⟨hcb, hfb, hlb⟩ := (Blk.ext hw hbw).all
  obtain ⟨hci, hfi, hli⟩ := (Blk.ext hw hbi).all
  clear hs hids hd hp hf hn' hm' hbw hbi
  go_enter Tryz.func37, Tryz.ntmps37
  have hx := Ext.refl w
  cases hq : Qm.eqB v.who who
  · have hj : (v.who.toList == who.toList) = false := hq
    clear hq HEQ
    go_wp2_with fail
    (go_ret; refine Ret.mk ?_ ?_; (focus (rfl; done)); (focus (exact EX; done)))
  have hj : (v.who.toList == who.toList) = true := hq
  clear hq
  go_wp2_with fail
  refine (HEQ.out _ (hx.alloc _)).mono ?_
  rintro e w2 ⟨rfl, hx2⟩
  have HX2 := Lib.hid ((hx.alloc _).trans hx2)
  clear hx hx2 hcb hfb hlb hci hfi hli HEQ
  go_wp2_with fail
  go_ret
  exact Ret.mk (by simp) HX2.out
attribute [local go_sem ↓] Go.wp_at_zero Go.wp_at_succ
set_option maxHeartbeats 16000000 in
set_option maxRecDepth 100000 in
theorem updates_walk (A : Option Addr) (n c : Nat) (number : Int) (B : Option Addr) (p q : Nat) (l : List Vw.Ac) (d : List Dg) (w : World) (hg : Glob w) (h : As w All A l) (hn : l.length = n) (hb : n ≤ 4611686018427387904) (hw : ∀ a ∈ l, a.Wide)
    (hd : Ds w All B d) (hp : d.length = p) (hpq : p ≤ q) (hpb : p ≤ 4611686018427387904) :
    Calls Tryz.prog 7 #[.slice A n c, .int .i64 number, .slice B p q] w (Ret (.bool true) w) := by
  have HG := Lib.hid hg
  have HL := Lib.hid h
  have HN := Lib.hid hn
  have HD := Lib.hid hd
  have HP := Lib.hid hp
  have HPQ := Lib.hid hpq
  have HS : Hid (∀ W, Ext w W → Calls Tryz.prog 30 #[.slice A n c] W (Ret (.bool (Vw.small l)) W)) := Lib.hid fun W hW => small_any A n c l W (Sls.ext ActR.steadfast h hW) hn hb hw
  obtain ⟨sm, hsm⟩ : ∃ sm, sm = Vw.small l := ⟨_, rfl⟩
  rw [← hsm] at HS
  have HE := Lib.hid hsm
  clear h hn hg hw hsm hd hp hpq
  go_enter Tryz.func7, Tryz.ntmps7
  have hx := Ext.refl w
  go_wp2_with fail
  refine (HS.out _ (hx.alloc _)).mono ?_
  rintro e w1 ⟨rfl, hx0⟩
  have HX := Lib.hid ((hx.alloc _).trans hx0)
  have HB5 := Lib.hid (Blk.ext hx0 (Blk.new' (w := w) (g := w.heap.size) (cs := #[.slice B p q]) (t := 25) rfl))
  obtain ⟨hc5, hf5, hl5⟩ := HB5.out.all
  clear hx hx0 HS
  cases sm
  · go_wp2_with fail
    refine (awake55_any _ (HG.out.ext HX.out)).mono ?_
    rintro e w99 ⟨rfl, hx0⟩
    have HX9 := Lib.hid (HX.out.trans hx0)
    clear hx0
    go_wp2_with fail
    go_ret
    exact Ret.mk rfl HX9.out
  have HSF := Lib.hid (small_fits HE.out.symm)
  have hn12 : n ≤ 12 := by have := HSF.out.1; rw [HN.out] at this; exact this
  clear HE
  by_cases h10 : 10 < p
  · have k1 : decide (10 < (p : Int)) = true := decide_eq_true (by omega)
    go_wp2_with fail
    refine (awake55_any _ (HG.out.ext HX.out)).mono ?_
    rintro e w99 ⟨rfl, hx0⟩
    have HX9 := Lib.hid (HX.out.trans hx0)
    clear hx0
    go_wp2_with fail
    go_ret
    exact Ret.mk rfl HX9.out
  have k1 : decide (10 < (p : Int)) = false := decide_eq_false (by omega)
  go_wp2_with fail
  clear hc5 hf5 hl5
  go_loopw [7, 29] (fun u i wr => ∃ (k : Nat) (B : Option Addr) (bn bc : Nat) (L : List Rv), k ≤ n ∧ i = .int .i64 k ∧ u = .slice B bn bc ∧ Hid (Revs wr B bn bc L) ∧ Hid (Vw.check L = 0) ∧ bn ≤ 100 ∧ Ext w1 wr) (fun u i wr => n - (intOf i).toNat)
  case atStart => exact ⟨0, none, 0, 0, [], Nat.zero_le _, rfl, rfl, Lib.hid (Revs.nil _), Lib.hid check_nil, Nat.zero_le _, Ext.refl _⟩
  case round =>
    obtain ⟨k, C, bn, bc, L, hk, rfl, rfl, HR, HK, hbn, hx⟩ := hrel
    by_cases hlt : k < n
    · have hkl : k < l.length := by rw [HN.out]; exact hlt
      have e0 : l[k]? = some l[k] := List.getElem?_eq_getElem _
      have fa := HSF.out.2 _ (List.mem_of_getElem? e0)
      obtain ⟨b, o, cs, rfl, hbl, _, _, hr, hvt⟩ := (Sls.ext ActR.steadfast HL.out (HX.out.trans hx)).get e0
      generalize l[k] = a at e0 hvt fa
      have HAF : Hid (∀ W, Ext wr W → Calls Tryz.prog 31 #[.slice C bn bc, .agg cs.toArray] W (GivesB W (Vw.after L a))) := Lib.hid fun W hW =>
        after_any C bn bc L cs a W (HG.out.ext (HX.out.trans (hx.trans hW))) (HR.out.ext hW) (by omega) (fun r hr => ((check_fits HK.out).2 r hr).1) (ActR.steadfast.ext hvt hW) fa
      obtain ⟨A', n', m', X', p', q', rfl, _, _, _, _⟩ := hvt
      obtain ⟨c0, c1, c2, c3, c4, c5, c6, c7, c8, c9, ca⟩ := cells11 hr
      have HX2 := Lib.hid hx
      have HKE := Lib.hid (Vw.story HK.out a)
      clear hr e0 fa hkl hx hk
      generalize Vw.after L a = Z at HAF HKE
      obtain ⟨next, zb⟩ := Z
      go_wp2_with fail
      refine (HAF.out _ ((Ext.refl wr).alloc _)).mono ?_
      rintro e w2 ⟨B2, n2, c2', rfl, hrv, hx0⟩
      have HX3 := Lib.hid ((HX2.out.alloc _).trans hx0)
      have HR2 := Lib.hid hrv
      have HKO := Lib.hid HKE.out.ok
      have hn2 : n2 ≤ 100 := by have := (check_fits HKO.out).1; dsimp only at hrv; rw [hrv.len] at this; exact this
      clear hrv hx0 HAF c0 c1 c2 c3 c4 c5 c6 c7 c8 c9 ca
      dsimp only at HR2 HKO ⊢
      go_wp2_with fail
      go_roundw
      case rel => exact ⟨k + 1, B2, n2, c2', next, hlt, rfl, rfl, HR2, HKO, hn2, HX3.out⟩
      case measure => simp [intOf]; omega
    · obtain rfl : k = n := by omega
      replace HX := Lib.hid (HX.out.trans hx)
      replace HB5 := Lib.hid (HB5.out.ext hx)
      obtain ⟨hc5, hf5, hl5⟩ := HB5.out.all
      clear hx HL HSF hk hn12
      by_cases h1 : number < 1
      · have k2 : decide (number < 1) = true := decide_eq_true h1
        go_wp2_with fail
        refine (awake55_any _ (HG.out.ext HX.out)).mono ?_
        rintro e w99 ⟨rfl, hx0⟩
        have HX9 := Lib.hid (HX.out.trans hx0)
        clear hx0
        go_wp2_with fail
        go_ret
        exact Ret.mk rfl HX9.out
      have k2 : decide (number < 1) = false := decide_eq_false h1
      by_cases h2 : (bn : Int) < number
      · have k3 : decide ((bn : Int) < number) = true := decide_eq_true h2
        go_wp2_with fail
        refine (awake55_any _ (HG.out.ext HX.out)).mono ?_
        rintro e w99 ⟨rfl, hx0⟩
        have HX9 := Lib.hid (HX.out.trans hx0)
        clear hx0
        go_wp2_with fail
        go_ret
        exact Ret.mk rfl HX9.out
      have k3 : decide ((bn : Int) < number) = false := decide_eq_false h2
      obtain ⟨j, rfl⟩ : ∃ j : Nat, number = (j : Int) + 1 := ⟨(number - 1).toNat, by omega⟩
      have hjn : j < bn := by omega
      have hjL : j < L.length := by rw [HR.out.len]; exact hjn
      have e0 : L[j]? = some L[j] := List.getElem?_eq_getElem _
      have fr := (check_fits HK.out).2 _ (List.mem_of_getElem? e0)
      obtain ⟨b, o, cr, rfl, hbl, _, _, hr, hvt⟩ := (HR.out.reads).get e0
      generalize L[j] = r at e0 hvt fr
      have E0 := Lib.hid e0
      have HRD := Lib.hid hvt
      have HFR := Lib.hid fr
      obtain ⟨P1, i1, j1, Q1, i2, j2, rfl, ⟨hi1, hij1, hrids⟩, _, _, _⟩ := hvt
      obtain ⟨d0, d1, d2, d3, d4, d5⟩ := cells6 hr
      have HRI := Lib.hid hrids
      have HI1 := Lib.hid hi1
      have HIJ := Lib.hid hij1
      clear h1 h2 hr e0 fr hjL hi1 hij1 hrids
      have HUP : Hid (∀ W, Ext wr W → Calls Tryz.prog 34 #[.slice (some ⟨b, o, none⟩) bn bc, .int .i64 ((j : Int) + 1), .string r.author, .slice B p q] W (GivesR W (Vw.update L ((j : Int) + 1) r.author d))) := Lib.hid fun W hW =>
        update_any _ bn bc ((j : Int) + 1) r.author B p q L d W (HG.out.ext (HX.out.trans hW)) (Rs.ext HR.out.reads hW) HR.out.len (by omega) (fun r hr => ((check_fits HK.out).2 r hr).1) (Ds.ext HD.out (HX.out.trans hW)) HP.out HPQ.out (by omega)
      have HUL : Hid (∀ m, Vw.update L ((j : Int) + 1) r.author d = (m, 0) → m.length = L.length ∧ ∃ x, m[j]? = some x ∧ x.state = 1 ∧ x.votes = r.votes ∧ x.ids = d ∧ (∀ who ∈ Vw.people x 1, ∃ v ∈ x.votes, v.who = who ∧ v.ids = d) ∧
        ∃ b y, Vw.update m ((j : Int) + 1) r.author r.ids = (b, 0) ∧ b.length = L.length ∧ b[j]? = some y ∧ Vw.people y 1 = Vw.people r 1) := Lib.hid fun m hm => by
          have := Vw.updates_law (l := L) (m := m) (i := j) (r := r) (d := d) E0.out (by rw [← hm]; congr 1)
          simpa using this
      have HUK : Hid (∀ m, Vw.update L ((j : Int) + 1) r.author d = (m, 0) → Vw.check m = 0) := Lib.hid fun m hm => by
        have := Vw.update_keep (l := L) (n := (j : Int) + 1) (who := r.author) (d := d) (by rw [hm])
        rw [hm] at this
        exact this.ok
      generalize hz : Vw.update L ((j : Int) + 1) r.author d = Z at HUP HUL HUK
      clear hz
      obtain ⟨m, ev⟩ := Z
      go_wp2_with fail
      refine (HUP.out _ ((Ext.refl wr).alloc _)).mono ?_
      rintro e w2 ⟨C2, n2, c2', rfl, hrv, hx0⟩
      have HR2 := Lib.hid hrv
      have HB10 := Lib.hid (Blk.ext hx0 (Blk.new' (w := wr) (g := wr.heap.size) (cs := #[.int .i64 r.number, .string r.author, .string r.branch, .slice P1 i1 j1, .int .i64 r.state, .slice Q1 i2 j2]) (t := 28) rfl))
      have hy0 := ((Ext.refl wr).alloc (.cells #[.int .i64 r.number, .string r.author, .string r.branch, .slice P1 i1 j1, .int .i64 r.state, .slice Q1 i2 j2] 28)).trans hx0
      clear hc5 hf5 hl5 hrv hx0 HUP d0 d1 d2 d3 d4 d5
      replace HX := Lib.hid (HX.out.trans hy0)
      replace HB5 := Lib.hid (HB5.out.ext hy0)
      replace HRD := Lib.hid (Rev.steadfast.ext HRD.out hy0)
      replace HRI := Lib.hid (Ds.ext HRI.out hy0)
      clear hy0
      dsimp only at HR2 ⊢
      obtain ⟨hc5, hf5, hl5⟩ := HB5.out.all
      obtain ⟨hc10, hf10, hl10⟩ := HB10.out.all
      generalize wr.heap.size = g10 at HB10 hc10 hf10 hl10 ⊢
      by_cases h0 : ev = 0
      rotate_left
      · have hk0 : (ev == 0) = false := by simpa using h0
        go_wp2_with fail
        refine (awake55_any _ (HG.out.ext HX.out)).mono ?_
        rintro e w99 ⟨rfl, hx0⟩
        have HX9 := Lib.hid (HX.out.trans hx0)
        clear hx0
        go_wp2_with fail
        go_ret
        exact Ret.mk rfl HX9.out
      subst h0
      obtain ⟨hml, x, hmx, hx1, hx2, hx3, hx4, b2, y, hby, hbl2, hbyy, hpy⟩ := HUL.out m rfl
      have HKM := Lib.hid (HUK.out m rfl)
      have HFM := Lib.hid (check_fits HKM.out)
      have hjn1 : n2 = bn := by rw [← HR2.out.len, hml, HR.out.len]
      have HML := Lib.hid hml
      have HMX := Lib.hid hmx
      have HX1 := Lib.hid hx1
      have HX2 := Lib.hid hx2
      have HX3 := Lib.hid hx3
      have HX4 := Lib.hid hx4
      have HBL := Lib.hid hbl2
      have HBY := Lib.hid hbyy
      have HPY := Lib.hid hpy
      have HFM2 := Lib.hid ((check_fits HKM.out).2 x (List.mem_of_getElem? hmx))
      clear hml hmx hx1 hx2 hx3 hx4 hbl2 hbyy hpy HUL HUK
      subst hjn1
      have hn2 : n2 ≤ 100 := hbn
      obtain ⟨s, hs⟩ : ∃ s, s = decide (r.ids = d) := ⟨_, rfl⟩
      have HSM := Lib.hid (dsame_any P1 B i1 j1 p q r.ids d w2 HRI.out (Ds.ext HD.out HX.out) HI1.out HP.out (by rw [← HI1.out]; exact HFR.out.1.ids) (by omega))
      rw [← hs] at HSM
      clear hs
      go_wp2_with fail
      refine HSM.out.mono ?_
      rintro e w3 ⟨rfl, hx0⟩
      clear hc5 hf5 hl5 hc10 hf10 hl10
      replace HX := Lib.hid (HX.out.trans hx0)
      replace HB5 := Lib.hid (HB5.out.ext hx0)
      replace HB10 := Lib.hid (HB10.out.ext hx0)
      replace HR2 := Lib.hid (HR2.out.ext hx0)
      replace HRD := Lib.hid (Rev.steadfast.ext HRD.out hx0)
      replace HRI := Lib.hid (Ds.ext HRI.out hx0)
      clear hx0
      obtain ⟨hc5, hf5, hl5⟩ := HB5.out.all
      obtain ⟨hc10, hf10, hl10⟩ := HB10.out.all
      cases s
      rotate_left
      · go_wp2_with fail
        refine (awake55_any _ (HG.out.ext HX.out)).mono ?_
        rintro e w99 ⟨rfl, hx0⟩
        have HX9 := Lib.hid (HX.out.trans hx0)
        clear hx0
        go_wp2_with fail
        go_ret
        exact Ret.mk rfl HX9.out
      have HUP2 := Lib.hid (update_any C2 n2 c2' ((j : Int) + 1) r.author P1 i1 j1 m r.ids w3 (HG.out.ext HX.out) HR2.out.reads HR2.out.len (by omega) (fun r hr => (HFM.out.2 r hr).1) HRI.out HI1.out HIJ.out (by rw [← HI1.out]; exact HFR.out.1.ids))
      rw [hby] at HUP2
      have HKB : Hid (Vw.check b2 = 0) := Lib.hid (by
        have := Vw.update_keep (l := m) (n := (j : Int) + 1) (who := r.author) (d := r.ids) (by rw [hby])
        rw [hby] at this
        exact this.ok)
      clear hby HSM
      go_wp2_with fail
      refine HUP2.out.mono ?_
      rintro e w4 ⟨C3, n3, c3', rfl, hrv, hx0⟩
      have HR3 := Lib.hid hrv
      have hjn2 : n3 = n2 := by rw [← HR3.out.len, HBL.out, HR.out.len]
      subst hjn2
      clear hrv HUP2
      clear hc5 hf5 hl5 hc10 hf10 hl10
      replace HX := Lib.hid (HX.out.trans hx0)
      replace HB5 := Lib.hid (HB5.out.ext hx0)
      replace HB10 := Lib.hid (HB10.out.ext hx0)
      replace HR2 := Lib.hid (HR2.out.ext hx0)
      replace HRD := Lib.hid (Rev.steadfast.ext HRD.out hx0)
      replace HRI := Lib.hid (Ds.ext HRI.out hx0)
      clear hx0
      obtain ⟨hc5, hf5, hl5⟩ := HB5.out.all
      obtain ⟨hc10, hf10, hl10⟩ := HB10.out.all
      dsimp only at HR3 ⊢
      obtain ⟨b8, o8, cx, rfl, hb8, _, _, hr8, hv8⟩ := (HR2.out.reads).get HMX.out
      have HXD := Lib.hid hv8
      obtain ⟨P3, i3, j3, Q3, i4, j4, rfl, _, hi4, hij4, hvx⟩ := hv8
      obtain ⟨d0, d1, d2, d3, d4, d5⟩ := cells6 hr8
      have HVX := Lib.hid hvx
      have HI4 := Lib.hid hi4
      have HAX : Hid (∀ W, Ext w4 W → Calls Tryz.prog 12 #[.agg #[.int .i64 x.number, .string x.author, .string x.branch, .slice P3 i3 j3, .int .i64 x.state, .slice Q3 i4 j4]] W (fun e w' => ∃ A c, e = .returned (.slice A (Vw.people x 1).length c) ∧ Sl w' A (Vw.people x 1).length c (Vw.people x 1) ∧ Ext W w')) := Lib.hid fun W hW => approvals_any [.int .i64 x.number, .string x.author, .string x.branch, .slice P3 i3 j3, .int .i64 x.state, .slice Q3 i4 j4] x W (Rev.steadfast.ext HXD.out hW) HFM2.out.1 (by have := HFM2.out.2; omega)
      clear hr8 hi4 hij4 hvx
      have HPL : Hid ((Vw.people x 1).length ≤ 100) := Lib.hid (by have := people_len2 x 1; have := HFM2.out.2; omega)
      generalize Vw.people x 1 = Lp at HAX HX4 HPL
      obtain ⟨np, hnp⟩ : ∃ np, np = Lp.length := ⟨_, rfl⟩
      rw [← hnp] at HAX HPL
      have HNP := Lib.hid hnp
      clear hnp
      go_wp2_with fail
      refine (HAX.out _ ((Ext.refl w4).alloc _)).mono ?_
      rintro e w5 ⟨P8, d8, rfl, hs8, hx0⟩
      have HB15 := Lib.hid (Blk.ext hx0 (Blk.new' (w := w4) (g := w4.heap.size) (cs := #[.int .i64 x.number, .string x.author, .string x.branch, .slice P3 i3 j3, .int .i64 x.state, .slice Q3 i4 j4]) (t := 28) rfl))
      have hx0 := ((Ext.refl w4).alloc (.cells #[.int .i64 x.number, .string x.author, .string x.branch, .slice P3 i3 j3, .int .i64 x.state, .slice Q3 i4 j4] 28)).trans hx0
      have HS8 := Lib.hid hs8.1
      replace HXD := Lib.hid (Rev.steadfast.ext HXD.out hx0)
      replace HVX := Lib.hid (Vs.ext HVX.out hx0)
      replace HR3 := Lib.hid (HR3.out.ext hx0)
      clear d0 d1 d2 d3 d4 d5 hs8 HAX
      clear hc5 hf5 hl5 hc10 hf10 hl10
      replace HX := Lib.hid (HX.out.trans hx0)
      replace HB5 := Lib.hid (HB5.out.ext hx0)
      replace HB10 := Lib.hid (HB10.out.ext hx0)
      replace HR2 := Lib.hid (HR2.out.ext hx0)
      replace HRD := Lib.hid (Rev.steadfast.ext HRD.out hx0)
      replace HRI := Lib.hid (Ds.ext HRI.out hx0)
      clear hx0
      obtain ⟨hc5, hf5, hl5⟩ := HB5.out.all
      obtain ⟨hc10, hf10, hl10⟩ := HB10.out.all
      have hp100 := HPL.out
      generalize w4.heap.size = g15 at HB15 ⊢
      clear hc5 hf5 hl5 hc10 hf10 hl10
      go_wp2_with fail
      go_loopw [106] (fun u wi => ∃ q' : Nat, q' ≤ np ∧ u = .int .i64 q' ∧ Ext w5 wi) (fun u wi => np - (intOf u).toNat)
      case atStart => exact ⟨0, Nat.zero_le _, rfl, Ext.refl _⟩
      case round =>
        obtain ⟨q', hq, rfl, hxi⟩ := hrel
        by_cases hql : q' < np
        · obtain ⟨bq, oq, rfl, hbq, hcq⟩ := HS8.out.2 (by omega)
          have c8 := (hxi.cell (p := ⟨bq, oq + q', none⟩) hbq).trans (hcq q' hql)
          have hql2 : q' < Lp.length := by rw [← HNP.out]; exact hql
          have e8 : Lp.getD q' ByteArray.empty = Lp[q'] := by rw [List.getD_eq_getElem?_getD, List.getElem?_eq_getElem hql2]; rfl
          rw [e8] at c8
          obtain ⟨v9, hv9, hw9, hd9⟩ := HX4.out _ (List.getElem_mem hql2)
          generalize Lp[q'] = s9 at c8 hw9 e8
          have HCV : Hid (Calls Tryz.prog 36 #[.slice Q3 i4 j4, .func (.func 37) #[] #[.pointer (some ⟨wr.heap.size, 0, none⟩), .pointer (some ⟨w.heap.size, 0, none⟩)]] (wr.alloc (.cells #[.string s9] 9)) (Ret (.bool true) (wr.alloc (.cells #[.string s9] 9)))) := Lib.hid (by
            have hxa := (Ext.refl wr).alloc (.cells #[.string s9] 9)
            have := containsV_any Vt.Fits (fun v => Qm.eqB v.who s9 && decide (v.ids = d)) 37 #[.pointer (some ⟨wr.heap.size, 0, none⟩), .pointer (some ⟨w.heap.size, 0, none⟩)] (enters_of Tryz.func37 (by kernel_rfl) rfl) Q3 i4 j4 x.votes (wr.alloc (.cells #[.string s9] 9)) (Vs.ext HVX.out (hxi.trans hxa)) HI4.out (by have := HFM2.out.2; rw [HI4.out] at this; omega) HFM2.out.1.each
              (fun W' cs v hx hv _ hvf => upd2_any s9 d wr.heap.size w.heap.size B p q _ W' hx (Blk.new' rfl) (HB5.out.ext (hxi.trans hxa)) (Ds.ext HD.out (HX.out.trans (hxi.trans hxa))) HP.out (by omega) cs v (Vot.steadfast.ext hv hx) hvf)
            have ha : x.votes.any (fun v => Qm.eqB v.who s9 && decide (v.ids = d)) = true := List.any_eq_true.2 ⟨v9, hv9, by rw [Qm.eqB_iff.2 hw9, decide_eq_true hd9]; rfl⟩
            rwa [ha] at this)
          obtain ⟨hc15, hf15, hl15⟩ := (HB15.out.ext hxi).all
          have HXI := Lib.hid hxi
          clear hv9 hw9 hd9 e8 hql2 hcq hxi hq
          go_wp2_with fail
          refine HCV.out.mono ?_
          rintro e w7 ⟨rfl, hx0⟩
          have HX7 := Lib.hid ((HXI.out.alloc _).trans hx0)
          clear hx0 HCV HXI hc15 hf15 hl15 c8
          go_wp2_with fail
          go_roundw
          case rel => exact ⟨q' + 1, hql, rfl, HX7.out⟩
          case measure => simp [intOf]; omega
        · obtain rfl : q' = np := by omega
          have HXQ := Lib.hid (HX.out.trans hxi)
          have HR4 := Lib.hid (HR3.out.ext hxi)
          have HB15' := Lib.hid (HB15.out.ext hxi)
          rw [HX1.out] at HB15'
          have HB10' := Lib.hid (HB10.out.ext hxi)
          have HRD' := Lib.hid (Rev.steadfast.ext HRD.out hxi)
          have HFY := Lib.hid ((check_fits HKB.out).2 y (List.mem_of_getElem? HBY.out))
          obtain ⟨b7, o7, cy, rfl, hb7, _, _, hr7, hv7⟩ := (HR4.out.reads).get HBY.out
          have hv7' := hv7
          obtain ⟨P5, i5, j5, Q5, i6, j6, rfl, _, _, _, _⟩ := hv7
          have HAY : Hid (∀ W, Ext wr W → Calls Tryz.prog 12 #[.agg #[.int .i64 y.number, .string y.author, .string y.branch, .slice P5 i5 j5, .int .i64 y.state, .slice Q5 i6 j6]] W (fun e w' => ∃ A c, e = .returned (.slice A (Vw.people y 1).length c) ∧ Sl w' A (Vw.people y 1).length c (Vw.people y 1) ∧ Ext W w')) := Lib.hid fun W hW => approvals_any [.int .i64 y.number, .string y.author, .string y.branch, .slice P5 i5 j5, .int .i64 y.state, .slice Q5 i6 j6] y W (Rev.steadfast.ext hv7' hW) HFY.out.1 (by have := HFY.out.2; omega)
          have HAR : Hid (∀ W, Ext wr W → Calls Tryz.prog 12 #[.agg #[.int .i64 r.number, .string r.author, .string r.branch, .slice P1 i1 j1, .int .i64 r.state, .slice Q1 i2 j2]] W (fun e w' => ∃ A c, e = .returned (.slice A (Vw.people r 1).length c) ∧ Sl w' A (Vw.people r 1).length c (Vw.people r 1) ∧ Ext W w')) := Lib.hid fun W hW => approvals_any [.int .i64 r.number, .string r.author, .string r.branch, .slice P1 i1 j1, .int .i64 r.state, .slice Q1 i2 j2] r W (Rev.steadfast.ext HRD'.out hW) HFR.out.1 (by have := HFR.out.2; omega)
          rw [HPY.out] at HAY
          have HPL2 : Hid ((Vw.people r 1).length ≤ 100) := Lib.hid (by have := people_len2 r 1; have := HFR.out.2; omega)
          generalize Vw.people r 1 = Lr at HAY HAR HPL2
          have HRY : Hid (∀ W, Ext wr W → W.rangeAt b7 (o7 + j * 6) [.int .i64 y.number, .string y.author, .string y.branch, .slice P5 i5 j5, .int .i64 y.state, .slice Q5 i6 j6]) := Lib.hid fun W hW i v hi => by rw [hW.cell (p := ⟨b7, _, none⟩) hb7]; exact hr7 i v hi
          have hjn3 : j < n3 := hjn
          have hj100 : j < 100 := by omega
          clear hr7 hv7' hb7 hxi hq hql HR3 HB15 HB10 HRD HX HPY HBY HKB HS8 HX4 HVX HXD
          go_wp2_with fail
          refine wp_region_noPanic (wp_region_held_drew (S := fun w' => Ext wr w') (by kernel_rfl) (Ext.refl wr).drew1 (fun hv => ?_))
          generalize wr.drew = v0 at hv ⊢
          refine take_any (i := 0) (v := .pointer (some ⟨g15, 4, none⟩)) rfl rfl (by kernel_rfl) (by kernel_rfl) (by kernel_rfl) (.inl ⟨(by kernel_rfl), fun W' hW' => ?f1⟩) hv ?_
          case f1 =>
            go_simp
          try simp only [Act.put, sA, s0, sS]
          refine take_any (i := 1) (v := .int .i64 1) rfl rfl (by kernel_rfl) (by kernel_rfl) (by kernel_rfl) (.inl ⟨(by kernel_rfl), fun W' hW' => ?f2⟩) hv ?_
          case f2 =>
            have hcx := (HB15'.out.ext hW').cell
            go_simp
          try simp only [Act.put, sA, s0, sS]
          refine take_any (i := 2) (v := .bool true) rfl rfl (by kernel_rfl) (by kernel_rfl) (by kernel_rfl) (.inl ⟨(by kernel_rfl), fun W' hW' => ?f3⟩) hv ?_
          case f3 =>
            go_simp
          try simp only [Act.put, sA, s0, sS]
          refine take_any (i := 3) (v := .bool true) rfl rfl (by kernel_rfl) (by kernel_rfl) (by kernel_rfl) (.inl ⟨(by kernel_rfl), fun W' hW' => ?f4⟩) hv ?_
          case f4 =>
            go_simp
          try simp only [Act.put, sA, s0, sS]
          refine take_any (i := 4) (v := .slice (some ⟨b7, o7, none⟩) n3 c3') rfl rfl (by kernel_rfl) (by kernel_rfl) (by kernel_rfl) (.inl ⟨(by kernel_rfl), fun W' hW' => ?f5⟩) hv ?_
          case f5 =>
            go_simp
          try simp only [Act.put, sA, s0, sS]
          refine take_any (i := 5) (v := .int .i64 ((j : Int) + 1)) rfl rfl (by kernel_rfl) (by kernel_rfl) (by kernel_rfl) (.inl ⟨(by kernel_rfl), fun W' hW' => ?f6⟩) hv ?_
          case f6 =>
            go_simp
          try simp only [Act.put, sA, s0, sS]
          refine take_any (i := 6) (v := .int .i64 (j : Int)) rfl rfl (by kernel_rfl) (by kernel_rfl) (by kernel_rfl) (.inl ⟨(by kernel_rfl), fun W' hW' => ?f7⟩) hv ?_
          case f7 =>
            go_simp
            simp [IntKind.wrap_i64]
            omega
          try simp only [Act.put, sA, s0, sS]
          refine take_any (i := 7) (v := .pointer (some ⟨b7, o7 + j * 6, none⟩)) rfl rfl (by kernel_rfl) (by kernel_rfl) (by kernel_rfl) (.inl ⟨(by kernel_rfl), fun W' hW' => ?f8⟩) hv ?_
          case f8 =>
            go_simp
          try simp only [Act.put, sA, s0, sS]
          refine tg (i := 8) [.int .i64 y.number, .string y.author, .string y.branch, .slice P5 i5 j5, .int .i64 y.state, .slice Q5 i6 j6] rfl rfl rfl rfl Tryz.underlying28 rfl (fun _ h => HRY.out _ h) hv ?_
          try simp only [Act.put, sA, s0, sS]
          refine tg (i := 10) [.int .i64 r.number, .string r.author, .string r.branch, .slice P1 i1 j1, .int .i64 r.state, .slice Q1 i2 j2] rfl rfl rfl rfl Tryz.underlying28 rfl (fun _ h => (HB10'.out.ext h).range 0 _ (fun j _ => by simp)) hv ?_
          try simp only [Act.put, sA, s0, sS]
          refine wpAnyH_one (i := 9) (by kernel_rfl) rfl (by kernel_rfl) ?_
          go_simp
          refine (HAY.out _ hv).mono ?_
          rintro e v1 ⟨A7, c7, rfl, hs7, hx0⟩
          have HS7 := Lib.hid hs7.1
          clear hs7
          have hv2 := hv.trans hx0
          refine ⟨hv2, ?_⟩
          try simp only [Act.put, sA, s0, sS]
          have hv := hv2
          clear hv2 hx0
          refine wpAnyH_one (i := 11) (by kernel_rfl) rfl (by kernel_rfl) ?_
          go_simp
          refine (HAR.out _ hv).mono ?_
          rintro e v1 ⟨A6, c6', rfl, hs6, hx0⟩
          have HS6 := Lib.hid hs6.1
          replace HS7 := Lib.hid (HS7.out.ext hx0)
          clear hs6
          have hv2 := hv.trans hx0
          refine ⟨hv2, ?_⟩
          try simp only [Act.put, sA, s0, sS]
          have hv := hv2
          clear hv2 hx0
          have HEQ := Lib.hid (by have := sequal_any A7 A6 Lr.length c7 Lr.length c6' Lr Lr _ HS7.out HS6.out (by have := HPL2.out; omega) (by have := HPL2.out; omega); rwa [decide_eq_true rfl] at this)
          refine wpAnyH_one (i := 12) (by kernel_rfl) rfl (by kernel_rfl) ?_
          go_simp
          refine (HEQ.out).mono ?_
          rintro e v1 ⟨rfl, hx0⟩
          have hv2 := hv.trans hx0
          refine ⟨hv2, ?_⟩
          try simp only [Act.put, sA, s0, sS]
          have hv := hv2
          clear hv2 hx0
          refine take_any (i := 13) (v := .bool true) rfl rfl (by kernel_rfl) (by kernel_rfl) (by kernel_rfl) (.inl ⟨(by kernel_rfl), fun W' hW' => ?f9⟩) hv ?_
          case f9 =>
            go_simp
          try simp only [Act.put, sA, s0, sS]
          refine take_any (i := 14) (v := .bool true) rfl rfl (by kernel_rfl) (by kernel_rfl) (by kernel_rfl) (.inl ⟨(by kernel_rfl), fun W' hW' => ?f10⟩) hv ?_
          case f10 =>
            go_simp
          try simp only [Act.put, sA, s0, sS]
          refine wpAnyH_one (i := 15) (by kernel_rfl) rfl (by kernel_rfl) ?_
          go_simp
          refine (awake55_any _ (HG.out.ext (HXQ.out.trans hv))).mono ?_
          rintro e v1 ⟨rfl, hx0⟩
          have hv2 := hv.trans hx0
          refine ⟨hv2, ?_⟩
          try simp only [Act.put, sA, s0, sS]
          have hv := hv2
          clear hv2 hx0
          refine take_any (i := 16) (v := .bool true) rfl rfl (by kernel_rfl) (by kernel_rfl) (by kernel_rfl) (.inl ⟨(by kernel_rfl), fun W' hW' => ?f11⟩) hv ?_
          case f11 =>
            go_simp
          try simp only [Act.put, sA, s0, sS]
          refine wpAnyH_one (i := 17) (by kernel_rfl) rfl (by kernel_rfl) ?_
          go_simp
          refine wpAnyH_done (by kernel_rfl) (NoPanic.normal ?_) _
          go_wp2_with fail
          go_ret
          exact Ret.mk rfl (HXQ.out.trans hv)
end Go.Proofs.YtojfgidoobgcaaaGreatDoor
