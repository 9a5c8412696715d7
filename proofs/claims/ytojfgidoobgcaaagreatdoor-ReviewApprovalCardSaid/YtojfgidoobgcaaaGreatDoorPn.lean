/- Reviews, votes and digests that came in, opened: what their cells hold, and that they read again as they did. Acts that came in, opened: what their cells hold. Walks: the last word of a person. Walks: ReviewApproval. -/
import Derived.Test.YtojfgidoobgcaaaGreatDoorOc
import Derived.OpenShut
import Derived.ReadAgain
import Derived.Deep.Strs
import Derived.Deep.Slices
import Derived.Shelf.Vars
import Derived.SizedLaws
import Derived.Test.YtojfgidoobgcaaaGreatDoorOg
import Derived.Test.YtojfgidoobgcaaaGreatDoorOi
import Derived.Test.YtojfgidoobgcaaaGreatDoorNm
import Derived.Test.YtojfgidoobgcaaaGreatDoorNt
import Derived.Test.YtojfgidoobgcaaaGreatDoorRange
import Derived.Test.YtojfgidoobgcaaaGreatDoorTu
import Derived.RangeFuncNested
import Derived.RangeFuncBound
import Derived.RangeFuncLeaves
import Derived.Shelf.Abstract
import Derived.Shelf.RegionOpen
import Derived.OwnWalkIn
import Derived.TacticsInMore
import Derived.LoopNIn
import Derived.LoopIn
import Derived.Test.YtojfgidoobgcaaaGreatDoorNp
set_option linter.unusedSimpArgs false
set_option linter.unusedVariables false
namespace Go.Proofs.YtojfgidoobgcaaaGreatDoor
open Go Go.ChangeShapes Go.WideShapes Go.RowKit Go.Deep

theorem cInt : Tryz.prog.cellsOf 3 = 1 := by kernel_rfl
theorem cByte : Tryz.prog.cellsOf 5 = 1 := by kernel_rfl
theorem cString : Tryz.prog.cellsOf 9 = 1 := by kernel_rfl
theorem cDigest : Tryz.prog.cellsOf 69 = 32 := by kernel_rfl
theorem cDigests : Tryz.prog.cellsOf 25 = 1 := by kernel_rfl
theorem cVote : Tryz.prog.cellsOf 39 = 4 := by kernel_rfl
theorem cVotes : Tryz.prog.cellsOf 26 = 1 := by kernel_rfl
theorem cReview : Tryz.prog.cellsOf 28 = 6 := by kernel_rfl
instance : Inhabited Vt := ⟨⟨⟨#[]⟩, 0, ⟨#[]⟩, []⟩⟩
instance : Inhabited Rv := ⟨⟨0, ⟨#[]⟩, ⟨#[]⟩, [], 0, []⟩⟩

section
variable {H : Type} {enc : TypeId × Value → H} {W : World} {held : Bool}

theorem add_none (b o i : Nat) : (⟨b, o, none⟩ : Addr).add i = ⟨b, o + i, none⟩ := by unfold Addr.add; split <;> simp_all
theorem weightsAll_mem {e : TypeId} {d : DataW H} : ∀ {ds : List (DataW H)}, d ∈ ds → ∀ n ∈ d.weights Tryz.prog e, n ∈ DataW.weightsAll Tryz.prog e ds
  | d0 :: r, hd, n, hn => by
    unfold DataW.weightsAll
    rcases List.mem_cons.1 hd with rfl | h
    · exact List.mem_append_left _ hn
    · exact List.mem_append_right _ (weightsAll_mem h n hn)
theorem weights_mem {ts : List TypeId} {ds : List (DataW H)} {j : Nat} {t : TypeId} {d : DataW H} (hw : ∀ n ∈ DataW.weightsEach Tryz.prog ts ds, n ≤ reachBytes) (ht : ts[j]? = some t) (hd : ds[j]? = some d) : ∀ n ∈ d.weights Tryz.prog t, n ≤ reachBytes :=
  fun n hn => hw n (DataW.weights_mem_each ht hd n hn)

/-- The string's size. -/
theorem str_size {n : Nat} {v : Value} {z : ByteArray} {y : DataW H × List MemPlace} (h : DataW.trod enc Tryz.prog W 0 (fun _ => true) held n 9 [v] = some y) (hw : ∀ k ∈ y.1.weights Tryz.prog 9, k ≤ reachBytes) (hv : v = .string z) : z.size ≤ 140737488351232 := by
  obtain ⟨s, h1, h2, _⟩ := DataW.trod_string Tryz.underlying9 h
  have : v = .string s := by simpa using h1
  rw [hv] at this
  obtain rfl : z = s := by simpa using this
  rw [h2] at hw
  have h9 := hw z.data.toList.length (by simp [DataW.weights])
  unfold reachBytes at h9
  rw [Array.length_toList] at h9
  have h8 : z.size = z.data.size := rfl
  omega

/-- A list that came in, whatever its elements. -/
theorem open_sls {α : Type} [Inhabited α] {t e : TypeId} {k by_ : Nat} (R : Reads α) (M : α → Prop) (hu : Tryz.prog.underlying t = some (.slice e)) (ck : Tryz.prog.cellsOf e = k) (hk : 0 < k) (hby : Tryz.prog.bytesOf e = by_)
    (hel : ∀ (fuel : Nat) (vs : List Value) (d : DataW H) (ps : List MemPlace), vs.length = k → DataW.trod enc Tryz.prog W 0 (fun _ => true) held fuel e vs = some (d, ps) → (∀ n ∈ d.weights Tryz.prog e, n ≤ reachBytes) → ∃ x, R W All vs x ∧ M x)
    {fuel : Nat} {v : Value} {x : DataW H × List MemPlace} (h : DataW.trod enc Tryz.prog W 0 (fun _ => true) held fuel t [v] = some x) (hw : ∀ n ∈ x.1.weights Tryz.prog t, n ≤ reachBytes) :
    ∃ A l c, v = .slice A l.length c ∧ Sls k R W All A l ∧ l.length ≤ c ∧ l.length * by_ ≤ reachBytes ∧ ∀ x ∈ l, M x := by
  rcases open_slice hu h with ⟨e, _⟩ | ⟨a, len, cap, m, n, D, Pl, e, _, hlc, _, hm, hx, hc⟩
  · obtain rfl : v = .slice none 0 0 := by simpa using e
    exact ⟨none, [], 0, rfl, Sls.nil _ _ _ _, Nat.zero_le _, by simp, fun q hq => by cases hq⟩
  · obtain rfl : v = .slice (some a) len cap := by simpa using e
    have hm' : m = cap := by simpa using hm
    subst hm'
    rw [hx] at hw
    simp only [DataW.weights, hu] at hw
    have hcap : len * by_ ≤ reachBytes := by
      have := hw _ (List.mem_cons_self ..)
      rw [hby] at this
      simp only [List.length_map, List.length_range] at this
      refine Nat.le_trans (Nat.mul_le_mul_right by_ ?_) this
      omega
    obtain ⟨pq, hpq⟩ := choose_lt (α := List Value × α) (n := len) (p := fun i f => f.1.length = k ∧ (∀ j v, f.1[j]? = some v → W.cell? ((a.add (i * k)).add j) = some v) ∧ R W All f.1 f.2 ∧ M f.2) (fun i hi => by
      obtain ⟨cs', h1, h2⟩ := hc i (by omega)
      rw [ck] at h1
      obtain ⟨_, hl, hcell⟩ := World.cells?_some h1
      obtain ⟨y, hy, hM⟩ := hel n cs' (D i) (Pl i) hl h2 (fun k hk => hw k (List.mem_cons_of_mem _ (List.mem_append_left _ (weightsAll_mem (d := D i) (List.mem_map.2 ⟨i, List.mem_range.2 hi, rfl⟩) _ hk))))
      refine ⟨(cs', y), hl, fun j v hv => ?_, hy, hM⟩
      have hj : j < k := by rw [← hl]; exact (List.getElem?_eq_some_iff.1 hv).1
      rw [hcell j hj, hv])
    have hget : ∀ {β : Type} (f : Nat → β) (i : Nat) (c : β), ((List.range len).map f)[i]? = some c → i < len ∧ c = f i := by
      intro β f i c hc
      rw [List.getElem?_map] at hc
      have hi : i < len := by
        rcases Nat.lt_or_ge i len with h | h
        · exact h
        · rw [List.getElem?_eq_none (by simpa using h)] at hc
          cases hc
      rw [List.getElem?_range hi] at hc
      exact ⟨hi, (Option.some.inj hc).symm⟩
    have hlen : ((List.range len).map fun i => (pq i).2).length = len := by simp
    refine ⟨some a, (List.range len).map fun i => (pq i).2, m, by rw [hlen], ⟨(List.range len).map fun i => (pq i).1, by simp, fun c hc => ?_, fun h0 => ?_, fun i c x hc hx => ?_⟩, by rw [hlen]; exact hlc, by rw [hlen]; exact hcap, fun q hq => ?_⟩
    · obtain ⟨i, hi, rfl⟩ := List.mem_map.1 hc
      exact (hpq i (List.mem_range.1 hi)).1
    · rw [hlen] at h0
      obtain ⟨b, o, spot⟩ := a
      have hk0 := (hpq 0 h0).1
      have h1 := (hpq 0 h0).2.1 0 _ (List.getElem?_eq_getElem (by omega))
      have hs : spot = none := by simpa [Addr.add] using World.cell?_spot h1
      subst hs
      refine ⟨b, o, rfl, ?_, trivial, fun j v hv => ?_⟩
      · have := lt_of_cell h1
        simpa [add_none] using this
      · have hall : ∀ c ∈ (List.range len).map fun i => (pq i).1, c.length = k := fun c hc => by
          obtain ⟨i, hi, rfl⟩ := List.mem_map.1 hc
          exact (hpq i (List.mem_range.1 hi)).1
        have hj := (List.getElem?_eq_some_iff.1 hv).1
        rw [flatten_len hall, List.length_map, List.length_range] at hj
        have h2 : j / k < len := by rw [Nat.div_lt_iff_lt_mul hk]; exact hj
        have h3 : ((List.range len).map fun i => (pq i).1)[j / k]? = some (pq (j / k)).1 := by
          rw [List.getElem?_map, List.getElem?_range h2]
          rfl
        have h4 := flatten_at hall h3 (Nat.mod_lt j hk)
        rw [Nat.mul_comm (j / k) k, Nat.div_add_mod, hv] at h4
        have := (hpq (j / k) h2).2.1 (j % k) v h4.symm
        rw [add_none, add_none, Nat.add_assoc, Nat.mul_comm (j / k) k, Nat.div_add_mod] at this
        exact this
    · obtain ⟨hi, rfl⟩ := hget _ _ _ hc
      obtain ⟨_, rfl⟩ := hget _ _ _ hx
      exact (hpq i hi).2.2.1
    · obtain ⟨i, hi, rfl⟩ := List.mem_map.1 hq
      exact (hpq i (List.mem_range.1 hi)).2.2.2
/-- A digest that came in. -/
theorem open_dg (fuel : Nat) (vs : List Value) (d : DataW H) (ps : List MemPlace) (hl : vs.length = 32) (h : DataW.trod enc Tryz.prog W 0 (fun _ => true) held fuel 69 vs = some (d, ps)) : ∃ x : Dg, Dig W All vs x := by
  obtain ⟨xs, m, _, _, _, hxl, hf⟩ := DataW.trod_array Tryz.underlying69 h
  have key : ∀ i, i < 32 → ∃ b : UInt8, vs[i]? = some (.int .u8 b.toNat) := fun i hi => by
    have h1 := hf i hi
    rw [cByte, Nat.mul_one] at h1
    have h2 : xs[i]? = some xs[i] := List.getElem?_eq_getElem (by omega)
    rw [h2] at h1
    obtain ⟨z, hz, _, hwf⟩ := DataW.trod_int Tryz.underlying5 h1
    have h3 : vs[i]? = some (.int .u8 z) := by
      have : ((vs.drop i).take 1)[0]? = some (.int .u8 z) := by rw [hz]; rfl
      simpa using this
    have hr : 0 ≤ z ∧ z ≤ 255 := by simpa [Lit.wf, IntKind.has, IntKind.min, IntKind.max, IntKind.signed, IntKind.bits] using hwf
    refine ⟨UInt8.ofNat z.toNat, ?_⟩
    rw [h3]
    congr 2
    rw [UInt8.toNat_ofNat_of_lt' (by show z.toNat < 256; omega)]
    omega
  obtain ⟨f, hf2⟩ := choose_lt (α := UInt8) (n := 32) (p := fun i b => vs[i]? = some (.int .u8 b.toNat)) key
  refine ⟨⟨(List.range 32).map f, by simp⟩, ?_⟩
  refine List.ext_getElem? fun i => ?_
  show vs[i]? = ((((List.range 32).map f)).map fun x : UInt8 => Value.int .u8 x.toNat)[i]?
  rcases Nat.lt_or_ge i 32 with hi | hi
  · rw [hf2 i hi, List.getElem?_map, List.getElem?_map, List.getElem?_range hi]
    rfl
  · rw [List.getElem?_eq_none (by omega), List.getElem?_eq_none (by simp; omega)]
/-- Digests that came in. -/
theorem open_ds {fuel : Nat} {v : Value} {x : DataW H × List MemPlace} (h : DataW.trod enc Tryz.prog W 0 (fun _ => true) held fuel 25 [v] = some x) (hw : ∀ n ∈ x.1.weights Tryz.prog 25, n ≤ reachBytes) :
    ∃ A l c, v = .slice A l.length c ∧ Ds W All A l ∧ l.length ≤ c ∧ l.length * 32 ≤ reachBytes := by
  obtain ⟨A, l, c, h1, h2, h3, h4, _⟩ := open_sls Dig (fun _ => True) Tryz.underlying25 cDigest (by decide) (by kernel_rfl) (fun fuel vs d ps hl h _ => (open_dg fuel vs d ps hl h).imp fun x hx => ⟨hx, trivial⟩) h hw
  exact ⟨A, l, c, h1, h2, h3, h4⟩
set_option maxRecDepth 100000 in
set_option maxHeartbeats 1000000 in
/-- A vote that came in. -/
theorem open_vote (fuel : Nat) (vs : List Value) (d : DataW H) (ps : List MemPlace) (hl : vs.length = 4) (h : DataW.trod enc Tryz.prog W 0 (fun _ => true) held fuel 39 vs = some (d, ps)) (hw : ∀ n ∈ d.weights Tryz.prog 39, n ≤ reachBytes) : ∃ x : Vt, Vot W All vs x ∧ x.Wide := by
  match vs, hl with
  | [v0, v1, v2, v3], _ =>
  obtain ⟨xs, n, _, hx, _, hxl, hf⟩ := DataW.trod_struct Tryz.underlying39 h
  have hxl3 : xs.length = 4 := hxl
  match xs, hxl3 with
  | [y0, y1, y2, y3], _ =>
    have e0 : DataW.trod enc Tryz.prog W 0 (fun _ => true) held n 9 (([v0, v1, v2, v3].drop 0).take (Tryz.prog.cellsOf 9)) = some y0 := hf 0 _ rfl
    rw [cString] at e0
    have e0 : DataW.trod enc Tryz.prog W 0 (fun _ => true) held n 9 [v0] = some y0 := e0
    have e1 : DataW.trod enc Tryz.prog W 0 (fun _ => true) held n 3 (([v0, v1, v2, v3].drop 1).take (Tryz.prog.cellsOf 3)) = some y1 := hf 1 _ rfl
    rw [cInt] at e1
    have e1 : DataW.trod enc Tryz.prog W 0 (fun _ => true) held n 3 [v1] = some y1 := e1
    have e2 : DataW.trod enc Tryz.prog W 0 (fun _ => true) held n 9 (([v0, v1, v2, v3].drop 2).take (Tryz.prog.cellsOf 9)) = some y2 := hf 2 _ rfl
    rw [cString] at e2
    have e2 : DataW.trod enc Tryz.prog W 0 (fun _ => true) held n 9 [v2] = some y2 := e2
    have e3 : DataW.trod enc Tryz.prog W 0 (fun _ => true) held n 25 (([v0, v1, v2, v3].drop 3).take (Tryz.prog.cellsOf 25)) = some y3 := hf 3 _ rfl
    rw [cDigests] at e3
    have e3 : DataW.trod enc Tryz.prog W 0 (fun _ => true) held n 25 [v3] = some y3 := e3
    have ed : d = .agg ([y0, y1, y2, y3].map (·.1)) := congrArg Prod.fst hx
    subst ed
    have hu : Tryz.prog.underlying 39 = some (.struct _) := Tryz.underlying39
    simp only [DataW.weights, hu] at hw
    obtain ⟨z0, g0, _⟩ := DataW.trod_string Tryz.underlying9 e0
    have t0 := str_size e0 (weights_mem (j := 0) hw rfl rfl) (by simpa using g0)
    obtain rfl : v0 = .string z0 := by simpa using g0
    obtain ⟨z1, g1, _⟩ := DataW.trod_int Tryz.underlying3 e1
    obtain rfl : v1 = .int .i64 z1 := by simpa using g1
    obtain ⟨z2, g2, _⟩ := DataW.trod_string Tryz.underlying9 e2
    have t2 := str_size e2 (weights_mem (j := 2) hw rfl rfl) (by simpa using g2)
    obtain rfl : v2 = .string z2 := by simpa using g2
    obtain ⟨A3, z3, c3, rfl, s3, k3, b3⟩ := open_ds e3 (weights_mem (j := 3) hw rfl rfl)
    unfold reachBytes at b3
    exact ⟨⟨z0, z1, z2, z3⟩, ⟨A3, z3.length, c3, rfl, rfl, k3, s3⟩, ⟨by show z0.size ≤ _; omega, by show z2.size ≤ _; omega, by show z3.length ≤ _; omega⟩⟩
/-- Votes that came in. -/
theorem open_vs {fuel : Nat} {v : Value} {x : DataW H × List MemPlace} (h : DataW.trod enc Tryz.prog W 0 (fun _ => true) held fuel 26 [v] = some x) (hw : ∀ n ∈ x.1.weights Tryz.prog 26, n ≤ reachBytes) :
    ∃ A l c, v = .slice A l.length c ∧ Vs W All A l ∧ l.length ≤ c ∧ l.length * 64 ≤ reachBytes ∧ ∀ x ∈ l, x.Wide :=
  open_sls Vot Vt.Wide Tryz.underlying26 cVote (by decide) (by kernel_rfl) (fun fuel vs d ps hl h hw => open_vote fuel vs d ps hl h hw) h hw
set_option maxRecDepth 100000 in
set_option maxHeartbeats 1000000 in
/-- A review that came in. -/
theorem open_review (fuel : Nat) (vs : List Value) (d : DataW H) (ps : List MemPlace) (hl : vs.length = 6) (h : DataW.trod enc Tryz.prog W 0 (fun _ => true) held fuel 28 vs = some (d, ps)) (hw : ∀ n ∈ d.weights Tryz.prog 28, n ≤ reachBytes) : ∃ x : Rv, Rev W All vs x ∧ x.Wide := by
  match vs, hl with
  | [v0, v1, v2, v3, v4, v5], _ =>
  obtain ⟨xs, n, _, hx, _, hxl, hf⟩ := DataW.trod_struct Tryz.underlying28 h
  have hxl3 : xs.length = 6 := hxl
  match xs, hxl3 with
  | [y0, y1, y2, y3, y4, y5], _ =>
    have e0 : DataW.trod enc Tryz.prog W 0 (fun _ => true) held n 3 (([v0, v1, v2, v3, v4, v5].drop 0).take (Tryz.prog.cellsOf 3)) = some y0 := hf 0 _ rfl
    rw [cInt] at e0
    have e0 : DataW.trod enc Tryz.prog W 0 (fun _ => true) held n 3 [v0] = some y0 := e0
    have e1 : DataW.trod enc Tryz.prog W 0 (fun _ => true) held n 9 (([v0, v1, v2, v3, v4, v5].drop 1).take (Tryz.prog.cellsOf 9)) = some y1 := hf 1 _ rfl
    rw [cString] at e1
    have e1 : DataW.trod enc Tryz.prog W 0 (fun _ => true) held n 9 [v1] = some y1 := e1
    have e2 : DataW.trod enc Tryz.prog W 0 (fun _ => true) held n 9 (([v0, v1, v2, v3, v4, v5].drop 2).take (Tryz.prog.cellsOf 9)) = some y2 := hf 2 _ rfl
    rw [cString] at e2
    have e2 : DataW.trod enc Tryz.prog W 0 (fun _ => true) held n 9 [v2] = some y2 := e2
    have e3 : DataW.trod enc Tryz.prog W 0 (fun _ => true) held n 25 (([v0, v1, v2, v3, v4, v5].drop 3).take (Tryz.prog.cellsOf 25)) = some y3 := hf 3 _ rfl
    rw [cDigests] at e3
    have e3 : DataW.trod enc Tryz.prog W 0 (fun _ => true) held n 25 [v3] = some y3 := e3
    have e4 : DataW.trod enc Tryz.prog W 0 (fun _ => true) held n 3 (([v0, v1, v2, v3, v4, v5].drop 4).take (Tryz.prog.cellsOf 3)) = some y4 := hf 4 _ rfl
    rw [cInt] at e4
    have e4 : DataW.trod enc Tryz.prog W 0 (fun _ => true) held n 3 [v4] = some y4 := e4
    have e5 : DataW.trod enc Tryz.prog W 0 (fun _ => true) held n 26 (([v0, v1, v2, v3, v4, v5].drop 5).take (Tryz.prog.cellsOf 26)) = some y5 := hf 5 _ rfl
    rw [cVotes] at e5
    have e5 : DataW.trod enc Tryz.prog W 0 (fun _ => true) held n 26 [v5] = some y5 := e5
    have ed : d = .agg ([y0, y1, y2, y3, y4, y5].map (·.1)) := congrArg Prod.fst hx
    subst ed
    have hu : Tryz.prog.underlying 28 = some (.struct _) := Tryz.underlying28
    simp only [DataW.weights, hu] at hw
    obtain ⟨z0, g0, _⟩ := DataW.trod_int Tryz.underlying3 e0
    obtain rfl : v0 = .int .i64 z0 := by simpa using g0
    obtain ⟨z1, g1, _⟩ := DataW.trod_string Tryz.underlying9 e1
    have t1 := str_size e1 (weights_mem (j := 1) hw rfl rfl) (by simpa using g1)
    obtain rfl : v1 = .string z1 := by simpa using g1
    obtain ⟨z2, g2, _⟩ := DataW.trod_string Tryz.underlying9 e2
    have t2 := str_size e2 (weights_mem (j := 2) hw rfl rfl) (by simpa using g2)
    obtain rfl : v2 = .string z2 := by simpa using g2
    obtain ⟨A3, z3, c3, rfl, s3, k3, b3⟩ := open_ds e3 (weights_mem (j := 3) hw rfl rfl)
    unfold reachBytes at b3
    obtain ⟨z4, g4, _⟩ := DataW.trod_int Tryz.underlying3 e4
    obtain rfl : v4 = .int .i64 z4 := by simpa using g4
    obtain ⟨A5, z5, c5, rfl, s5, k5, b5, m5⟩ := open_vs e5 (weights_mem (j := 5) hw rfl rfl)
    unfold reachBytes at b5
    exact ⟨⟨z0, z1, z2, z3, z4, z5⟩, ⟨A3, z3.length, c3, A5, z5.length, c5, rfl, ⟨rfl, k3, s3⟩, rfl, k5, s5⟩, ⟨by show z1.size ≤ _; omega, by show z2.size ≤ _; omega, by show z3.length ≤ _; omega, by show z5.length ≤ _; omega, m5⟩⟩
/-- Reviews that came in. -/
theorem open_rs {fuel : Nat} {v : Value} {x : DataW H × List MemPlace} (h : DataW.trod enc Tryz.prog W 0 (fun _ => true) held fuel 22 [v] = some x) (hw : ∀ n ∈ x.1.weights Tryz.prog 22, n ≤ reachBytes) :
    ∃ A l c, v = .slice A l.length c ∧ Rs W All A l ∧ l.length ≤ c ∧ l.length * 96 ≤ reachBytes ∧ ∀ x ∈ l, x.Wide :=
  open_sls Rev Rv.Wide Tryz.underlying22 cReview (by decide) (by kernel_rfl) (fun fuel vs d ps hl h hw => open_review fuel vs d ps hl h hw) h hw
set_option maxRecDepth 100000 in
/-- A string that came in. -/
theorem open_str {b0 : Nat} {v : Value} {d : DataW H} {ps : List MemPlace} (hd : DataW.Trod enc Tryz.prog W 0 (fun _ => true) held 9 v d ps) (hw : ∀ n ∈ d.weights Tryz.prog 9, n ≤ reachBytes) (hval : Value.okWide Tryz.prog W .any b0 9 v) :
    ∃ s : ByteArray, v = .string s ∧ s.size ≤ 140737488351232 := by
  obtain ⟨s, rfl⟩ := okWide_string Tryz.underlying9 hval
  obtain ⟨n, h⟩ := hd
  exact ⟨s, rfl, str_size h hw rfl⟩

/-! ### Read again -/
theorem kids : Kids Tryz.prog (· < Tryz.prog.types.size) := kids_rows (by kernel_rfl) (by kernel_rfl)
theorem slices_full : ∀ t e, t < Tryz.prog.types.size → Tryz.prog.underlying t = some (.slice e) → 0 < Tryz.prog.cellsOf e := slices_full_of Tryz.prog (by kernel_rfl)
theorem carryAll {w' : World} {sp : Nat → Bool} : ∀ {ts : List TypeId} {vs : List Value} {ds : List (DataW H)} {ps : List MemPlace}, DataW.TrodAll enc Tryz.prog W 0 sp held ts vs ds ps → (∀ p ∈ ps, W.sameAt w' p) → DataW.TrodAll enc Tryz.prog w' 0 sp held ts vs ds ps
  | [], [], [], _, h, _ => h
  | _ :: _, _ :: _, _ :: _, _, ⟨p, q, ⟨n, h1⟩, h2, e⟩, hs => ⟨p, q, ⟨n, DataW.trod_carry n _ _ _ h1 (fun x hx => hs x (by rw [e]; exact List.mem_append_left _ hx))⟩, carryAll h2 (fun x hx => hs x (by rw [e]; exact List.mem_append_right _ hx)), e⟩
set_option maxRecDepth 100000 in
/-- What a call owes that reads its arguments and makes new memory alone. -/
theorem post_of_ext {f : Func} {s : ChangeSpec} {apart fresh handsOn again : Bool} {W' : World} {args : Array Value} {v : Value} {ds : List (DataW H)} {before : List MemPlace} (hvars : s.vars = [])
    (hW : DataW.Whole enc Tryz.prog f.params.toList s.vars apart W args.toList ds [] before) (hx : Ext W W') (hT : ∀ t ∈ f.params.toList, t < Tryz.prog.types.size)
    (hres : ∀ (b : Nat) (sp : Nat → Bool) (hd : Bool), DataW.TrodAll enc Tryz.prog W' b sp hd f.resultTypes.toList (v.resultList f.resultTypes.size) (s.fn H ds).results [])
    (hargs : (s.fn H ds).args = ds) (hgs : (s.fn H ds).vars = [])
    (hok : ∀ (j : Nat) (t : TypeId) (r : Value), f.resultTypes[j]? = some t → (v.resultList f.resultTypes.size)[j]? = some r → Value.okWide Tryz.prog W' .any 0 t r) :
    s.post enc Tryz.prog f apart fresh handsOn again W args v W' := by
  have hlt := hW.lt
  have hW0 := hW
  obtain ⟨p, q, hA, hV, rfl, hfz, hnd⟩ := hW
  rw [hvars] at hV
  have hq : q = [] := hV
  subst hq
  rw [List.append_nil] at *
  have again' : ∀ sp : Nat → Bool, (∀ x ∈ p, sp x.block = true) → DataW.TrodAll enc Tryz.prog W' 0 sp true f.params.toList args.toList ds p := fun sp hsp =>
    carryAll (DataW.TrodAll.respare kids (fun t e ht hu => slices_full t e ht hu) hT hA hsp) (fun x hx' => hx.same (hlt x hx'))
  have hv' : ∀ sp : Nat → Bool, DataW.TrodVars enc Tryz.prog W' sp s.vars (s.fn H ds).vars [] := fun sp => by rw [hvars, hgs]; exact rfl
  refine ⟨ds, [], p, [], p, [], hW0, ?_, ?_, ?_, World.keptBut_mono (fun x hx' => ⟨hx', Or.inr (Or.inl hx')⟩) (hx.frame (· ∈ p)), fun _ => ?_⟩
  · rw [List.append_nil]; exact hres _ _ _
  · rw [List.append_nil, hargs]; exact again' _ (fun x hx' => by simpa using hlt x hx')
  · rw [List.append_nil]; exact hv' _
  · have hall := trodAll_append (again' (fun _ => true) (fun _ _ => rfl)) (hres 0 (fun _ => true) true)
    have hvv : DataW.TrodVars (H := H) enc Tryz.prog W' (fun _ => true) s.vars [] [] := by rw [hvars]; exact rfl
    have hz : W'.noneFrozen (([] ++ p) ++ []) := fun b off hp => by
      have hp' : MemPlace.cell b off ∈ p := by simpa using hp
      rw [hx.frozen (p := ⟨b, off, none⟩) (hlt _ hp')]
      exact hfz b off hp'
    have hn : apart = true → (([] ++ p) ++ []).Nodup := fun ha => by simpa using hnd ha
    exact ⟨hok, _, [], ([] ++ p) ++ [], ⟨[] ++ p, [], hall, hvv, rfl, hz, hn⟩, fun x hx' _ => by simpa using hx'⟩
end
end Go.Proofs.YtojfgidoobgcaaaGreatDoor
namespace Go.Proofs.YtojfgidoobgcaaaGreatDoor
open Go Go.ChangeShapes Go.WideShapes Go.RowKit Go.Deep

theorem cAct : Tryz.prog.cellsOf 49 = 11 := by kernel_rfl
instance : Inhabited Vw.Ac := ⟨⟨0, 0, ⟨#[]⟩, ⟨#[]⟩, [], default, 0, 0⟩⟩
section
variable {H : Type} {enc : TypeId × Value → H} {W : World} {held : Bool}
set_option maxRecDepth 100000 in
set_option maxHeartbeats 1000000 in
/-- An act that came in. -/
theorem open_act (fuel : Nat) (vs : List Value) (d : DataW H) (ps : List MemPlace) (hl : vs.length = 11) (h : DataW.trod enc Tryz.prog W 0 (fun _ => true) held fuel 49 vs = some (d, ps)) (hw : ∀ n ∈ d.weights Tryz.prog 49, n ≤ reachBytes) : ∃ x : Vw.Ac, ActR W All vs x ∧ x.Wide := by
  match vs, hl with
  | [v0, v1, v2, v3, v4, v5, v6, v7, v8, v9, v10], _ =>
  obtain ⟨xs, n, _, hx, _, hxl, hf⟩ := DataW.trod_struct Tryz.underlying49 h
  have hxl3 : xs.length = 8 := hxl
  match xs, hxl3 with
  | [y0, y1, y2, y3, y4, y5, y6, y7], _ =>
    have e0 : DataW.trod enc Tryz.prog W 0 (fun _ => true) held n 3 (([v0, v1, v2, v3, v4, v5, v6, v7, v8, v9, v10].drop 0).take (Tryz.prog.cellsOf 3)) = some y0 := hf 0 _ rfl
    rw [cInt] at e0
    have e0 : DataW.trod enc Tryz.prog W 0 (fun _ => true) held n 3 [v0] = some y0 := e0
    have e1 : DataW.trod enc Tryz.prog W 0 (fun _ => true) held n 3 (([v0, v1, v2, v3, v4, v5, v6, v7, v8, v9, v10].drop 1).take (Tryz.prog.cellsOf 3)) = some y1 := hf 1 _ rfl
    rw [cInt] at e1
    have e1 : DataW.trod enc Tryz.prog W 0 (fun _ => true) held n 3 [v1] = some y1 := e1
    have e2 : DataW.trod enc Tryz.prog W 0 (fun _ => true) held n 9 (([v0, v1, v2, v3, v4, v5, v6, v7, v8, v9, v10].drop 2).take (Tryz.prog.cellsOf 9)) = some y2 := hf 2 _ rfl
    rw [cString] at e2
    have e2 : DataW.trod enc Tryz.prog W 0 (fun _ => true) held n 9 [v2] = some y2 := e2
    have e3 : DataW.trod enc Tryz.prog W 0 (fun _ => true) held n 9 (([v0, v1, v2, v3, v4, v5, v6, v7, v8, v9, v10].drop 3).take (Tryz.prog.cellsOf 9)) = some y3 := hf 3 _ rfl
    rw [cString] at e3
    have e3 : DataW.trod enc Tryz.prog W 0 (fun _ => true) held n 9 [v3] = some y3 := e3
    have e4 : DataW.trod enc Tryz.prog W 0 (fun _ => true) held n 25 (([v0, v1, v2, v3, v4, v5, v6, v7, v8, v9, v10].drop 4).take (Tryz.prog.cellsOf 25)) = some y4 := hf 4 _ rfl
    rw [cDigests] at e4
    have e4 : DataW.trod enc Tryz.prog W 0 (fun _ => true) held n 25 [v4] = some y4 := e4
    have e5 : DataW.trod enc Tryz.prog W 0 (fun _ => true) held n 39 (([v0, v1, v2, v3, v4, v5, v6, v7, v8, v9, v10].drop 5).take (Tryz.prog.cellsOf 39)) = some y5 := hf 5 _ rfl
    rw [cVote] at e5
    have e5 : DataW.trod enc Tryz.prog W 0 (fun _ => true) held n 39 [v5, v6, v7, v8] = some y5 := e5
    have e6 : DataW.trod enc Tryz.prog W 0 (fun _ => true) held n 3 (([v0, v1, v2, v3, v4, v5, v6, v7, v8, v9, v10].drop 9).take (Tryz.prog.cellsOf 3)) = some y6 := hf 6 _ rfl
    rw [cInt] at e6
    have e6 : DataW.trod enc Tryz.prog W 0 (fun _ => true) held n 3 [v9] = some y6 := e6
    have e7 : DataW.trod enc Tryz.prog W 0 (fun _ => true) held n 3 (([v0, v1, v2, v3, v4, v5, v6, v7, v8, v9, v10].drop 10).take (Tryz.prog.cellsOf 3)) = some y7 := hf 7 _ rfl
    rw [cInt] at e7
    have e7 : DataW.trod enc Tryz.prog W 0 (fun _ => true) held n 3 [v10] = some y7 := e7
    have ed : d = .agg ([y0, y1, y2, y3, y4, y5, y6, y7].map (·.1)) := congrArg Prod.fst hx
    subst ed
    have hu : Tryz.prog.underlying 49 = some (.struct _) := Tryz.underlying49
    simp only [DataW.weights, hu] at hw
    obtain ⟨z0, g0, _⟩ := DataW.trod_int Tryz.underlying3 e0
    obtain rfl : v0 = .int .i64 z0 := by simpa using g0
    obtain ⟨z1, g1, _⟩ := DataW.trod_int Tryz.underlying3 e1
    obtain rfl : v1 = .int .i64 z1 := by simpa using g1
    obtain ⟨z2, g2, _⟩ := DataW.trod_string Tryz.underlying9 e2
    have t2 := str_size e2 (weights_mem (j := 2) hw rfl rfl) (by simpa using g2)
    obtain rfl : v2 = .string z2 := by simpa using g2
    obtain ⟨z3, g3, _⟩ := DataW.trod_string Tryz.underlying9 e3
    have t3 := str_size e3 (weights_mem (j := 3) hw rfl rfl) (by simpa using g3)
    obtain rfl : v3 = .string z3 := by simpa using g3
    obtain ⟨A4, z4, c4, rfl, s4, k4, b4⟩ := open_ds e4 (weights_mem (j := 4) hw rfl rfl)
    unfold reachBytes at b4
    obtain ⟨z5, Q5, mw5⟩ := open_vote n _ _ _ rfl e5 (weights_mem (j := 5) hw rfl rfl)
    obtain ⟨X, p, q, hvs, hp, hpq, hdv⟩ := Q5
    cases hvs
    obtain ⟨z6, g6, _⟩ := DataW.trod_int Tryz.underlying3 e6
    obtain rfl : v9 = .int .i64 z6 := by simpa using g6
    obtain ⟨z7, g7, _⟩ := DataW.trod_int Tryz.underlying3 e7
    obtain rfl : v10 = .int .i64 z7 := by simpa using g7
    exact ⟨⟨z0, z1, z2, z3, z4, z5, z6, z7⟩, ⟨A4, z4.length, c4, X, p, q, rfl, ⟨rfl, k4, s4⟩, hp, hpq, hdv⟩, ⟨by show z2.size ≤ _; omega, by show z3.size ≤ _; omega, by show z4.length ≤ _; omega, by show 1 ≤ _; omega, fun v hv => by
      obtain rfl : v = z5 := by simpa [Vw.Ac.rv] using hv
      exact mw5⟩⟩
/-- Acts that came in. -/
theorem open_acts {fuel : Nat} {v : Value} {x : DataW H × List MemPlace} (h : DataW.trod enc Tryz.prog W 0 (fun _ => true) held fuel 55 [v] = some x) (hw : ∀ n ∈ x.1.weights Tryz.prog 55, n ≤ reachBytes) :
    ∃ A l c, v = .slice A l.length c ∧ As W All A l ∧ l.length ≤ c ∧ l.length * 152 ≤ reachBytes ∧ ∀ x ∈ l, x.Wide :=
  open_sls ActR Vw.Ac.Wide Tryz.underlying55 cAct (by decide) (by kernel_rfl) (fun fuel vs d ps hl h hw => open_act fuel vs d ps hl h hw) h hw
end
end Go.Proofs.YtojfgidoobgcaaaGreatDoor
namespace Go.Proofs.YtojfgidoobgcaaaGreatDoor
open Go Go.RowKit Go.Shelf
attribute [local go_sem] Oper.semAt_some

section
variable {P : Program}
/-- What the iterator promises of its rounds: I: between two rounds; Y: where it calls yield; J: where a round has gone on; X: where one has left. T, Tx: what holds of the loop's own records. -/
def RoundsV {α : Type} (P : Program) (n : Nat) (gf : Nat) (lb : Array Value) (encs : α → Array Value) (I : Nat → World → Prop) (Y J : Nat → α → World → Prop) (X : World → Prop) (N : Nat) : Prop :=
  ∀ (l : Nat) (T Tx : World → Prop) (W : World), (∀ A B, KeepsOthers A B → T A → T B) → (∀ A B, KeepsOthers A B → Tx A → Tx B) →
    (∀ k x W1, Y k x W1 → T W1 → YieldAt Fence.wide (n - 1) P l (encs x) W1 fun e W' => (e = .returned (.bool true) ∧ J k x W' ∧ T W') ∨ (e = .returned (.bool false) ∧ X W' ∧ Tx W')) →
    I 0 W → T W →
    CallsIn Fence.wide n P gf (#[.func (.yield l) #[] #[]] ++ lb) W fun e W' => (∃ v, e = .returned v) ∧ ((I N W' ∧ T W') ∨ (X W' ∧ Tx W'))

theorem wpIn_range_leaveV {α : Type} {g : Operand} {ps : Array Tmp} {assign body : Code} {Q : Exit → Act → World → Prop} {a : Act} {w : World} {n : Nat}
    {gf : Nat} {lb : Array Value} (hg : a.eval g = .func (.func gf) #[] lb) (eg : ∀ args w, (callFunc gf args).run P w = .ok (.enter gf args) w)
    {encs : α → Array Value} {I : Nat → World → Prop} {Y J : Nat → α → World → Prop} {X : World → Prop} {N : Nat} (hseq : RoundsV P (n - 1) gf lb encs I Y J X N) (hps : ∀ x, (encs x).size = ps.size)
    (A : Nat → α → Act → World → Prop)
    (hI : ∀ k, Steady w.heap.size (I k)) (hA : ∀ k x a', Steady w.heap.size (A k x a')) (hJ : ∀ k x, Steady w.heap.size (J k x)) (hX : Steady w.heap.size X) (h0 : I 0 w)
    (hassign : ∀ (l k : Nat) (x : α) (W : World) (K : Act → World → Prop), Y k x W → (∀ a' W', KeepsOthers W W' → A k x a' W' → K a' W') →
      assign.wpIn (Fence.wide.inRound l) (n - 1 - 1) P (Exit.then K (fun _ _ _ => False)) { tmps := (ps.zip (encs x)).foldl (fun t (p, v) => t.setIfInBounds p v) a.tmps, defers := [] } W)
    (hbody : ∀ (l k : Nat) (x : α) (a' : Act) (W : World), A k x a' W → body.wpIn (Fence.wide.inRound l) (n - 1 - 1) P (leaves J X k x W) a' W)
    (hdone : ∀ (D : Nat) (W : World), w.heap.size ≤ D → I N W → W.heap[D]? = some (.deferred (some [])) → Q .normal { a with defers := { target := .collected D, args := #[] } :: a.defers } W)
    (hstop : ∀ (D : Nat) (W : World), w.heap.size ≤ D → X W → W.heap[D]? = some (.deferred (some [])) → Code.ret.wpIn Fence.wide n P Q { a with defers := { target := .collected D, args := #[] } :: a.defers } W) :
    (Code.rangeFunc g ps assign body).wpIn Fence.wide n P Q a w := by
  refine wpIn_rangeFunc fun fn hfn => ?_
  let rec_ : LoopState → Option Code → Loop := fun st pe => { state := st, pending := pe, fn := fn, tmps := a.tmps, params := ps, assign := assign, body := body, defers := w.heap.size }
  let W1 : World := (w.alloc (.deferred (some []))).alloc (.loop (rec_ .ready none))
  have hL1 : W1.heap[w.heap.size + 1]? = some (.loop (rec_ .ready none)) := by
    have := World.alloc_heap_new (w.alloc (.deferred (some []))) (.loop (rec_ .ready none)); rwa [World.size_alloc] at this
  have hD1 : W1.heap[w.heap.size]? = some (.deferred (some [])) := (Below.heap_alloc _ _ _ (by simp)).trans (World.alloc_heap_new w _)
  refine ⟨w.heap.size + 1, [{ target := .collected w.heap.size, args := #[] }], W1, { target := .fn (.func gf) lb, args := #[.func (.yield (w.heap.size + 1)) #[] #[]] }, W1, gf,
    #[.func (.yield (w.heap.size + 1)) #[] #[]] ++ lb, W1, run_enterLoop_outer _ _ _ _ _, ?_, fun f' hf' => trivial, ?_, fun h => (by cases h), ?_⟩
  · simp only [resolve, hg]
    simp [go_sem]
  · simp [invoke, go_sem, eg]
  · refine (hseq (w.heap.size + 1) (fun W => W.heap[w.heap.size + 1]? = some (.loop (rec_ .ready none)) ∧ W.heap[w.heap.size]? = some (.deferred (some [])))
      (fun W => W.heap[w.heap.size + 1]? = some (.loop (rec_ .done (some .ret))) ∧ W.heap[w.heap.size]? = some (.deferred (some []))) W1
      (fun A B hk h => ⟨hk.same _ _ h.1 rfl, hk.same _ _ h.2 rfl⟩) (fun A B hk h => ⟨hk.same _ _ h.1 rfl, hk.same _ _ h.2 rfl⟩) ?_ ((hI 0).alloc _ ((hI 0).alloc _ h0)) ⟨hL1, hD1⟩).mono ?_
    · rintro k x W0 hy0 ⟨hl0, hd0⟩
      have hy := run_yield (P := P) (args := encs x) hl0 (hps x)
      refine ⟨fn, _, assign, body, hy, roundIn_of_wpIn hfn (hassign _ k x W0 _ hy0 fun a' W hkw hax => ⟨_, run_beginRound (hkw.same _ _ hl0 rfl) rfl, ?_⟩)⟩
      have hl := hkw.same _ _ hl0 rfl
      have hd := hkw.same _ _ hd0 rfl
      have hlt : w.heap.size + 1 < W.heap.size := (Array.getElem?_eq_some_iff.1 hl).1
      have hl2 : (W.putObj (w.heap.size + 1) (.loop { rec_ .ready none with state := .busy })).heap[w.heap.size + 1]? = some (.loop { rec_ .ready none with state := .busy }) := World.putObj_heap_same hlt
      have hd2 : (W.putObj (w.heap.size + 1) (.loop { rec_ .ready none with state := .busy })).heap[w.heap.size]? = some (.deferred (some [])) := (World.putObj_heap_other (by omega)).trans hd
      refine wpIn_mono (hbody _ k x a' _ ((hA k x a').putObj _ hax (by omega) hl rfl)) ?_
      rintro e a3 W3 hp
      cases e with
      | normal =>
        obtain ⟨hk3, hj3⟩ := hp
        have hl3 := hk3.same _ _ hl2 rfl
        exact ⟨_, _, run_endRound (P := P) none hl3, .inl ⟨rfl, (hJ k x).putObj _ hj3 (by omega) hl3 rfl, World.putObj_heap_same (Array.getElem?_eq_some_iff.1 hl3).1, (World.putObj_heap_other (by omega)).trans (hk3.same _ _ hd2 rfl)⟩⟩
      | ret =>
        obtain ⟨hk3, hj3⟩ := hp
        have hl3 := hk3.same _ _ hl2 rfl
        exact ⟨_, _, run_endRound (P := P) (some .ret) hl3, .inr ⟨rfl, hX.putObj _ hj3 (by omega) hl3 rfl, World.putObj_heap_same (Array.getElem?_eq_some_iff.1 hl3).1, (World.putObj_heap_other (by omega)).trans (hk3.same _ _ hd2 rfl)⟩⟩
      | exit id => exact hp.elim
      | goto t => exact hp.elim
      | panic ch => exact hp.elim
      | outgrown => exact hp.elim
    · rintro e W2 ⟨⟨v, rfl⟩, (⟨hi, hl, hd⟩ | ⟨hi, hl, hd⟩)⟩
      · exact ⟨none, _, run_endLoop (P := P) hl (by simp [rec_]), hdone _ _ (Nat.le_refl _) ((hI N).putObj _ hi (by omega) hl rfl) ((World.putObj_heap_other (by omega)).trans hd)⟩
      · exact ⟨some .ret, _, run_endLoop (P := P) hl (by simp [rec_]), hstop _ _ (Nat.le_refl _) (hX.putObj _ hi (by omega) hl rfl) ((World.putObj_heap_other (by omega)).trans hd)⟩
end
theorem Ext.steadyV (w : World) {B : Nat} (hB : w.heap.size ≤ B) : Steady B (Ext w) := fun W W' row hi hg hr => Below.grown hi hg hi.size_le (fun k e => Nat.le_trans hB (hr k e).1)
set_option maxHeartbeats 400000 in
theorem bwd_same (A : Option Addr) (n c : Nat) (w : World) :
    Calls Tryz.prog 63 #[.slice A n c] w fun e w' => e = .returned (.func (.func 85) #[] #[.pointer (some ⟨w.heap.size, 0, none⟩)]) ∧ w.alloc (.cells #[.slice A n c] 26) = w' := by
  go_enter Tryz.func63, Tryz.ntmps63
  go_wp2
  go_ret
  simp
set_option maxHeartbeats 8000000 in
set_option maxRecDepth 100000 in
theorem bwd1_gives (n0 : Nat) (hn0 : 3 ≤ n0) (z : Nat) (A : Option Addr) (n c : Nat) (l : List Vt) (hn : l.length = n) (hb : n ≤ 1000000000) (w0 : World) (hvs : Vs w0 All A l) (I : Nat → World → Prop) (X : World → Prop)
    (hbox : ∀ k W, I k W → Blk W z 26 #[.slice A n c] ∧ Ext w0 W) (hext : ∀ k W W', I k W → Ext W W' → I k W') :
    RoundsV Tryz.prog n0 85 #[.pointer (some ⟨z, 0, none⟩)] (fun x : Nat × List Value => #[.int .i64 x.1, .agg x.2.toArray]) I (fun k x W => I k W ∧ x.1 + (k + 1) = n ∧ ∃ v, l[x.1]? = some v ∧ Vot w0 All x.2 v) (fun k x W => I (k + 1) W) X n := by
  intro l' T Tx W hT hTx hY h0 hT0
  have HY := Lib.hid hY
  have HB := Lib.hid hbox
  have HVS := Lib.hid hvs
  have HE := Lib.hid hext
  have H0 := Lib.hid h0
  have HT0 := Lib.hid hT0
  have HTK := Lib.hid hT
  have HN := Lib.hid hn
  have hb0 := (hbox 0 W h0).1
  have hc0 := hb0.cell
  have hl0 := hb0.lt
  clear hY hT hTx h0 hT0 hbox hext hn hb0 hvs
  refine callsIn_of_wp Tryz.func85 rfl trivial ?_ rfl
  simp only [Tryz.ntmps85, List.size_toArray, List.length_cons, List.length_nil, Nat.reduceAdd, Nat.reduceSub, Array.replicate_succ, Array.replicate_zero, List.push_toArray, List.append_toArray, List.nil_append, List.cons_append]
  gi_wp2
  clear hc0 hl0
  gi_loopw [3] (fun u wr => ∃ i k : Nat, i + k = n ∧ u = .int .i64 ((i : Int) - 1) ∧ Hid (I k wr) ∧ Hid (T wr)) (fun u wr => (intOf u + 1).toNat)
  case atStart => exact ⟨n, 0, by omega, rfl, H0, HT0⟩
  case round =>
    clear H0 HT0
    obtain ⟨i, k, hk, rfl, HI, HT⟩ := hrel
    obtain ⟨hbz, hx⟩ := HB.out k wr HI.out
    have hcz := hbz.cell
    have hlz := hbz.lt
    clear hbz
    cases i with
    | zero =>
      have hkn : k = n := by omega
      subst hkn
      clear hx
      gi_wp2
      go_end0
      exact ⟨⟨_, rfl⟩, .inl ⟨HI.out, HT.out⟩⟩
    | succ i =>
      have e9 : (((i + 1 : Nat) : Int) - 1) = (i : Int) := by omega
      rw [e9]
      clear e9
      have hil : i < l.length := by rw [HN.out]; omega
      have hin : i < n := by omega
      have e1 : l[i]? = some (l[i]'hil) := List.getElem?_eq_getElem hil
      obtain ⟨b, o, cs, rfl, hbl, _, _, hr, hv⟩ := HVS.out.get e1
      generalize l[i]'hil = v at e1 hv
      obtain ⟨fn, tmps, assign, body, hy, hR⟩ := HY.out k (i, cs) wr ⟨HI.out, by omega, v, e1, hv⟩ HT.out
      obtain ⟨A', n', m', rfl, _, _, _⟩ := hv
      obtain ⟨c0, c1, c2, c3⟩ := cells4 hr
      rw [← hx.cell (p := ⟨b, _, none⟩) hbl] at c0 c1 c2 c3
      have hbl := Nat.lt_of_lt_of_le hbl hx.size_le
      have HR := Lib.hid hR
      clear hR e1 HI HT hil hr hx
      gi_wp2
      refine ⟨fun _ => (by omega), HR.out.mono ?_⟩
      rintro e W4 (⟨rfl, hJ, hT4⟩ | ⟨rfl, hX4, hTx4⟩)
      · have HJ := Lib.hid hJ
        have HT4 := Lib.hid hT4
        clear hJ hT4 HR c0 c1 c2 c3 hbl hcz hlz
        gi_wp2
        go_roundw
        case rel => exact ⟨i, k + 1, by omega, rfl, HJ, HT4⟩
        case measure => simp [intOf]
      · have HE := Lib.hid (⟨hX4, hTx4⟩ : _ ∧ _)
        clear hX4 hTx4 HR c0 c1 c2 c3 hbl hcz hlz
        gi_wp2
        refine bodyPost_ret (results_none rfl _ _ _) rfl ?_
        exact ⟨⟨_, rfl⟩, .inr HE.out⟩

theorem Blk.convV {w : World} {g : Nat} {t : TypeId} {cs cs' : Array Value} (h : Blk w g t cs) (e : cs = cs') : Blk w g t cs' := e ▸ h
/-- What the search looks for. -/
def Vw.bears (r : Rv) (who : ByteArray) (v : Vt) : Bool := Qm.eqB v.who who && (v.kind != 3 && decide (v.ids = r.ids))
theorem Vw.lastKind_hit {r : Rv} {who : ByteArray} {v : Vt} {k i : Nat} (h : ∀ j, j < k → ∀ v, r.votes.reverse[j]? = some v → Vw.bears r who v = false) (hv : r.votes[i]? = some v) (hi : i + (k + 1) = r.votes.length) (hb : Vw.bears r who v = true) : Vw.lastKind r who = v.kind := by
  have hk : r.votes.reverse[k]? = some v := by
    rw [List.getElem?_reverse (by omega), ← hv]
    congr 1
    omega
  obtain ⟨hlt, e⟩ := List.getElem?_eq_some_iff.1 hk
  have hf : r.votes.reverse.find? (Vw.bears r who) = some v := by
    rw [List.find?_eq_some_iff_getElem]
    refine ⟨hb, k, hlt, e, fun j hj => ?_⟩
    have := h j hj _ (List.getElem?_eq_getElem (by omega))
    simpa using this
  unfold Vw.lastKind
  have e2 : (fun v : Vt => Qm.eqB v.who who && (v.kind != 3 && decide (v.ids = r.ids))) = Vw.bears r who := rfl
  rw [e2, hf]
theorem Vw.lastKind_none {r : Rv} {who : ByteArray} (h : ∀ j, j < r.votes.length → ∀ v, r.votes.reverse[j]? = some v → Vw.bears r who v = false) : Vw.lastKind r who = 0 := by
  have hf : r.votes.reverse.find? (Vw.bears r who) = none := by
    rw [List.find?_eq_none]
    intro x hx
    obtain ⟨j, hj⟩ := List.getElem?_of_mem hx
    have hl := (List.getElem?_eq_some_iff.1 hj).1
    rw [List.length_reverse] at hl
    simp [h j hl x hj]
  unfold Vw.lastKind
  have e2 : (fun v : Vt => Qm.eqB v.who who && (v.kind != 3 && decide (v.ids = r.ids))) = Vw.bears r who := rfl
  rw [e2, hf]
/-- Between two rounds of the search. -/
structure Search (w : World) (rc : Array Value) (who : ByteArray) (A : Option Addr) (n c : Nat) (r : Rv) (k : Nat) (W : World) : Prop where
  r0 : Blk W w.heap.size 28 rc
  r1 : Blk W (w.heap.size + 1) 9 #[.string who]
  r2 : Blk W (w.heap.size + 2) 3 #[.int .i64 0]
  r3 : Blk W (w.heap.size + 3) 26 #[.slice A n c]
  ext : Ext w W
  before : ∀ j, j < k → ∀ v, r.votes.reverse[j]? = some v → Vw.bears r who v = false
/-- Where one is found. -/
def SFound (w : World) (r : Rv) (who : ByteArray) (W : World) : Prop := Blk W (w.heap.size + 2) 3 #[.int .i64 (Vw.lastKind r who)] ∧ Ext w W
theorem Search.into {w : World} {rc : Array Value} {who : ByteArray} {A : Option Addr} {n c : Nat} {r : Rv} {k : Nat} {W W' : World} (h : Search w rc who A n c r k W) (hx : Ext W W') : Search w rc who A n c r k W' :=
  ⟨h.r0.ext hx, h.r1.ext hx, h.r2.ext hx, h.r3.ext hx, h.ext.trans hx, h.before⟩
theorem Search.steady {w : World} {rc : Array Value} {who : ByteArray} {A : Option Addr} {n c : Nat} {r : Rv} {B : Nat} (hB : w.heap.size ≤ B) (k : Nat) : Steady B (Search w rc who A n c r k) := fun W W' row h hg hr => by
  have ht : Turned W W' := ⟨row, hg, fun r e => (hr r e).2⟩
  exact ⟨h.r0.turned ht, h.r1.turned ht, h.r2.turned ht, h.r3.turned ht, Ext.steadyV w hB W W' row h.ext hg hr, h.before⟩
theorem SFound.steady {w : World} {r : Rv} {who : ByteArray} {B : Nat} (hB : w.heap.size ≤ B) : Steady B (SFound w r who) := fun W W' row h hg hr => by
  have ht : Turned W W' := ⟨row, hg, fun r e => (hr r e).2⟩
  exact ⟨h.1.turned ht, Ext.steadyV w hB W W' row h.2 hg hr⟩
theorem Search.next {w : World} {rc : Array Value} {who : ByteArray} {A : Option Addr} {n c : Nat} {r : Rv} {k i : Nat} {v : Vt} {W : World} (h : Search w rc who A n c r k W) (hv : r.votes[i]? = some v) (hi : i + (k + 1) = r.votes.length) (hb : Vw.bears r who v = false) : Search w rc who A n c r (k + 1) W :=
  ⟨h.r0, h.r1, h.r2, h.r3, h.ext, fun j hj x hx => by
    rcases Nat.lt_succ_iff_lt_or_eq.1 hj with h1 | rfl
    · exact h.before j h1 x hx
    · rw [List.getElem?_reverse (by omega), show r.votes.length - 1 - j = i by omega, hv] at hx
      obtain rfl := Option.some.inj hx
      exact hb⟩

set_option maxHeartbeats 16000000 in
set_option maxRecDepth 100000 in
theorem last_in (n0 : Nat) (hn0 : 9 ≤ n0) (rc : List Value) (r : Rv) (who : ByteArray) (w : World) (h : Rev w All rc r) (hf : r.Fits) :
    CallsIn Fence.wide n0 Tryz.prog 38 #[.agg rc.toArray, .string who] w (fun e w' => e = .returned (.int .i64 (Vw.lastKind r who)) ∧ Ext w w') := by
  obtain ⟨P1, i1, j1, Q, n, c, rfl, ⟨hi1, hij1, hids⟩, hn, hnc, hvs⟩ := h
  have hb : n ≤ 1000000000 := by rw [← hn]; exact hf.votes
  have hib : i1 ≤ 1000000000 := by rw [← hi1]; exact hf.ids
  have HV := Lib.hid hvs
  have HD := Lib.hid hids
  have HN := Lib.hid hn
  have HI1 := Lib.hid hi1
  have HF := Lib.hid hf.each
  have HGV := Lib.hid (fun n1 (h1 : 3 ≤ n1) => bwd1_gives n1 h1 (w.heap.size + 3) Q n c r.votes hn hb w hvs (Search w #[.int .i64 r.number, .string r.author, .string r.branch, .slice P1 i1 j1, .int .i64 r.state, .slice Q n c] who Q n c r) (SFound w r who) (fun k W h => ⟨h.r3, h.ext⟩) (fun k W W' h hx => h.into hx))
  clear hn hnc hi1 hij1 hvs hids hf
  refine callsIn_of_wp_marks Tryz.func38 rfl trivial ?_ rfl
  simp only [Tryz.ntmps38, List.size_toArray, List.length_cons, List.length_nil, Nat.reduceAdd, Nat.reduceSub, Array.replicate_succ, Array.replicate_zero, List.push_toArray, List.append_toArray, List.nil_append, List.cons_append]
  gi_wp2_with (refine ⟨trivial, fun _ => (by omega), ?_⟩; gi_at_call 63; refine (callsIn_wide.2 (bwd_same _ _ _ _)).mono ?_; rintro e w1 ⟨rfl, hww⟩; first | obtain rfl := hww.symm | obtain rfl := hww)
  have HB0 : Hid (Search w #[.int .i64 r.number, .string r.author, .string r.branch, .slice P1 i1 j1, .int .i64 r.state, .slice Q n c] who Q n c r 0 ((((w.alloc (.cells #[.int .i64 r.number, .string r.author, .string r.branch, .slice P1 i1 j1, .int .i64 r.state, .slice Q n c] 28)).alloc (.cells #[.string who] 9)).alloc (.cells #[.int .i64 0] 3)).alloc (.cells #[.slice Q n c] 26))) := Lib.hid
    ⟨Blk.alloc (Blk.alloc (Blk.alloc (Blk.new' rfl) _) _) _, Blk.alloc (Blk.alloc (Blk.new' (by simp)) _) _, Blk.alloc (Blk.new' (by simp)) _, Blk.new' (by simp), ((((Ext.refl w).alloc _).alloc _).alloc _).alloc _, fun j hj => absurd hj (Nat.not_lt_zero j)⟩
  refine wpIn_range_leaveV (gf := 85) (lb := #[.pointer (some ⟨w.heap.size + 1 + 1 + 1, 0, none⟩)]) rfl (enters_of Tryz.func85 (by kernel_rfl) rfl) (encs := fun x : Nat × List Value => #[.int .i64 x.1, .agg x.2.toArray]) (HGV.out (n0 - 1) (by omega)) (fun _ => rfl)
    (fun k x a' W => ∃ g v, Search w #[.int .i64 r.number, .string r.author, .string r.branch, .slice P1 i1 j1, .int .i64 r.state, .slice Q n c] who Q n c r k W ∧ x.1 + (k + 1) = n ∧ r.votes[x.1]? = some v ∧ Vot w All x.2 v ∧ Blk W g 39 x.2.toArray ∧ a' = { tmps := #[.agg #[.int .i64 r.number, .string r.author, .string r.branch, .slice P1 i1 j1, .int .i64 r.state, .slice Q n c], .string who, .pointer (some ⟨w.heap.size, 0, none⟩), .pointer (some ⟨w.heap.size + 1, 0, none⟩), .pointer (some ⟨w.heap.size + 1 + 1, 0, none⟩), undef, .pointer (some ⟨g, 0, none⟩), .pointer (some ⟨w.heap.size, 5, none⟩), .slice Q n c, .func (.func 85) #[] #[.pointer (some ⟨w.heap.size + 1 + 1 + 1, 0, none⟩)], .int .i64 x.1, .agg x.2.toArray, undef, undef, undef, undef, undef, undef, undef, undef, undef, undef, undef, undef, undef, undef, undef, undef, undef, undef], defers := [] })
    (fun k => Search.steady (by simp; omega) k) ?stA (fun k x => Search.steady (by simp; omega) (k + 1)) (SFound.steady (by simp; omega)) HB0.out ?assign ?body ?done ?stop
  case stA =>
    rintro k x a' W W' row ⟨g, v, h1, h2, h3, h4, h5, h6⟩ hg hr
    exact ⟨g, v, Search.steady (by simp; omega) k W W' row h1 hg hr, h2, h3, h4, h5.turned ⟨row, hg, fun r e => (hr r e).2⟩, h6⟩
  case assign =>
    rintro l' k ⟨x1, cs⟩ W K ⟨hA, hx1, v, hf, hvt⟩ hK
    have HA := Lib.hid hA
    have HK := Lib.hid hK
    have HF := Lib.hid hf
    have HVT := Lib.hid hvt
    have HX1 := Lib.hid hx1
    obtain ⟨A', n', m', e, _, _, _⟩ := hvt
    dsimp only at e
    subst e
    clear hA hK HGV HB0 hf hx1
    gi_wp2
    exact HK.out _ _ ((Ext.refl W).alloc _).keeps ⟨_, v, HA.out.into ((Ext.refl W).alloc _), HX1.out, HF.out, HVT.out, Blk.new' rfl, rfl⟩
  case body =>
    rintro l' k ⟨x1, cs⟩ a' W ⟨g, v, hL, hx1, hv, hvt, hbg, rfl⟩
    clear HGV HB0
    dsimp only at hx1 hv hvt hbg
    have fv := HF.out _ (List.mem_of_getElem? hv)
    have hxl : x1 + (k + 1) = r.votes.length := by rw [HN.out]; exact hx1
    obtain ⟨A', n', m', rfl, hn', _, hd'⟩ := hvt
    have hnb : n' ≤ 1000000000 := by rw [← hn']; exact fv.ids
    obtain ⟨s, hs⟩ : ∃ s, s = decide (v.ids = r.ids) := ⟨_, rfl⟩
    have HEQ : Hid (∀ W', Ext W W' → Calls Tryz.prog 35 #[.slice A' n' m', .slice P1 i1 j1] W' (Ret (.bool s) W')) := Lib.hid fun W' hW => by rw [hs]; exact dsame_any A' P1 n' m' i1 j1 v.ids r.ids W' (Ds.ext hd' (hL.ext.trans hW)) (Ds.ext HD.out (hL.ext.trans hW)) hn' HI1.out hnb hib
    have HBE : Hid (Vw.bears r who v = (Qm.eqB v.who who && (v.kind != 3 && s))) := Lib.hid (by rw [hs]; rfl)
    have HZ0 : Hid (∀ W', Ext W W' → Vw.bears r who v = false → KeepsOthers W W' ∧ Search w #[.int .i64 r.number, .string r.author, .string r.branch, .slice P1 i1 j1, .int .i64 r.state, .slice Q n c] who Q n c r (k + 1) W') := Lib.hid fun W' hW hb => ⟨hW.keeps, (hL.next hv hxl hb).into hW⟩
    have HZ1 : Hid (∀ W', Ext W W' → Vw.bears r who v = true → KeepsOthers W (W'.setCell ⟨w.heap.size + 1 + 1, 0, none⟩ (.int .i64 v.kind)) ∧ SFound w r who (W'.setCell ⟨w.heap.size + 1 + 1, 0, none⟩ (.int .i64 v.kind))) := Lib.hid fun W' hW hb => by
      have hL' := hL.into hW
      refine ⟨hW.keeps.trans (KeepsOthers.setCell _ _ _), ?_, Ext.setCell (p := ⟨w.heap.size + 1 + 1, 0, none⟩) hL'.ext (by show w.heap.size ≤ w.heap.size + 1 + 1; omega) _⟩
      rw [Vw.lastKind_hit hL.before hv hxl hb]
      exact Blk.convV (hL'.r2.set_ 0 (.int .i64 v.kind)) (by simp)
    have HR2 : Hid (∀ W', Ext W W' → Blk W' (w.heap.size + 1 + 1) 3 #[.int .i64 0] ∧ Blk W' g 39 #[.string v.who, .int .i64 v.kind, .string v.text, .slice A' n' m']) := Lib.hid fun W' hW => ⟨(hL.into hW).r2, hbg.ext hW⟩
    obtain ⟨hcg, hfg, hlg⟩ := hbg.all
    obtain ⟨hc0, hf0, hl0⟩ := hL.r0.all
    obtain ⟨hc1, hf1, hl1⟩ := hL.r1.all
    clear hL hv hx1 hxl hn' hd' hs hbg fv
    generalize v.kind = kd at *
    cases hq : Qm.eqB v.who who
    · have hj : (v.who.toList == who.toList) = false := hq
      rw [hq] at HBE
      clear hq HZ1 HEQ HR2
      gi_wp2_with fail
      refine ⟨trivial, ?_⟩
      gi_wp2_with fail
      exact HZ0.out _ (Ext.refl W) HBE.out
    have hj : (v.who.toList == who.toList) = true := hq
    rw [hq] at HBE
    clear hq
    cases hk : (kd != 3)
    · have hk2 : (kd == 3) = true := by simpa using hk
      rw [hk] at HBE
      clear HZ1 HEQ HR2
      gi_wp2_with fail
      refine ⟨trivial, ?_⟩
      gi_wp2_with fail
      exact HZ0.out _ (Ext.refl W) HBE.out
    have hk2 : (kd == 3) = false := by simpa using hk
    rw [hk] at HBE
    gi_wp2_with fail
    refine ⟨trivial, fun _ => (by omega), ?_⟩
    refine (callsIn_wide.2 (HEQ.out _ (Ext.refl W))).mono ?_
    rintro e W1 ⟨rfl, hx1⟩
    have HX1 := Lib.hid hx1
    clear hcg hfg hlg hc0 hf0 hl0 hc1 hf1 hl1
    cases s
    · clear HZ1 HEQ HR2
      gi_wp2_with fail
      exact HZ0.out _ HX1.out HBE.out
    obtain ⟨b2, bg⟩ := HR2.out _ hx1
    obtain ⟨hcg, hfg, hlg⟩ := bg.all
    obtain ⟨hc2, hf2, hl2⟩ := b2.all
    clear HZ0 HEQ HR2 hx1 b2 bg
    gi_wp2_with fail
    exact HZ1.out _ HX1.out HBE.out
  case done =>
    intro D W hD hI hK
    have hD2 : w.heap.size ≤ D := by simp at hD; omega
    have HZ : Hid (Vw.lastKind r who = 0) := Lib.hid (Vw.lastKind_none (by rw [HN.out]; exact hI.before))
    have hk6 : (W.setCell ⟨w.heap.size + 1 + 1, 0, none⟩ (.int .i64 0)).heap[D]? = some (.deferred (some [])) := (KeepsOthers.setCell W ⟨w.heap.size + 1 + 1, 0, none⟩ _).same _ _ hK rfl
    have ht : Turned (W.setCell ⟨w.heap.size + 1 + 1, 0, none⟩ (.int .i64 0)) ((W.setCell ⟨w.heap.size + 1 + 1, 0, none⟩ (.int .i64 0)).putObj D (.deferred none)) := ⟨some D, grownBy_putObj' _ D _, fun r e => by cases e; exact ⟨_, hk6, rfl⟩⟩
    have b2 : Blk (W.setCell ⟨w.heap.size + 1 + 1, 0, none⟩ (.int .i64 0)) (w.heap.size + 1 + 1) 3 #[.int .i64 0] := Blk.convV (hI.r2.set_ 0 (.int .i64 0)) (by simp)
    have HT := Lib.hid (b2.turned ht)
    have HX := Lib.hid ((Ext.setCell (p := ⟨w.heap.size + 1 + 1, 0, none⟩) hI.ext (by show w.heap.size ≤ w.heap.size + 1 + 1; omega) (.int .i64 0)).putObj hD2 (.deferred none))
    have HK6 := Lib.hid hk6
    obtain ⟨hc2, hf2, hl2⟩ : _ ∧ _ ∧ w.heap.size + 1 + 1 < W.heap.size := hI.r2.all
    clear hI hK hD hD2 hk6 ht b2 HGV HB0 HF HN HV HD HI1
    gi_wp2_with fail
    clear hc2 hf2 hl2
    have t2 : ∀ i, World.cell? _ ⟨w.heap.size + 1 + 1, i, none⟩ = _ := HT.out.cell
    refine ⟨by simp, .inl ⟨_, _, rfl, run_takeDeferred HK6.out, ?_⟩⟩
    refine ⟨.int .i64 0, ?_, ?_⟩
    · simp only [results, Tryz.results38]
      go_simp
    · rw [HZ.out]
      exact ⟨rfl, HX.out⟩
  case stop =>
    intro D W hD hX hK
    obtain ⟨r2, hx⟩ := hX
    have HK := Lib.hid hK
    have ht : Turned W (W.putObj D (.deferred none)) := ⟨some D, grownBy_putObj' W D _, fun r e => by cases e; exact ⟨_, HK.out, rfl⟩⟩
    have t2 : ∀ i, (W.putObj D (.deferred none)).cell? ⟨w.heap.size + 1 + 1, i, none⟩ = _ := (r2.turned ht).cell
    have HX := Lib.hid (hx.putObj (D := D) (by simp at hD; omega) (.deferred none))
    clear ht r2 hx hK HGV HB0 HF HN HV HD HI1
    gi_wp2_with fail
    refine ⟨by simp, .inl ⟨_, _, rfl, run_takeDeferred HK.out, ?_⟩⟩
    refine ⟨.int .i64 (Vw.lastKind r who), ?_, ?_⟩
    · simp only [results, Tryz.results38]
      go_simp
    · exact ⟨rfl, HX.out⟩
/-- last. -/
theorem lastv_any (rc : List Value) (r : Rv) (who : ByteArray) (w : World) (h : Rev w All rc r) (hf : r.Fits) :
    Calls Tryz.prog 38 #[.agg rc.toArray, .string who] w (Ret (.int .i64 (Vw.lastKind r who)) w) :=
  (callsIn_wide.1 (last_in 9 (Nat.le_refl _) rc r who w h hf)).mono fun e w' ⟨he, hx⟩ => ⟨he, hx⟩
end Go.Proofs.YtojfgidoobgcaaaGreatDoor
namespace Go.Proofs.YtojfgidoobgcaaaGreatDoor
open Go Go.RowKit Go.Maps Go.WideMaps

/-- An act of voting that went through. -/
theorem after_vote {L m : List Rv} {a : Vw.Ac} (h : Vw.after L a = (m, true)) (hk : a.kind = 2) : Vw.addVote L a.number a.vote a.need = (m, 0) := by
  have ha : Vw.act L a = ((Vw.addVote L a.number a.vote a.need).1, 0, (Vw.addVote L a.number a.vote a.need).2) := by
    unfold Vw.act
    rw [if_neg (by rw [hk]; decide), if_neg (by rw [hk]; decide), if_pos hk]
  unfold Vw.after at h
  rw [ha] at h
  dsimp only at h
  split at h
  · simp at h
  · rename_i h0
    have h1 : (Vw.addVote L a.number a.vote a.need).2 = 0 := by simpa using h0
    exact Prod.ext (Prod.mk.inj h).1 h1
/-- What the search over the votes has met. -/
structure Tally (r : Rv) (j : Nat) (D : Dat) (S : List ByteArray) (rj : Bool) : Prop where
  nodup : S.Nodup
  size : Maps.size D = S.length
  has : ∀ s, Maps.has D (pkey s) = true ↔ s ∈ S
  mem : ∀ s, s ∈ S ↔ ∃ v ∈ r.votes.take j, v.who = s ∧ v.who ≠ r.author ∧ Vw.lastKind r v.who = 1
  rej : rj = true ↔ ∃ v ∈ r.votes.take j, v.who ≠ r.author ∧ Vw.lastKind r v.who = 2
theorem Tally.start (r : Rv) : Tally r 0 (.map []) [] false :=
  ⟨List.nodup_nil, rfl, fun s => by simp [has_eq], fun s => by simp, by simp⟩
section
variable {r : Rv} {j : Nat} {D : Dat} {S : List ByteArray} {rj : Bool} {v : Vt}
theorem Tally.skip (h : Tally r j D S rj) (hv : r.votes[j]? = some v) (hs : v.who ≠ r.author → Vw.lastKind r v.who ≠ 1 ∧ Vw.lastKind r v.who ≠ 2) : Tally r (j + 1) D S rj := by
  have ht : r.votes.take (j + 1) = r.votes.take j ++ [v] := by rw [List.take_add_one, hv]; rfl
  refine ⟨h.nodup, h.size, h.has, fun s => (h.mem s).trans ?_, h.rej.trans ?_⟩
  · rw [ht]
    constructor
    · rintro ⟨x, hx, k⟩
      exact ⟨x, List.mem_append_left _ hx, k⟩
    · rintro ⟨x, hx, k⟩
      rcases List.mem_append.1 hx with hx | hx
      · exact ⟨x, hx, k⟩
      · obtain rfl := List.mem_singleton.1 hx
        exact ((hs k.2.1).1 k.2.2).elim
  · rw [ht]
    constructor
    · rintro ⟨x, hx, k⟩
      exact ⟨x, List.mem_append_left _ hx, k⟩
    · rintro ⟨x, hx, k⟩
      rcases List.mem_append.1 hx with hx | hx
      · exact ⟨x, hx, k⟩
      · obtain rfl := List.mem_singleton.1 hx
        exact ((hs k.1).2 k.2).elim
theorem Tally.reject (h : Tally r j D S rj) (hv : r.votes[j]? = some v) (ha : v.who ≠ r.author) (hk : Vw.lastKind r v.who = 2) : Tally r (j + 1) D S true := by
  have ht : r.votes.take (j + 1) = r.votes.take j ++ [v] := by rw [List.take_add_one, hv]; rfl
  refine ⟨h.nodup, h.size, h.has, fun s => (h.mem s).trans ?_, ⟨fun _ => ?_, fun _ => rfl⟩⟩
  · rw [ht]
    constructor
    · rintro ⟨x, hx, k⟩
      exact ⟨x, List.mem_append_left _ hx, k⟩
    · rintro ⟨x, hx, k⟩
      rcases List.mem_append.1 hx with hx | hx
      · exact ⟨x, hx, k⟩
      · obtain rfl := List.mem_singleton.1 hx
        rw [hk] at k
        exact absurd k.2.2 (by decide)
  · rw [ht]
    exact ⟨v, List.mem_append_right _ (List.mem_singleton.2 rfl), ha, hk⟩
theorem Tally.put (h : Tally r j D S rj) (htd : Tidy D) (hv : r.votes[j]? = some v) (ha : v.who ≠ r.author) (hk : Vw.lastKind r v.who = 1) (d : DataW Unit) : ∃ S', Tally r (j + 1) (D.put (pkey v.who) d) S' rj := by
  have ht : r.votes.take (j + 1) = r.votes.take j ++ [v] := by rw [List.take_add_one, hv]; rfl
  have hrej : rj = true ↔ ∃ v ∈ r.votes.take (j + 1), v.who ≠ r.author ∧ Vw.lastKind r v.who = 2 := by
    refine h.rej.trans ?_
    rw [ht]
    constructor
    · rintro ⟨x, hx, k⟩
      exact ⟨x, List.mem_append_left _ hx, k⟩
    · rintro ⟨x, hx, k⟩
      rcases List.mem_append.1 hx with hx | hx
      · exact ⟨x, hx, k⟩
      · obtain rfl := List.mem_singleton.1 hx
        rw [hk] at k
        exact absurd k.2 (by decide)
  have hhas : ∀ s, Maps.has (D.put (pkey v.who) d) (pkey s) = true ↔ s ∈ S ∨ s = v.who := fun s => by
    by_cases e : s = v.who
    · subst e
      simp [has_put_same htd.isMap (pkey_lit _) d]
    · rw [has_put_other (fun k => e (pkey_inj k)), h.has]
      simp [e]
  have hmem : ∀ s, (s ∈ S ∨ s = v.who) ↔ ∃ v ∈ r.votes.take (j + 1), v.who = s ∧ v.who ≠ r.author ∧ Vw.lastKind r v.who = 1 := fun s => by
    rw [h.mem s, ht]
    constructor
    · rintro (⟨x, hx, k⟩ | rfl)
      · exact ⟨x, List.mem_append_left _ hx, k⟩
      · exact ⟨v, List.mem_append_right _ (List.mem_singleton.2 rfl), rfl, ha, hk⟩
    · rintro ⟨x, hx, k⟩
      rcases List.mem_append.1 hx with hx | hx
      · exact .inl ⟨x, hx, k⟩
      · obtain rfl := List.mem_singleton.1 hx
        exact .inr k.1.symm
  have hsz := size_put (k := pkey v.who) htd d
  by_cases hin : v.who ∈ S
  · rw [if_pos ((h.has _).2 hin)] at hsz
    have hor : ∀ s, (s ∈ S ∨ s = v.who) ↔ s ∈ S := fun s => ⟨fun k => k.elim id (fun e => e ▸ hin), .inl⟩
    exact ⟨S, h.nodup, hsz.trans h.size, fun s => (hhas s).trans (hor s), fun s => (hor s).symm.trans (hmem s), hrej⟩
  · rw [if_neg (fun k => hin ((h.has _).1 k))] at hsz
    have hor : ∀ s, (s ∈ S ∨ s = v.who) ↔ s ∈ S ++ [v.who] := fun s => by simp
    refine ⟨S ++ [v.who], ?_, by rw [hsz, h.size, List.length_append]; rfl, fun s => (hhas s).trans (hor s), fun s => (hor s).symm.trans (hmem s), hrej⟩
    rw [List.nodup_append]
    refine ⟨h.nodup, by simp, fun a ha b hb e => ?_⟩
    obtain rfl : b = v.who := by simpa using hb
    subst e
    exact hin ha
/-- Behind the last vote. -/
theorem Tally.end_ (h : Tally r r.votes.length D S rj) (hv : ∀ v ∈ r.votes, 1 ≤ v.kind ∧ v.kind ≤ 3) : Maps.size D = (Vw.people r 1).length ∧ (rj = true ↔ Vw.people r 2 ≠ []) := by
  have hm := h.mem
  have hr := h.rej
  rw [List.take_length] at hm hr
  have key : ∀ s k, k ≠ 0 → ((∃ v ∈ r.votes, v.who = s ∧ v.who ≠ r.author ∧ Vw.lastKind r v.who = k) ↔ Vw.opin r s = k) := fun s k hk => by
    constructor
    · rintro ⟨v, _, rfl, h2, h3⟩
      rw [← h3, Vw.lastKind_opin hv h2]
    · intro h1
      obtain ⟨v, hvm, rfl, _, _, h5, _⟩ := Vw.opin_vote (r := r) (who := s) (by rw [h1]; exact hk)
      exact ⟨v, hvm, rfl, h5, by rw [Vw.lastKind_opin hv h5, h1]⟩
  refine ⟨?_, ?_⟩
  · rw [h.size]
    exact (people_count (by decide) h.nodup (fun s => (hm s).trans (key s 1 (by decide)))).length_eq
  · rw [hr]
    constructor
    · rintro ⟨v, hvm, h2, h3⟩ e
      have := (Vw.people_mem (r := r) (k := 2) (who := v.who) (by decide)).2 ((key v.who 2 (by decide)).1 ⟨v, hvm, rfl, h2, h3⟩)
      rw [e] at this
      cases this
    · intro hne
      obtain ⟨s, hs⟩ := List.exists_mem_of_ne_nil _ hne
      obtain ⟨v, hvm, _, h2, h3⟩ := (key s 2 (by decide)).2 ((Vw.people_mem (by decide)).1 hs)
      exact ⟨v, hvm, h2, h3⟩
end
abbrev OwnsB (w : World) (b n : Nat) (D : Dat) : Prop := w.ownsMap Tryz.prog 9 (plainElem Tryz.prog 4) b n D
theorem OwnsB.ext {w w' : World} {b n : Nat} {D : Dat} (h : OwnsB w b n D) (hx : Ext w w') : OwnsB w' b n D := by
  have hl := h.lt
  obtain ⟨es, clock, hb, F, hs, hD⟩ := h
  exact ⟨es, clock, (Below.block hx b hl).trans hb, F, hs, hD⟩

set_option maxHeartbeats 16000000 in
set_option maxRecDepth 100000 in
theorem approval_walk (A : Option Addr) (n c : Nat) (l : List Vw.Ac) (w : World) (hg : Glob w) (h : As w All A l) (hn : l.length = n) (hb : n ≤ 4611686018427387904) (hw : ∀ a ∈ l, a.Wide) :
    Calls Tryz.prog 8 #[.slice A n c] w (Ret (.bool true) w) := by
  have HG := Lib.hid hg
  have HL := Lib.hid h
  have HN := Lib.hid hn
  have HS := Lib.hid (small_any A n c l w h hn hb hw)
  obtain ⟨sm, hsm⟩ : ∃ sm, sm = Vw.small l := ⟨_, rfl⟩
  rw [← hsm] at HS
  have HE := Lib.hid hsm
  have hmm := @run_makeMap Tryz.prog
  clear h hn hg hw hsm
  go_enter Tryz.func8, Tryz.ntmps8
  have hx := Ext.refl w
  go_wp2_with fail
  refine HS.out.mono ?_
  rintro e w1 ⟨rfl, hx0⟩
  have HX := Lib.hid (hx.trans hx0)
  clear hx hx0 HS
  cases sm
  · go_wp2_with fail
    refine (awake55_any _ (HG.out.ext HX.out)).mono ?_
    rintro e w2 ⟨rfl, hx0⟩
    have HX2 := Lib.hid (HX.out.trans hx0)
    clear hx0
    go_wp2_with fail
    go_ret
    exact Ret.mk rfl HX2.out
  have HSF := Lib.hid (small_fits HE.out.symm)
  have hn12 : n ≤ 12 := by have := HSF.out.1; rw [HN.out] at this; exact this
  clear HE
  go_wp2_with fail
  go_loopw [3, 19] (fun u i wr => ∃ (k : Nat) (B : Option Addr) (bn bc : Nat) (L : List Rv), k ≤ n ∧ i = .int .i64 k ∧ u = .slice B bn bc ∧ Hid (Revs wr B bn bc L) ∧ Hid (Vw.check L = 0) ∧ bn ≤ 100 ∧ Ext w wr) (fun u i wr => n - (intOf i).toNat)
  case atStart => exact ⟨0, none, 0, 0, [], Nat.zero_le _, rfl, rfl, Lib.hid (Revs.nil _), Lib.hid check_nil, Nat.zero_le _, HX.out⟩
  case round =>
    clear HX
    obtain ⟨k, B, bn, bc, L, hk, rfl, rfl, HR, HK, hbn, hx⟩ := hrel
    by_cases hlt : k < n
    · have hkl : k < l.length := by rw [HN.out]; exact hlt
      have e0 : l[k]? = some l[k] := List.getElem?_eq_getElem _
      have fa := HSF.out.2 _ (List.mem_of_getElem? e0)
      obtain ⟨b, o, cs, rfl, hbl, _, _, hr, hvt⟩ := (Sls.ext ActR.steadfast HL.out hx).get e0
      generalize l[k] = a at e0 hvt fa
      have HAF : Hid (∀ W, Ext wr W → Calls Tryz.prog 31 #[.slice B bn bc, .agg cs.toArray] W (GivesB W (Vw.after L a))) := Lib.hid fun W hW =>
        after_any B bn bc L cs a W (HG.out.ext (hx.trans hW)) (HR.out.ext hW) (by omega) (fun r hr => ((check_fits HK.out).2 r hr).1) (ActR.steadfast.ext hvt hW) fa
      obtain ⟨A', n', m', X', p', q', rfl, _, _, _, _⟩ := hvt
      obtain ⟨c0, c1, c2, c3, c4, c5, c6, c7, c8, c9, ca⟩ := cells11 hr
      have HX := Lib.hid hx
      have HKE := Lib.hid (Vw.story HK.out a)
      have HAV : Hid (∀ m, Vw.after L a = (m, true) → a.kind = 2 → ∃ i x, a.number = ((i + 1 : Nat) : Int) ∧ m[i]? = some x ∧ (∀ y ∈ x.votes, 1 ≤ y.kind ∧ y.kind ≤ 3) ∧
        (x.state = 2 ↔ Vw.people x 2 = [] ∧ a.need ≤ (Vw.people x 1).length) ∧ (x.state = 3 ↔ Vw.people x 2 ≠ [])) := Lib.hid fun m h hk => Vw.approval_law (after_vote h hk)
      clear hr e0 fa hkl hx hk
      generalize Vw.after L a = Z at HAF HKE HAV
      obtain ⟨next, zb⟩ := Z
      go_wp2_with fail
      refine (HAF.out _ ((Ext.refl wr).alloc _)).mono ?_
      rintro e w2 ⟨B2, n2, c2', rfl, hrv, hx0⟩
      have HX2 := Lib.hid ((HX.out.alloc _).trans hx0)
      have HR2 := Lib.hid hrv
      have HB5 := Lib.hid (Blk.ext hx0 (Blk.new' (w := wr) (g := wr.heap.size) (cs := #[.int .i64 a.kind, .int .i64 a.number, .string a.who, .string a.branch, .slice A' n' m', .string a.vote.who, .int .i64 a.vote.kind, .string a.vote.text, .slice X' p' q', .int .i64 a.need, .int .i64 a.state]) (t := 49) rfl))
      have HCN := Lib.hid (check_fits HKE.out.ok)
      have HKO := Lib.hid HKE.out.ok
      have hn2 : n2 ≤ 100 := by have := HCN.out.1; dsimp only at hrv this; rw [hrv.len] at this; exact this
      clear hrv hx0 HAF HX c0 c1 c2 c3 c4 c5 c6 c7 c8 c9 ca HKE HR
      dsimp only at HR2 HCN HKO ⊢
      cases zb
      · go_wp2_with fail
        go_roundw
        case rel => exact ⟨k + 1, B2, n2, c2', next, hlt, rfl, rfl, HR2, HKO, hn2, HX2.out⟩
        case measure => simp [intOf]; omega
      have HAV2 := Lib.hid (HAV.out next rfl)
      clear HAV
      obtain ⟨hc5, hf5, hl5⟩ := HB5.out.all
      generalize wr.heap.size = g5 at HB5 hc5 hf5 hl5 ⊢
      by_cases hk2 : a.kind = 2
      rotate_left
      · have j2 : (a.kind != 2) = true := by simpa using hk2
        clear hk2 HAV2
        go_wp2_with fail
        go_roundw
        case rel => exact ⟨k + 1, B2, n2, c2', next, hlt, rfl, rfl, HR2, HKO, hn2, HX2.out⟩
        case measure => simp [intOf]; omega
      obtain ⟨i, x, hnum, hxi, hy, hs2, hs3⟩ := HAV2.out hk2
      have hin : i < n2 := by rw [← HR2.out.len]; exact (List.getElem?_eq_some_iff.1 hxi).1
      have fx := HCN.out.2 _ (List.mem_of_getElem? hxi)
      have k3 : decide (a.number < 1) = false := decide_eq_false (by omega)
      have k4 : decide ((n2 : Int) < a.number) = false := decide_eq_false (by omega)
      obtain ⟨b8, o8, cx, rfl, hb8, _, _, hr8, hv8⟩ := (HR2.out.reads).get hxi
      have HXD := Lib.hid hv8
      have HLA : Hid (∀ who W, Ext w2 W → Calls Tryz.prog 38 #[.agg cx.toArray, .string who] W (Ret (.int .i64 (Vw.lastKind x who)) W)) := Lib.hid fun who W hW => lastv_any cx x who W (Rev.steadfast.ext hv8 hW) fx.1
      obtain ⟨P3, i3, j3, Q3, i4, j4, rfl, _, hi4, hij4, hvx⟩ := hv8
      obtain ⟨d0, d1, d2, d3, d4, d5⟩ := cells6 hr8
      have HVX := Lib.hid hvx
      have HI4 := Lib.hid hi4
      have HFX := Lib.hid fx
      have hi4b : i4 ≤ 100 := by rw [← hi4]; exact fx.2
      have HY := Lib.hid hy
      have HS2 := Lib.hid hs2
      have HS3 := Lib.hid hs3
      have e5 : a.number = (i : Int) + 1 := by omega
      clear hr8 hi4 hij4 hvx hy hs2 hs3 hxi fx hnum HAV2
      have e6 : (a.kind != 2) = false := by rw [hk2]; rfl
      have HE5 := Lib.hid e5
      generalize a.number = num at *
      subst e5
      generalize a.kind = kd at *
      subst hk2
      clear e6
      go_wp2_with fail
      go_loopw [10, 57] (fun u i wi => ∃ (j : Nat) (D : Dat) (S : List ByteArray) (rj : Bool), j ≤ i4 ∧ i = .int .i64 j ∧ u = .bool rj ∧ Ext w2 wi ∧ Hid (Blk wi w2.heap.size 28 #[.int .i64 x.number, .string x.author, .string x.branch, .slice P3 i3 j3, .int .i64 x.state, .slice Q3 i4 j4]) ∧ Hid (OwnsB wi (w2.heap.size + 1) j D) ∧ Hid (Tally x j D S rj)) (fun u i wi => i4 - (intOf i).toNat)
      case atStart =>
        refine ⟨0, .map [], [], false, Nat.zero_le _, rfl, rfl, ((Ext.refl w2).alloc _).alloc _, Lib.hid ((Blk.new' rfl).alloc _), Lib.hid ?_, Lib.hid (Tally.start x)⟩
        have := World.ownsMap_made (H := Unit) (w2.alloc (.cells #[.int .i64 x.number, .string x.author, .string x.branch, .slice P3 i3 j3, .int .i64 x.state, .slice Q3 i4 j4] 28)) Tryz.prog 9 (plainElem Tryz.prog 4)
        have e1 : (w2.alloc (.cells #[.int .i64 x.number, .string x.author, .string x.branch, .slice P3 i3 j3, .int .i64 x.state, .slice Q3 i4 j4] 28)).heap.size = w2.heap.size + 1 := by simp
        rw [e1] at this
        exact this
      case round =>
        clear d0 d1 d2 d3 d4 d5 hc5 hf5 hl5
        obtain ⟨j, D, S, rj, hj, rfl, rfl, hxi, HB8, HW, HT⟩ := hrel
        obtain ⟨hc8, hf8, hl8⟩ := HB8.out.all
        by_cases hjl : j < i4
        · have hjv : j < x.votes.length := by rw [HI4.out]; exact hjl
          have e0 : x.votes[j]? = some x.votes[j] := List.getElem?_eq_getElem _
          have fv := HFX.out.1.each _ (List.mem_of_getElem? e0)
          obtain ⟨b9, o9, cv, rfl, hb9, _, _, hr9, hv9⟩ := (Vs.ext HVX.out hxi).get e0
          generalize x.votes[j] = v at e0 fv hv9
          obtain ⟨A9, n9, m9, rfl, _, _, _⟩ := hv9
          obtain ⟨v0, v1, v2, v3⟩ := cells4 hr9
          have E0 := Lib.hid e0
          have HKEY := Lib.hid (pkey_of fv.who)
          have HXI := Lib.hid hxi
          have HLK := Lib.hid (fun W hW => HLA.out v.who W (hxi.trans hW))
          clear hr9 e0 fv hjv hxi hj
          cases hq : Qm.eqB v.who x.author
          rotate_left
          · have j2 : (v.who.toList == x.author.toList) = true := hq
            have HT2 := Lib.hid (HT.out.skip E0.out (fun h => absurd (Qm.eqB_iff.1 hq) h))
            have HW2 := Lib.hid (HW.out.ext ((Ext.refl wr).alloc (.cells #[.string v.who, .int .i64 v.kind, .string v.text, .slice A9 n9 m9] 39)))
            have HB82 := Lib.hid (HB8.out.alloc (.cells #[.string v.who, .int .i64 v.kind, .string v.text, .slice A9 n9 m9] 39))
            clear hq HT HLK HW HB8
            go_wp2_with fail
            go_roundw
            case rel => exact ⟨j + 1, D, S, rj, hjl, rfl, rfl, HXI.out.alloc _, HB82, Lib.hid (HW2.out.mono (Nat.le_succ _)), HT2⟩
            case measure => simp [intOf]; omega
          have j2 : (v.who.toList == x.author.toList) = false := hq
          have HNA : Hid (v.who ≠ x.author) := Lib.hid (fun e => by rw [Qm.eqB_iff.2 e] at hq; cases hq)
          clear hq
          obtain ⟨lk, hlk⟩ : ∃ lk, lk = Vw.lastKind x v.who := ⟨_, rfl⟩
          rw [← hlk] at HLK
          have HEK := Lib.hid hlk
          clear hlk
          go_wp2_with fail
          refine (HLK.out _ ((Ext.refl wr).alloc _)).mono ?_
          rintro e w4 ⟨rfl, hx0⟩
          have hxa := ((Ext.refl wr).alloc (.cells #[.string v.who, .int .i64 v.kind, .string v.text, .slice A9 n9 m9] 39)).trans hx0
          have HX4 := Lib.hid (HXI.out.trans hxa)
          have HW4 := Lib.hid (HW.out.ext hxa)
          have HB84 := Lib.hid (Blk.ext hxa HB8.out)
          have hbv := Blk.ext hx0 (Blk.new' (w := wr) (g := wr.heap.size) (cs := #[.string v.who, .int .i64 v.kind, .string v.text, .slice A9 n9 m9]) (t := 39) rfl)
          obtain ⟨hcv, hfv, hlv⟩ := hbv.all
          clear HW HB8 HXI hbv hxa hx0 HLK v0 v1 v2 v3 hc8 hf8 hl8
          by_cases h1 : lk = 1
          · subst h1
            obtain ⟨S', hT2⟩ := HT.out.put (HW4.out.tidy slaw) E0.out HNA.out HEK.out.symm (.lit (.bool true))
            have HT2 := Lib.hid hT2
            clear hT2 HT
            go_wp2_with (at_mapUpdate; refine wpList_mapUpdate_own _ rfl _ _ _ 66 rfl 9 4 slaw Tryz.underlying66 _ (w2.heap.size + 1) j _ rfl HW4.out (by unfold maxLen; omega) _ _ _ rfl rfl HKEY.out _ [] (plainElem_bool Tryz.underlying4 true) ?_; intro w5 hown5 hgrow5)
            have HX5 : Hid (Ext w2 w5) := Lib.hid (Below.grown HX4.out hgrow5 (Below.size HX4.out) (fun j hj => by cases hj; exact Nat.le_succ _))
            have HB85 := Lib.hid (Blk.mk ((hgrow5.block w2.heap.size HB84.out.lt (by simp)).trans HB84.out.eq))
            go_wp2_with fail
            go_roundw
            case rel => exact ⟨j + 1, _, S', rj, hjl, rfl, rfl, HX5.out, HB85, Lib.hid hown5, HT2⟩
            case measure => simp [intOf]; omega
          by_cases h2 : lk = 2
          · subst h2
            have HT2 := Lib.hid (HT.out.reject E0.out HNA.out HEK.out.symm)
            clear HT
            go_wp2_with fail
            go_roundw
            case rel => exact ⟨j + 1, D, S, true, hjl, rfl, rfl, HX4.out, HB84, Lib.hid (HW4.out.mono (Nat.le_succ _)), HT2⟩
            case measure => simp [intOf]; omega
          · have q1 : (lk == 1) = false := by simpa using h1
            have q2 : (lk == 2) = false := by simpa using h2
            have HT2 := Lib.hid (HT.out.skip E0.out (fun _ => ⟨fun e => h1 (HEK.out.trans e), fun e => h2 (HEK.out.trans e)⟩))
            clear HT h1 h2
            go_wp2_with fail
            go_roundw
            case rel => exact ⟨j + 1, D, S, rj, hjl, rfl, rfl, HX4.out, HB84, Lib.hid (HW4.out.mono (Nat.le_succ _)), HT2⟩
            case measure => simp [intOf]; omega
        · obtain rfl : j = i4 := by omega
          have hT := HT.out
          rw [← HI4.out] at hT
          obtain ⟨hsz, hrj⟩ := hT.end_ HY.out
          have hlen := fun ty => HW.out.len Tryz.underlying66 ty
          have HR3 := Lib.hid (HR2.out.ext hxi)
          have HXI := Lib.hid (HX2.out.trans hxi)
          obtain ⟨hc5, hf5, hl5⟩ := (Blk.ext hxi HB5.out).all
          clear hT HT hxi HW HB8 hj hjl HLA HXD HVX
          generalize Maps.size D = sz at *
          cases rj
          · have hp2 : Vw.people x 2 = [] := Classical.byContradiction fun h => by have := hrj.2 h; cases this
            have q3 : (x.state == 3) = false := by
              rw [beq_eq_false_iff_ne]
              exact fun e => (HS3.out.1 e) hp2
            by_cases hn : a.need ≤ (sz : Int)
            · have q2 : (x.state == 2) = true := by
                rw [beq_iff_eq]
                exact HS2.out.2 ⟨hp2, by rw [← hsz]; exact hn⟩
              have q4 : decide (a.need ≤ (sz : Int)) = true := decide_eq_true hn
              clear hrj hsz hn hp2 HS2 HS3
              go_wp2_with fail
              refine ⟨⟨k + 1, _, n2, c2', next, hlt, rfl, rfl, HR3, HKO, hn2, HXI.out⟩, ?_⟩
              simp [intOf]
              omega
            · have q2 : (x.state == 2) = false := by
                rw [beq_eq_false_iff_ne]
                exact fun e => hn (by rw [hsz]; exact (HS2.out.1 e).2)
              have q4 : decide (a.need ≤ (sz : Int)) = false := decide_eq_false hn
              clear hrj hsz hn hp2 HS2 HS3
              go_wp2_with fail
              refine ⟨⟨k + 1, _, n2, c2', next, hlt, rfl, rfl, HR3, HKO, hn2, HXI.out⟩, ?_⟩
              simp [intOf]
              omega
          · have hp2 : Vw.people x 2 ≠ [] := hrj.1 rfl
            have q3 : (x.state == 3) = true := by
              rw [beq_iff_eq]
              exact HS3.out.2 hp2
            have q2 : (x.state == 2) = false := by
              rw [beq_eq_false_iff_ne]
              exact fun e => hp2 (HS2.out.1 e).1
            clear hrj hsz hp2 HS2 HS3
            go_wp2_with fail
            refine ⟨⟨k + 1, _, n2, c2', next, hlt, rfl, rfl, HR3, HKO, hn2, HXI.out⟩, ?_⟩
            simp [intOf]
            omega
    · obtain rfl : k = n := by omega
      have HX := Lib.hid hx
      clear hx HR HK
      go_wp2_with fail
      refine (awake55_any _ (HG.out.ext HX.out)).mono ?_
      rintro e w2 ⟨rfl, hx0⟩
      have HX2 := Lib.hid (HX.out.trans hx0)
      clear hx0
      go_wp2_with fail
      go_ret
      exact Ret.mk rfl HX2.out
end Go.Proofs.YtojfgidoobgcaaaGreatDoor
