/- Acts that came in, opened: what their cells hold. -/
import Derived.Test.YtojfgidoobgcaaaGreatDoorOf
import Derived.Test.YtojfgidoobgcaaaGreatDoorOg
set_option linter.unusedSimpArgs false
set_option linter.unusedVariables false
namespace Go.Proofs.YtojfgidoobgcaaaGreatDoor
open Go Go.ChangeShapes Go.WideShapes Go.RowKit Go.Deep

theorem cAct : Tryz.prog.cellsOf 49 = 11 := by kernel_rfl
instance : Inhabited Vw.Ac := ⟨⟨0, 0, ⟨#[]⟩, ⟨#[]⟩, [], default, 0, 0⟩⟩
section
variable {H : Type} {enc : TypeId × Value → H} {W : World} {held : Bool}
set_option maxRecDepth 100000 in
set_option maxHeartbeats 1000000 in
/-- An act that came in. -/
theorem open_act (fuel : Nat) (vs : List Value) (d : DataW H) (ps : List MemPlace) (hl : vs.length = 11) (h : DataW.trod enc Tryz.prog W 0 (fun _ => true) held fuel 49 vs = some (d, ps)) (hw : ∀ n ∈ d.weights Tryz.prog 49, n ≤ reachBytes) : ∃ x : Vw.Ac, ActR W All vs x ∧ x.Wide := by
  match vs, hl with
  | [v0, v1, v2, v3, v4, v5, v6, v7, v8, v9, v10], _ =>
  obtain ⟨xs, n, _, hx, _, hxl, hf⟩ := DataW.trod_struct Tryz.underlying49 h
  have hxl3 : xs.length = 8 := hxl
  match xs, hxl3 with
  | [y0, y1, y2, y3, y4, y5, y6, y7], _ =>
    have e0 : DataW.trod enc Tryz.prog W 0 (fun _ => true) held n 3 (([v0, v1, v2, v3, v4, v5, v6, v7, v8, v9, v10].drop 0).take (Tryz.prog.cellsOf 3)) = some y0 := hf 0 _ rfl
    rw [cInt] at e0
    have e0 : DataW.trod enc Tryz.prog W 0 (fun _ => true) held n 3 [v0] = some y0 := e0
    have e1 : DataW.trod enc Tryz.prog W 0 (fun _ => true) held n 3 (([v0, v1, v2, v3, v4, v5, v6, v7, v8, v9, v10].drop 1).take (Tryz.prog.cellsOf 3)) = some y1 := hf 1 _ rfl
    rw [cInt] at e1
    have e1 : DataW.trod enc Tryz.prog W 0 (fun _ => true) held n 3 [v1] = some y1 := e1
    have e2 : DataW.trod enc Tryz.prog W 0 (fun _ => true) held n 9 (([v0, v1, v2, v3, v4, v5, v6, v7, v8, v9, v10].drop 2).take (Tryz.prog.cellsOf 9)) = some y2 := hf 2 _ rfl
    rw [cString] at e2
    have e2 : DataW.trod enc Tryz.prog W 0 (fun _ => true) held n 9 [v2] = some y2 := e2
    have e3 : DataW.trod enc Tryz.prog W 0 (fun _ => true) held n 9 (([v0, v1, v2, v3, v4, v5, v6, v7, v8, v9, v10].drop 3).take (Tryz.prog.cellsOf 9)) = some y3 := hf 3 _ rfl
    rw [cString] at e3
    have e3 : DataW.trod enc Tryz.prog W 0 (fun _ => true) held n 9 [v3] = some y3 := e3
    have e4 : DataW.trod enc Tryz.prog W 0 (fun _ => true) held n 25 (([v0, v1, v2, v3, v4, v5, v6, v7, v8, v9, v10].drop 4).take (Tryz.prog.cellsOf 25)) = some y4 := hf 4 _ rfl
    rw [cDigests] at e4
    have e4 : DataW.trod enc Tryz.prog W 0 (fun _ => true) held n 25 [v4] = some y4 := e4
    have e5 : DataW.trod enc Tryz.prog W 0 (fun _ => true) held n 39 (([v0, v1, v2, v3, v4, v5, v6, v7, v8, v9, v10].drop 5).take (Tryz.prog.cellsOf 39)) = some y5 := hf 5 _ rfl
    rw [cVote] at e5
    have e5 : DataW.trod enc Tryz.prog W 0 (fun _ => true) held n 39 [v5, v6, v7, v8] = some y5 := e5
    have e6 : DataW.trod enc Tryz.prog W 0 (fun _ => true) held n 3 (([v0, v1, v2, v3, v4, v5, v6, v7, v8, v9, v10].drop 9).take (Tryz.prog.cellsOf 3)) = some y6 := hf 6 _ rfl
    rw [cInt] at e6
    have e6 : DataW.trod enc Tryz.prog W 0 (fun _ => true) held n 3 [v9] = some y6 := e6
    have e7 : DataW.trod enc Tryz.prog W 0 (fun _ => true) held n 3 (([v0, v1, v2, v3, v4, v5, v6, v7, v8, v9, v10].drop 10).take (Tryz.prog.cellsOf 3)) = some y7 := hf 7 _ rfl
    rw [cInt] at e7
    have e7 : DataW.trod enc Tryz.prog W 0 (fun _ => true) held n 3 [v10] = some y7 := e7
    have ed : d = .agg ([y0, y1, y2, y3, y4, y5, y6, y7].map (·.1)) := congrArg Prod.fst hx
    subst ed
    have hu : Tryz.prog.underlying 49 = some (.struct _) := Tryz.underlying49
    simp only [DataW.weights, hu] at hw
    obtain ⟨z0, g0, _⟩ := DataW.trod_int Tryz.underlying3 e0
    obtain rfl : v0 = .int .i64 z0 := by simpa using g0
    obtain ⟨z1, g1, _⟩ := DataW.trod_int Tryz.underlying3 e1
    obtain rfl : v1 = .int .i64 z1 := by simpa using g1
    obtain ⟨z2, g2, _⟩ := DataW.trod_string Tryz.underlying9 e2
    have t2 := str_size e2 (weights_mem (j := 2) hw rfl rfl) (by simpa using g2)
    obtain rfl : v2 = .string z2 := by simpa using g2
    obtain ⟨z3, g3, _⟩ := DataW.trod_string Tryz.underlying9 e3
    have t3 := str_size e3 (weights_mem (j := 3) hw rfl rfl) (by simpa using g3)
    obtain rfl : v3 = .string z3 := by simpa using g3
    obtain ⟨A4, z4, c4, rfl, s4, k4, b4⟩ := open_ds e4 (weights_mem (j := 4) hw rfl rfl)
    unfold reachBytes at b4
    obtain ⟨z5, Q5, mw5⟩ := open_vote n _ _ _ rfl e5 (weights_mem (j := 5) hw rfl rfl)
    obtain ⟨X, p, q, hvs, hp, hpq, hdv⟩ := Q5
    cases hvs
    obtain ⟨z6, g6, _⟩ := DataW.trod_int Tryz.underlying3 e6
    obtain rfl : v9 = .int .i64 z6 := by simpa using g6
    obtain ⟨z7, g7, _⟩ := DataW.trod_int Tryz.underlying3 e7
    obtain rfl : v10 = .int .i64 z7 := by simpa using g7
    exact ⟨⟨z0, z1, z2, z3, z4, z5, z6, z7⟩, ⟨A4, z4.length, c4, X, p, q, rfl, ⟨rfl, k4, s4⟩, hp, hpq, hdv⟩, ⟨by show z2.size ≤ _; omega, by show z3.size ≤ _; omega, by show z4.length ≤ _; omega, by show 1 ≤ _; omega, fun v hv => by
      obtain rfl : v = z5 := by simpa [Vw.Ac.rv] using hv
      exact mw5⟩⟩
/-- Acts that came in. -/
theorem open_acts {fuel : Nat} {v : Value} {x : DataW H × List MemPlace} (h : DataW.trod enc Tryz.prog W 0 (fun _ => true) held fuel 55 [v] = some x) (hw : ∀ n ∈ x.1.weights Tryz.prog 55, n ≤ reachBytes) :
    ∃ A l c, v = .slice A l.length c ∧ As W All A l ∧ l.length ≤ c ∧ l.length * 152 ≤ reachBytes ∧ ∀ x ∈ l, x.Wide :=
  open_sls ActR Vw.Ac.Wide Tryz.underlying55 cAct (by decide) (by kernel_rfl) (fun fuel vs d ps hl h hw => open_act fuel vs d ps hl h hw) h hw
end
end Go.Proofs.YtojfgidoobgcaaaGreatDoor
