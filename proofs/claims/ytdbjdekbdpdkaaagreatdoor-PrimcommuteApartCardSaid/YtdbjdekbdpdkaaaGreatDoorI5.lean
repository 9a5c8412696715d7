/- Walks: patches that touch nothing in common commute unchanged, and merge unchanged. -/
import Derived.Test.YtdbjdekbdpdkaaaGreatDoorMg
import Derived.Test.YtdbjdekbdpdkaaaGreatDoorRJ
set_option linter.unusedSimpArgs false
set_option linter.unusedVariables false
namespace Go.Proofs.YtdbjdekbdpdkaaaGreatDoor
open Go.RowKit
attribute [local go_sem ↓] Go.wp_at_zero Go.wp_at_succ

open Pa in
theorem apart_of_touched {a b : Qp} {l1 l2 : List ByteArray} (h1 : a.path ∈ l1 ∧ (a.kind = 5 → a.to_ ∈ l1)) (h2 : b.path ∈ l2 ∧ (b.kind = 5 → b.to_ ∈ l2)) (h : (l1.all fun s => noneMeets s l2) = true) : Apart a b := by
  intro s t hs ht
  have m1 : s ∈ l1 := by
    rcases hs with rfl | ⟨hk, rfl⟩
    · exact h1.1
    · exact h1.2 hk
  have m2 : t ∈ l2 := by
    rcases ht with rfl | ⟨hk, rfl⟩
    · exact h2.1
    · exact h2.2 hk
  have hm : meets s t = false := by
    have := List.all_eq_true.1 (List.all_eq_true.1 h s m1) t m2
    simpa using this
  unfold meets at hm
  simp only [Bool.or_eq_false_iff] at hm
  obtain ⟨⟨he, n1⟩, n2⟩ := hm
  have hne : L s ≠ L t := fun e => by
    rw [L_inj e] at he
    simp [Qm.eqB] at he
  refine ⟨fun hw => ?_, fun hw => ?_⟩
  · rcases hw.eq_or with e | e
    · exact hne e
    · rw [below_iff.2 e] at n1
      cases n1
  · rcases hw.eq_or with e | e
    · exact hne e.symm
    · rw [below_iff.2 e] at n2
      cases n2
theorem rcheck_is (p : Pv) (q : Qp) (w : World) {F : Nat → Prop} (h : Is w F p q) (m : q.Mild) (s1 : ∀ x ∈ q.old, x.size ≤ 4611686018427387904) (s2 : ∀ x ∈ q.new, x.size ≤ 4611686018427387904) :
    Calls Tryz.prog 5 #[p.v] w (Ret (.int .i64 q.check) w) := by
  obtain ⟨A1, c1, A2, c2, rfl, ⟨S1, S2⟩, _⟩ := h
  have h1 := m.path
  have h2 := m.to_
  have h3 := m.old
  have h4 := m.new
  have := rcheck_any (q.pv A1 c1 A2 c2) q.old q.new w S1 S2 (by show q.old.length ≤ _; omega) (by show q.new.length ≤ _; omega) (by show q.path.size ≤ _; omega) (by show q.to_.size ≤ _; omega) s1 s2
  rwa [check_pv] at this
/-- What the reference's Touches hands back. -/
def Told (q : Qp) (w : World) (e : Ending) (w' : World) : Prop := ∃ A m c l, e = .returned (.slice A m c) ∧ Hid (Lst w' A m l) ∧ m ≤ 2 ∧ Hid (∀ x ∈ l, x.size ≤ 4611686018427387904) ∧ Hid (q.check = 0 → q.path ∈ l ∧ (q.kind = 5 → q.to_ ∈ l)) ∧ Ext w w'
theorem rtouches_is (p : Pv) (q : Qp) (w : World) {F : Nat → Prop} (h : Is w F p q) (m : q.Mild) (s1 : ∀ x ∈ q.old, x.size ≤ 4611686018427387904) (s2 : ∀ x ∈ q.new, x.size ≤ 4611686018427387904) :
    Calls Tryz.prog 7 #[p.v] w (Told q w) := by
  obtain ⟨A1, c1, A2, c2, rfl, ⟨S1, S2⟩, _⟩ := h
  have h1 := m.path
  have h2 := m.to_
  have h3 := m.old
  have h4 := m.new
  have H := rtouches_any (q.pv A1 c1 A2 c2) q.old q.new w S1 S2 (by show q.old.length ≤ _; omega) (by show q.new.length ≤ _; omega) (by show q.path.size ≤ _; omega) (by show q.to_.size ≤ _; omega) s1 s2
  rw [check_pv] at H
  refine H.mono ?_
  rintro e w' ⟨A, m', c, l, he, hl, hm, hx, ht, hw⟩
  refine ⟨A, m', c, l, he, Lib.hid hl, hm, Lib.hid fun x hxl => ?_, Lib.hid ht, hw⟩
  rcases hx x hxl with rfl | rfl
  · show q.path.size ≤ _
    omega
  · show q.to_.size ≤ _
    omega
section
variable {P : Program} {ops : Array Oper} {Q : Exit → Act → World → Prop} {md : Region.Mode} {S : World → Prop}
/-- A load of a struct under a guard that is met. -/
theorem take_loadw {i : Nat} {oi : Oper} {fuel : Nat} {listed : Array Bool} {a : Act} {w : World} {d : Tmp} {ty : TypeId} {x : Operand} {b o : Nat} {ds : TypeDesc} (cs : List Value) (hi : ops[i]? = some oi) (hd : oi.dst = some d) (ho : oi.op = .load ty x) (hw : Region.wanted oi (yielded ops a.tmps) = true)
    (hs : Region.noSelect ops = true) (hf : Region.free md ops listed i = true) (hr : (Region.ready md ops listed).contains i = true)
    (hx : a.eval x = .pointer (some ⟨b, o, none⟩)) (hu : P.underlying ty = some ds) (hrow : ds.isRow = true) (hl : (P.info? ty).map (·.size) = some cs.length) (hSr : ∀ w, S w → w.rangeAt b o cs) (hS : S w)
    (h : wpAnyH P md ops (NoPanic Q) S fuel (listed.setIfInBounds i true) (a.put (some d) (.agg cs.toArray)) w) : wpAnyH P md ops (NoPanic Q) S (fuel + 1) listed a w :=
  take_any hi hd hs hf hr (yieldsIf_load_mid hw ty x ho b o hx cs ds hSr hu hrow hl) hS h
/-- An operation whose guard is not met. -/
theorem take_skip {i : Nat} {oi : Oper} {fuel : Nat} {listed : Array Bool} {a : Act} {w : World} {d : Tmp} (hi : ops[i]? = some oi) (hd : oi.dst = some d) (hw : Region.wanted oi (yielded ops a.tmps) = false)
    (hs : Region.noSelect ops = true) (hf : Region.free md ops listed i = true) (hr : (Region.ready md ops listed).contains i = true) (hS : S w)
    (h : wpAnyH P md ops (NoPanic Q) S fuel (listed.setIfInBounds i true) (a.put (some d) undef) w) : wpAnyH P md ops (NoPanic Q) S (fuel + 1) listed a w :=
  take_any hi hd hs hf hr (.inr ⟨hw, rfl⟩) hS h
end

set_option maxHeartbeats 16000000 in
set_option maxRecDepth 100000 in
theorem apart_walk (p p' : Pv) (a b : Qp) (w : World) (hg : Glob w) {F : Nat → Prop} (ha : Is w F p a) (hb : Is w F p' b) (b1 : a.old.length ≤ 1152921504606846976) (b2 : a.new.length ≤ 1152921504606846976) (b3 : b.old.length ≤ 1152921504606846976) (b4 : b.new.length ≤ 1152921504606846976)
    (z1 : ∀ x ∈ a.old, x.size ≤ 4611686018427387904) (z2 : ∀ x ∈ a.new, x.size ≤ 4611686018427387904) (z3 : ∀ x ∈ b.old, x.size ≤ 4611686018427387904) (z4 : ∀ x ∈ b.new, x.size ≤ 4611686018427387904) :
    Calls Tryz.prog 3 #[p.v, p'.v] w (Ret (.bool true) w) := by
  have HA := Lib.hid ha.in
  have HB := Lib.hid hb.in
  have HAW := Lib.hid (fun W (hW : Ext w W) => awake_any W (hg.ext hW))
  have HGR := Lib.hid (fun W g t (hW : Ext w W) (h : Blk W g t (parr2 p p')) => lawgreat2_any g t p p' a b W h (HA.out.ext hW) (HB.out.ext hW) b1 b2 b3 b4)
  have HK1 := Lib.hid (fun (m : a.Mild) W (hW : Ext w W) => rcheck_is p a W (HA.out.ext hW) m z1 z2)
  have HK2 := Lib.hid (fun (m : b.Mild) W (hW : Ext w W) => rcheck_is p' b W (HB.out.ext hW) m z3 z4)
  have HT1 := Lib.hid (fun (m : a.Mild) W (hW : Ext w W) => rtouches_is p a W (HA.out.ext hW) m z1 z2)
  have HT2 := Lib.hid (fun (m : b.Mild) W (hW : Ext w W) => rtouches_is p' b W (HB.out.ext hW) m z3 z4)
  have HCM := Lib.hid (fun (m : a.Mild ∧ b.Mild) W (hW : Ext w W) => commute_any p p' a b W (hg.ext hW) (HA.out.ext hW) (HB.out.ext hW) m.1.fits m.2.fits)
  have HMG := Lib.hid (fun (m : a.Mild ∧ b.Mild) W (hW : Ext w W) => merge_any p p' a b W (hg.ext hW) (HA.out.ext hW) (HB.out.ext hW) m.1.fits m.2.fits)
  clear hg ha hb z1 z2 z3 z4
  go_enter Tryz.func3, Tryz.ntmps3
  have hx := Ext.refl w
  go_upto_region 1 with fail
  go_cut [32] (fun u32 wx => ∃ v : Bool, u32 = .bool v ∧ Hid (v = false → (a.Mild ∧ b.Mild) ∧ a.check = 0 ∧ b.check = 0 ∧ Apart a b) ∧ Blk wx w.heap.size 26 (parr p) ∧ Blk wx (w.heap.size + 1) 26 (parr p') ∧ Ext w wx)
  case first =>
    have b0 : Blk ((w.alloc (.cells (parr p) 26)).alloc (.cells (parr p') 26)) w.heap.size 26 (parr p) := Blk.alloc (Blk.new' rfl) _
    have b1' : Blk ((w.alloc (.cells (parr p) 26)).alloc (.cells (parr p') 26)) (w.heap.size + 1) 26 (parr p') := Blk.new' (by simp)
    have hv : Ext w ((w.alloc (.cells (parr p) 26)).alloc (.cells (parr p') 26)) := ((Ext.refl w).alloc _).alloc _
    refine wp_region_noPanic (wp_region_held_drew (S := fun w' => Blk w' w.heap.size 26 (parr p) ∧ Blk w' (w.heap.size + 1) 26 (parr p') ∧ Ext w w') (by kernel_rfl) ⟨b0.drew, b1'.drew, hv.drew1⟩ (fun hH => ?_))
    clear b0 b1' hv
    generalize World.drew _ = v0 at hH ⊢
    obtain ⟨b0, b1', hv⟩ := hH
    refine take_loadw (i := 0) (parr p).toList rfl rfl rfl (by kernel_rfl) (by kernel_rfl) (by kernel_rfl) (by kernel_rfl) rfl Tryz.underlying26 rfl (by kernel_rfl) (fun _ h => h.1.range 0 _ (fun j _ => by rw [Nat.zero_add, Array.getElem?_toList])) ⟨b0, b1', hv⟩ ?_
    try simp only [Act.put, List.setIfInBounds_toArray, List.set_cons_zero, List.set_cons_succ]
    refine take_loadw (i := 1) (parr p').toList rfl rfl rfl (by kernel_rfl) (by kernel_rfl) (by kernel_rfl) (by kernel_rfl) rfl Tryz.underlying26 rfl (by kernel_rfl) (fun _ h => h.2.1.range 0 _ (fun j _ => by rw [Nat.zero_add, Array.getElem?_toList])) ⟨b0, b1', hv⟩ ?_
    try simp only [Act.put, List.setIfInBounds_toArray, List.set_cons_zero, List.set_cons_succ]
    refine wpAnyH_one (i := 2) (by kernel_rfl) rfl (by kernel_rfl) ?_
    go_simp
    have hx0 : Ext v0 (v0.alloc (.cells (parr2 p p') 26)) := (Ext.refl v0).alloc _
    have hb2 : Blk (v0.alloc (.cells (parr2 p p') 26)) v0.heap.size 26 (parr2 p p') := Blk.new' rfl
    replace b0 := b0.ext hx0
    replace b1' := b1'.ext hx0
    replace hv := hv.trans hx0
    refine ⟨⟨b0, b1', hv⟩, ?_⟩
    generalize v0.alloc (.cells (parr2 p p') 26) = v1 at b0 b1' hv hb2 ⊢
    clear hx0
    try simp only [Act.put, List.setIfInBounds_toArray, List.set_cons_zero, List.set_cons_succ]
    refine wpAnyH_one (i := 3) (by kernel_rfl) rfl (by kernel_rfl) ?_
    go_simp
    refine (HGR.out _ _ _ hv hb2).mono ?_
    rintro e v2 ⟨v, rfl, hm, hx0⟩
    have HM := Lib.hid hm
    clear hm hb2
    replace b0 := b0.ext hx0
    replace b1' := b1'.ext hx0
    replace hv := hv.trans hx0
    refine ⟨⟨b0, b1', hv⟩, ?_⟩
    clear hx0
    try simp only [Act.put, List.setIfInBounds_toArray, List.set_cons_zero, List.set_cons_succ]
    cases v
    rotate_left
    ·
      refine take_free (i := 4) (v := .bool true) rfl rfl (by kernel_rfl) (by kernel_rfl) (by kernel_rfl) (by kernel_rfl) (fun _ => rfl) ⟨b0, b1', hv⟩ ?_
      try simp only [Act.put, List.setIfInBounds_toArray, List.set_cons_zero, List.set_cons_succ]
      refine take_skip (i := 5) rfl rfl (by kernel_rfl) (by kernel_rfl) (by kernel_rfl) (by kernel_rfl) ⟨b0, b1', hv⟩ ?_
      try simp only [Act.put, List.setIfInBounds_toArray, List.set_cons_zero, List.set_cons_succ]
      refine take_skip (i := 6) rfl rfl (by kernel_rfl) (by kernel_rfl) (by kernel_rfl) (by kernel_rfl) ⟨b0, b1', hv⟩ ?_
      try simp only [Act.put, List.setIfInBounds_toArray, List.set_cons_zero, List.set_cons_succ]
      refine take_skip (i := 7) rfl rfl (by kernel_rfl) (by kernel_rfl) (by kernel_rfl) (by kernel_rfl) ⟨b0, b1', hv⟩ ?_
      try simp only [Act.put, List.setIfInBounds_toArray, List.set_cons_zero, List.set_cons_succ]
      refine take_free (i := 8) (v := .bool true) rfl rfl (by kernel_rfl) (by kernel_rfl) (by kernel_rfl) (by kernel_rfl) (fun _ => rfl) ⟨b0, b1', hv⟩ ?_
      try simp only [Act.put, List.setIfInBounds_toArray, List.set_cons_zero, List.set_cons_succ]
      refine take_free (i := 9) (v := .bool true) rfl rfl (by kernel_rfl) (by kernel_rfl) (by kernel_rfl) (by kernel_rfl) (fun _ => rfl) ⟨b0, b1', hv⟩ ?_
      try simp only [Act.put, List.setIfInBounds_toArray, List.set_cons_zero, List.set_cons_succ]
      refine take_skip (i := 10) rfl rfl (by kernel_rfl) (by kernel_rfl) (by kernel_rfl) (by kernel_rfl) ⟨b0, b1', hv⟩ ?_
      try simp only [Act.put, List.setIfInBounds_toArray, List.set_cons_zero, List.set_cons_succ]
      refine take_skip (i := 11) rfl rfl (by kernel_rfl) (by kernel_rfl) (by kernel_rfl) (by kernel_rfl) ⟨b0, b1', hv⟩ ?_
      try simp only [Act.put, List.setIfInBounds_toArray, List.set_cons_zero, List.set_cons_succ]
      refine take_skip (i := 12) rfl rfl (by kernel_rfl) (by kernel_rfl) (by kernel_rfl) (by kernel_rfl) ⟨b0, b1', hv⟩ ?_
      try simp only [Act.put, List.setIfInBounds_toArray, List.set_cons_zero, List.set_cons_succ]
      refine take_free (i := 13) (v := .bool true) rfl rfl (by kernel_rfl) (by kernel_rfl) (by kernel_rfl) (by kernel_rfl) (fun _ => rfl) ⟨b0, b1', hv⟩ ?_
      try simp only [Act.put, List.setIfInBounds_toArray, List.set_cons_zero, List.set_cons_succ]
      refine take_free (i := 14) (v := .bool true) rfl rfl (by kernel_rfl) (by kernel_rfl) (by kernel_rfl) (by kernel_rfl) (fun _ => rfl) ⟨b0, b1', hv⟩ ?_
      try simp only [Act.put, List.setIfInBounds_toArray, List.set_cons_zero, List.set_cons_succ]
      refine take_skip (i := 15) rfl rfl (by kernel_rfl) (by kernel_rfl) (by kernel_rfl) (by kernel_rfl) ⟨b0, b1', hv⟩ ?_
      try simp only [Act.put, List.setIfInBounds_toArray, List.set_cons_zero, List.set_cons_succ]
      refine take_skip (i := 16) rfl rfl (by kernel_rfl) (by kernel_rfl) (by kernel_rfl) (by kernel_rfl) ⟨b0, b1', hv⟩ ?_
      try simp only [Act.put, List.setIfInBounds_toArray, List.set_cons_zero, List.set_cons_succ]
      refine take_skip (i := 17) rfl rfl (by kernel_rfl) (by kernel_rfl) (by kernel_rfl) (by kernel_rfl) ⟨b0, b1', hv⟩ ?_
      try simp only [Act.put, List.setIfInBounds_toArray, List.set_cons_zero, List.set_cons_succ]
      refine take_skip (i := 18) rfl rfl (by kernel_rfl) (by kernel_rfl) (by kernel_rfl) (by kernel_rfl) ⟨b0, b1', hv⟩ ?_
      try simp only [Act.put, List.setIfInBounds_toArray, List.set_cons_zero, List.set_cons_succ]
      refine take_skip (i := 19) rfl rfl (by kernel_rfl) (by kernel_rfl) (by kernel_rfl) (by kernel_rfl) ⟨b0, b1', hv⟩ ?_
      try simp only [Act.put, List.setIfInBounds_toArray, List.set_cons_zero, List.set_cons_succ]
      refine take_skip (i := 20) rfl rfl (by kernel_rfl) (by kernel_rfl) (by kernel_rfl) (by kernel_rfl) ⟨b0, b1', hv⟩ ?_
      try simp only [Act.put, List.setIfInBounds_toArray, List.set_cons_zero, List.set_cons_succ]
      refine take_free (i := 21) (v := .bool true) rfl rfl (by kernel_rfl) (by kernel_rfl) (by kernel_rfl) (by kernel_rfl) (fun _ => rfl) ⟨b0, b1', hv⟩ ?_
      try simp only [Act.put, List.setIfInBounds_toArray, List.set_cons_zero, List.set_cons_succ]
      refine wpAnyH_done (by kernel_rfl) (NoPanic.normal ?_) _
      go_wp2_with fail
      go_meet
      exact ⟨_, rfl, Lib.hid (fun h => nomatch h), b0, b1', hv⟩
    have M1 := (HM.out rfl).1
    have M2 := (HM.out rfl).2
    clear HM
    refine take_free (i := 4) (v := .bool false) rfl rfl (by kernel_rfl) (by kernel_rfl) (by kernel_rfl) (by kernel_rfl) (fun _ => rfl) ⟨b0, b1', hv⟩ ?_
    try simp only [Act.put, List.setIfInBounds_toArray, List.set_cons_zero, List.set_cons_succ]
    refine take_loadw (i := 5) (parr p).toList rfl rfl rfl (by kernel_rfl) (by kernel_rfl) (by kernel_rfl) (by kernel_rfl) rfl Tryz.underlying26 rfl (by kernel_rfl) (fun _ h => h.1.range 0 _ (fun j _ => by rw [Nat.zero_add, Array.getElem?_toList])) ⟨b0, b1', hv⟩ ?_
    try simp only [Act.put, List.setIfInBounds_toArray, List.set_cons_zero, List.set_cons_succ]
    refine wpAnyH_one (i := 6) (by kernel_rfl) rfl (by kernel_rfl) ?_
    go_simp
    refine (HK1.out M1 _ hv).mono ?_
    rintro e v3 ⟨rfl, hx0⟩
    replace b0 := b0.ext hx0
    replace b1' := b1'.ext hx0
    replace hv := hv.trans hx0
    refine ⟨⟨b0, b1', hv⟩, ?_⟩
    clear hx0
    try simp only [Act.put, List.setIfInBounds_toArray, List.set_cons_zero, List.set_cons_succ]
    by_cases k1 : a.check = 0
    rotate_left
    · have k1' : (a.check != 0) = true := by simpa using k1
      refine wpAnyH_one (i := 7) (by kernel_rfl) rfl (by kernel_rfl) ?_
      go_simp
      try simp only [k1']
      try simp only [Act.put, List.setIfInBounds_toArray, List.set_cons_zero, List.set_cons_succ]
      refine take_free (i := 8) (v := .bool true) rfl rfl (by kernel_rfl) (by kernel_rfl) (by kernel_rfl) (by kernel_rfl) (fun _ => rfl) ⟨b0, b1', hv⟩ ?_
      try simp only [Act.put, List.setIfInBounds_toArray, List.set_cons_zero, List.set_cons_succ]
      refine take_free (i := 9) (v := .bool true) rfl rfl (by kernel_rfl) (by kernel_rfl) (by kernel_rfl) (by kernel_rfl) (fun _ => rfl) ⟨b0, b1', hv⟩ ?_
      try simp only [Act.put, List.setIfInBounds_toArray, List.set_cons_zero, List.set_cons_succ]
      refine take_skip (i := 10) rfl rfl (by kernel_rfl) (by kernel_rfl) (by kernel_rfl) (by kernel_rfl) ⟨b0, b1', hv⟩ ?_
      try simp only [Act.put, List.setIfInBounds_toArray, List.set_cons_zero, List.set_cons_succ]
      refine take_skip (i := 11) rfl rfl (by kernel_rfl) (by kernel_rfl) (by kernel_rfl) (by kernel_rfl) ⟨b0, b1', hv⟩ ?_
      try simp only [Act.put, List.setIfInBounds_toArray, List.set_cons_zero, List.set_cons_succ]
      refine take_skip (i := 12) rfl rfl (by kernel_rfl) (by kernel_rfl) (by kernel_rfl) (by kernel_rfl) ⟨b0, b1', hv⟩ ?_
      try simp only [Act.put, List.setIfInBounds_toArray, List.set_cons_zero, List.set_cons_succ]
      refine take_free (i := 13) (v := .bool true) rfl rfl (by kernel_rfl) (by kernel_rfl) (by kernel_rfl) (by kernel_rfl) (fun _ => rfl) ⟨b0, b1', hv⟩ ?_
      try simp only [Act.put, List.setIfInBounds_toArray, List.set_cons_zero, List.set_cons_succ]
      refine take_free (i := 14) (v := .bool true) rfl rfl (by kernel_rfl) (by kernel_rfl) (by kernel_rfl) (by kernel_rfl) (fun _ => rfl) ⟨b0, b1', hv⟩ ?_
      try simp only [Act.put, List.setIfInBounds_toArray, List.set_cons_zero, List.set_cons_succ]
      refine take_skip (i := 15) rfl rfl (by kernel_rfl) (by kernel_rfl) (by kernel_rfl) (by kernel_rfl) ⟨b0, b1', hv⟩ ?_
      try simp only [Act.put, List.setIfInBounds_toArray, List.set_cons_zero, List.set_cons_succ]
      refine take_skip (i := 16) rfl rfl (by kernel_rfl) (by kernel_rfl) (by kernel_rfl) (by kernel_rfl) ⟨b0, b1', hv⟩ ?_
      try simp only [Act.put, List.setIfInBounds_toArray, List.set_cons_zero, List.set_cons_succ]
      refine take_skip (i := 17) rfl rfl (by kernel_rfl) (by kernel_rfl) (by kernel_rfl) (by kernel_rfl) ⟨b0, b1', hv⟩ ?_
      try simp only [Act.put, List.setIfInBounds_toArray, List.set_cons_zero, List.set_cons_succ]
      refine take_skip (i := 18) rfl rfl (by kernel_rfl) (by kernel_rfl) (by kernel_rfl) (by kernel_rfl) ⟨b0, b1', hv⟩ ?_
      try simp only [Act.put, List.setIfInBounds_toArray, List.set_cons_zero, List.set_cons_succ]
      refine take_skip (i := 19) rfl rfl (by kernel_rfl) (by kernel_rfl) (by kernel_rfl) (by kernel_rfl) ⟨b0, b1', hv⟩ ?_
      try simp only [Act.put, List.setIfInBounds_toArray, List.set_cons_zero, List.set_cons_succ]
      refine take_skip (i := 20) rfl rfl (by kernel_rfl) (by kernel_rfl) (by kernel_rfl) (by kernel_rfl) ⟨b0, b1', hv⟩ ?_
      try simp only [Act.put, List.setIfInBounds_toArray, List.set_cons_zero, List.set_cons_succ]
      refine take_free (i := 21) (v := .bool true) rfl rfl (by kernel_rfl) (by kernel_rfl) (by kernel_rfl) (by kernel_rfl) (fun _ => rfl) ⟨b0, b1', hv⟩ ?_
      try simp only [Act.put, List.setIfInBounds_toArray, List.set_cons_zero, List.set_cons_succ]
      refine wpAnyH_done (by kernel_rfl) (NoPanic.normal ?_) _
      go_wp2_with fail
      go_meet
      exact ⟨_, rfl, Lib.hid (fun h => nomatch h), b0, b1', hv⟩
    rw [k1]
    refine take_free (i := 7) (v := .bool false) rfl rfl (by kernel_rfl) (by kernel_rfl) (by kernel_rfl) (by kernel_rfl) (fun _ => rfl) ⟨b0, b1', hv⟩ ?_
    try simp only [Act.put, List.setIfInBounds_toArray, List.set_cons_zero, List.set_cons_succ]
    refine take_free (i := 8) (v := .bool false) rfl rfl (by kernel_rfl) (by kernel_rfl) (by kernel_rfl) (by kernel_rfl) (fun _ => rfl) ⟨b0, b1', hv⟩ ?_
    try simp only [Act.put, List.setIfInBounds_toArray, List.set_cons_zero, List.set_cons_succ]
    refine take_free (i := 9) (v := .bool false) rfl rfl (by kernel_rfl) (by kernel_rfl) (by kernel_rfl) (by kernel_rfl) (fun _ => rfl) ⟨b0, b1', hv⟩ ?_
    try simp only [Act.put, List.setIfInBounds_toArray, List.set_cons_zero, List.set_cons_succ]
    refine take_loadw (i := 10) (parr p').toList rfl rfl rfl (by kernel_rfl) (by kernel_rfl) (by kernel_rfl) (by kernel_rfl) rfl Tryz.underlying26 rfl (by kernel_rfl) (fun _ h => h.2.1.range 0 _ (fun j _ => by rw [Nat.zero_add, Array.getElem?_toList])) ⟨b0, b1', hv⟩ ?_
    try simp only [Act.put, List.setIfInBounds_toArray, List.set_cons_zero, List.set_cons_succ]
    refine wpAnyH_one (i := 11) (by kernel_rfl) rfl (by kernel_rfl) ?_
    go_simp
    refine (HK2.out M2 _ hv).mono ?_
    rintro e v4 ⟨rfl, hx0⟩
    replace b0 := b0.ext hx0
    replace b1' := b1'.ext hx0
    replace hv := hv.trans hx0
    refine ⟨⟨b0, b1', hv⟩, ?_⟩
    clear hx0
    try simp only [Act.put, List.setIfInBounds_toArray, List.set_cons_zero, List.set_cons_succ]
    by_cases k2 : b.check = 0
    rotate_left
    · have k2' : (b.check != 0) = true := by simpa using k2
      refine wpAnyH_one (i := 12) (by kernel_rfl) rfl (by kernel_rfl) ?_
      go_simp
      try simp only [k2']
      try simp only [Act.put, List.setIfInBounds_toArray, List.set_cons_zero, List.set_cons_succ]
      refine take_free (i := 13) (v := .bool true) rfl rfl (by kernel_rfl) (by kernel_rfl) (by kernel_rfl) (by kernel_rfl) (fun _ => rfl) ⟨b0, b1', hv⟩ ?_
      try simp only [Act.put, List.setIfInBounds_toArray, List.set_cons_zero, List.set_cons_succ]
      refine take_free (i := 14) (v := .bool true) rfl rfl (by kernel_rfl) (by kernel_rfl) (by kernel_rfl) (by kernel_rfl) (fun _ => rfl) ⟨b0, b1', hv⟩ ?_
      try simp only [Act.put, List.setIfInBounds_toArray, List.set_cons_zero, List.set_cons_succ]
      refine take_skip (i := 15) rfl rfl (by kernel_rfl) (by kernel_rfl) (by kernel_rfl) (by kernel_rfl) ⟨b0, b1', hv⟩ ?_
      try simp only [Act.put, List.setIfInBounds_toArray, List.set_cons_zero, List.set_cons_succ]
      refine take_skip (i := 16) rfl rfl (by kernel_rfl) (by kernel_rfl) (by kernel_rfl) (by kernel_rfl) ⟨b0, b1', hv⟩ ?_
      try simp only [Act.put, List.setIfInBounds_toArray, List.set_cons_zero, List.set_cons_succ]
      refine take_skip (i := 17) rfl rfl (by kernel_rfl) (by kernel_rfl) (by kernel_rfl) (by kernel_rfl) ⟨b0, b1', hv⟩ ?_
      try simp only [Act.put, List.setIfInBounds_toArray, List.set_cons_zero, List.set_cons_succ]
      refine take_skip (i := 18) rfl rfl (by kernel_rfl) (by kernel_rfl) (by kernel_rfl) (by kernel_rfl) ⟨b0, b1', hv⟩ ?_
      try simp only [Act.put, List.setIfInBounds_toArray, List.set_cons_zero, List.set_cons_succ]
      refine take_skip (i := 19) rfl rfl (by kernel_rfl) (by kernel_rfl) (by kernel_rfl) (by kernel_rfl) ⟨b0, b1', hv⟩ ?_
      try simp only [Act.put, List.setIfInBounds_toArray, List.set_cons_zero, List.set_cons_succ]
      refine take_skip (i := 20) rfl rfl (by kernel_rfl) (by kernel_rfl) (by kernel_rfl) (by kernel_rfl) ⟨b0, b1', hv⟩ ?_
      try simp only [Act.put, List.setIfInBounds_toArray, List.set_cons_zero, List.set_cons_succ]
      refine take_free (i := 21) (v := .bool true) rfl rfl (by kernel_rfl) (by kernel_rfl) (by kernel_rfl) (by kernel_rfl) (fun _ => rfl) ⟨b0, b1', hv⟩ ?_
      try simp only [Act.put, List.setIfInBounds_toArray, List.set_cons_zero, List.set_cons_succ]
      refine wpAnyH_done (by kernel_rfl) (NoPanic.normal ?_) _
      go_wp2_with fail
      go_meet
      exact ⟨_, rfl, Lib.hid (fun h => nomatch h), b0, b1', hv⟩
    rw [k2]
    refine take_free (i := 12) (v := .bool false) rfl rfl (by kernel_rfl) (by kernel_rfl) (by kernel_rfl) (by kernel_rfl) (fun _ => rfl) ⟨b0, b1', hv⟩ ?_
    try simp only [Act.put, List.setIfInBounds_toArray, List.set_cons_zero, List.set_cons_succ]
    refine take_free (i := 13) (v := .bool false) rfl rfl (by kernel_rfl) (by kernel_rfl) (by kernel_rfl) (by kernel_rfl) (fun _ => rfl) ⟨b0, b1', hv⟩ ?_
    try simp only [Act.put, List.setIfInBounds_toArray, List.set_cons_zero, List.set_cons_succ]
    refine take_free (i := 14) (v := .bool false) rfl rfl (by kernel_rfl) (by kernel_rfl) (by kernel_rfl) (by kernel_rfl) (fun _ => rfl) ⟨b0, b1', hv⟩ ?_
    try simp only [Act.put, List.setIfInBounds_toArray, List.set_cons_zero, List.set_cons_succ]
    refine take_loadw (i := 15) (parr p).toList rfl rfl rfl (by kernel_rfl) (by kernel_rfl) (by kernel_rfl) (by kernel_rfl) rfl Tryz.underlying26 rfl (by kernel_rfl) (fun _ h => h.1.range 0 _ (fun j _ => by rw [Nat.zero_add, Array.getElem?_toList])) ⟨b0, b1', hv⟩ ?_
    try simp only [Act.put, List.setIfInBounds_toArray, List.set_cons_zero, List.set_cons_succ]
    refine take_loadw (i := 17) (parr p').toList rfl rfl rfl (by kernel_rfl) (by kernel_rfl) (by kernel_rfl) (by kernel_rfl) rfl Tryz.underlying26 rfl (by kernel_rfl) (fun _ h => h.2.1.range 0 _ (fun j _ => by rw [Nat.zero_add, Array.getElem?_toList])) ⟨b0, b1', hv⟩ ?_
    try simp only [Act.put, List.setIfInBounds_toArray, List.set_cons_zero, List.set_cons_succ]
    refine wpAnyH_one (i := 16) (by kernel_rfl) rfl (by kernel_rfl) ?_
    go_simp
    refine (HT1.out M1 _ hv).mono ?_
    rintro e v5 ⟨A1, m1, c1, l1, rfl, L1, n1, s1, t1, hx0⟩
    replace b0 := b0.ext hx0
    replace b1' := b1'.ext hx0
    replace hv := hv.trans hx0
    refine ⟨⟨b0, b1', hv⟩, ?_⟩
    clear hx0
    try simp only [Act.put, List.setIfInBounds_toArray, List.set_cons_zero, List.set_cons_succ]
    refine wpAnyH_one (i := 18) (by kernel_rfl) rfl (by kernel_rfl) ?_
    go_simp
    refine (HT2.out M2 _ hv).mono ?_
    rintro e v6 ⟨A2, m2, c2, l2, rfl, L2, n2, s2, t2, hx0⟩
    replace b0 := b0.ext hx0
    replace b1' := b1'.ext hx0
    replace hv := hv.trans hx0
    replace L1 := Lib.hid (L1.out.ext hx0)
    refine ⟨⟨b0, b1', hv⟩, ?_⟩
    clear hx0
    try simp only [Act.put, List.setIfInBounds_toArray, List.set_cons_zero, List.set_cons_succ]
    refine wpAnyH_one (i := 19) (by kernel_rfl) rfl (by kernel_rfl) ?_
    go_simp
    refine (rapart_same A1 A2 m1 m2 c1 c2 l1 l2 _ L1.out L2.out (by omega) (by omega) s1.out s2.out).mono ?_
    rintro e v7 ⟨rfl, rfl⟩
    refine ⟨⟨b0, b1', hv⟩, ?_⟩
    have HP : Hid ((l1.all fun s => noneMeets s l2) = true → Apart a b) := Lib.hid (apart_of_touched (t1.out k1) (t2.out k2))
    generalize (l1.all fun s => noneMeets s l2) = z at HP ⊢
    try simp only [Act.put, List.setIfInBounds_toArray, List.set_cons_zero, List.set_cons_succ]
    cases z
    ·
      refine take_free (i := 20) (v := .bool true) rfl rfl (by kernel_rfl) (by kernel_rfl) (by kernel_rfl) (by kernel_rfl) (fun _ => rfl) ⟨b0, b1', hv⟩ ?_
      try simp only [Act.put, List.setIfInBounds_toArray, List.set_cons_zero, List.set_cons_succ]
      refine take_free (i := 21) (v := .bool true) rfl rfl (by kernel_rfl) (by kernel_rfl) (by kernel_rfl) (by kernel_rfl) (fun _ => rfl) ⟨b0, b1', hv⟩ ?_
      try simp only [Act.put, List.setIfInBounds_toArray, List.set_cons_zero, List.set_cons_succ]
      refine wpAnyH_done (by kernel_rfl) (NoPanic.normal ?_) _
      go_wp2_with fail
      go_meet
      exact ⟨_, rfl, Lib.hid (fun h => nomatch h), b0, b1', hv⟩
    ·
      refine take_free (i := 20) (v := .bool false) rfl rfl (by kernel_rfl) (by kernel_rfl) (by kernel_rfl) (by kernel_rfl) (fun _ => rfl) ⟨b0, b1', hv⟩ ?_
      try simp only [Act.put, List.setIfInBounds_toArray, List.set_cons_zero, List.set_cons_succ]
      refine take_free (i := 21) (v := .bool false) rfl rfl (by kernel_rfl) (by kernel_rfl) (by kernel_rfl) (by kernel_rfl) (fun _ => rfl) ⟨b0, b1', hv⟩ ?_
      try simp only [Act.put, List.setIfInBounds_toArray, List.set_cons_zero, List.set_cons_succ]
      refine wpAnyH_done (by kernel_rfl) (NoPanic.normal ?_) _
      go_wp2_with fail
      go_meet
      exact ⟨_, rfl, Lib.hid (fun _ => ⟨⟨M1, M2⟩, k1, k2, HP.out trivial⟩), b0, b1', hv⟩
  case rest =>
    obtain ⟨v, rfl, HV, hb0, hb1, hx⟩ := hcut
    clear HGR HK1 HK2 HT1 HT2
    cases v
    rotate_left
    ·
      have hc0 := hb0.cell
      have hf0 := hb0.frozen
      have hl0 := hb0.lt
      have hc1 := hb1.cell
      have hf1 := hb1.frozen
      have hl1 := hb1.lt
      go_wp2_with fail
      refine (HAW.out _ (by (repeat (first | with_reducible exact hx | with_reducible exact Ext.refl _ | with_reducible refine Ext.alloc ?_ _ | with_reducible refine Ext.drewN ?_ _ | with_reducible refine Ext.drew1 ?_ | ((with_reducible refine Ext.setCell ?_ ?_ _); rotate_left; (focus (first | (dsimp only; omega) | (simp; done) | (simp; omega)))))))).mono ?_
      rintro e w9 ⟨rfl, hx0⟩
      have hx1 := Ext.trans (a := w) (by (repeat (first | with_reducible exact hx | with_reducible exact Ext.refl _ | with_reducible refine Ext.alloc ?_ _ | with_reducible refine Ext.drewN ?_ _ | with_reducible refine Ext.drew1 ?_ | ((with_reducible refine Ext.setCell ?_ ?_ _); rotate_left; (focus (first | (dsimp only; omega) | (simp; done) | (simp; omega))))))) hx0
      clear hx hx0
      have hx := hx1
      clear hx1
      go_wp2_with fail
      (go_ret; refine Ret.mk ?_ ?_; (focus (rfl; done)); (focus ((repeat (first | with_reducible exact hx | with_reducible exact Ext.refl _ | with_reducible refine Ext.alloc ?_ _ | with_reducible refine Ext.drewN ?_ _ | with_reducible refine Ext.drew1 ?_ | ((with_reducible refine Ext.setCell ?_ ?_ _); rotate_left; (focus (first | (dsimp only; omega) | (simp; done) | (simp; omega)))))); done)))
    have hv := HV.out rfl
    clear HV
    have HCM := Lib.hid (HCM.out hv.1)
    have HMG := Lib.hid (HMG.out hv.1)
    rw [commute_apart hv.2.2.2 hv.2.1 hv.2.2.1] at HCM
    have em : a.merge b = (b, a, true) := by
      unfold Qp.merge
      rw [if_neg (by rw [hv.2.1]; simp), merge_apart hv.2.2.2 hv.2.1 hv.2.2.1, inv_inv hv.2.1]
      rfl
    rw [em] at HMG
    clear em hv
    dsimp only at HCM HMG
    have hc0 := hb0.cell
    have hf0 := hb0.frozen
    have hl0 := hb0.lt
    have hc1 := hb1.cell
    have hf1 := hb1.frozen
    have hl1 := hb1.lt
    go_wp2_with fail
    clear hc0 hf0 hl0 hc1 hf1 hl1
    refine (HCM.out _ (by (repeat (first | with_reducible exact hx | with_reducible exact Ext.refl _ | with_reducible refine Ext.alloc ?_ _ | with_reducible refine Ext.drewN ?_ _ | with_reducible refine Ext.drew1 ?_ | ((with_reducible refine Ext.setCell ?_ ?_ _); rotate_left; (focus (first | (dsimp only; omega) | (simp; done) | (simp; omega)))))))).mono ?_
    rintro e w2 ⟨P1, P2, rfl, i1, i2, hx0⟩
    have I1 := Lib.hid i1
    have I2 := Lib.hid i2
    clear HCM i1 i2
    replace hb0 := hb0.ext hx0
    replace hb1 := hb1.ext hx0
    have hx1 := Ext.trans (a := w) (by (repeat (first | with_reducible exact hx | with_reducible exact Ext.refl _ | with_reducible refine Ext.alloc ?_ _ | with_reducible refine Ext.drewN ?_ _ | with_reducible refine Ext.drew1 ?_ | ((with_reducible refine Ext.setCell ?_ ?_ _); rotate_left; (focus (first | (dsimp only; omega) | (simp; done) | (simp; omega))))))) hx0
    clear hx hx0
    have hx := hx1
    clear hx1
    dsimp only
    have hc0 := hb0.cell
    have hf0 := hb0.frozen
    have hl0 := hb0.lt
    have hc1 := hb1.cell
    have hf1 := hb1.frozen
    have hl1 := hb1.lt
    go_wp2_with fail
    clear hc0 hf0 hl0 hc1 hf1 hl1
    refine (HMG.out _ (by (repeat (first | with_reducible exact hx | with_reducible exact Ext.refl _ | with_reducible refine Ext.alloc ?_ _ | with_reducible refine Ext.drewN ?_ _ | with_reducible refine Ext.drew1 ?_ | ((with_reducible refine Ext.setCell ?_ ?_ _); rotate_left; (focus (first | (dsimp only; omega) | (simp; done) | (simp; omega)))))))).mono ?_
    rintro e w3 ⟨X1, X2, rfl, J1, J2, hx0⟩
    have hs : Ext w2 w3 := ((Ext.refl w2).alloc _ |>.alloc _).trans hx0
    have hb5 : Blk w3 w2.heap.size 26 (parr P1) := Blk.ext hx0 (Blk.alloc (Blk.new' (by simp)) _)
    have hb6 : Blk w3 (w2.heap.size + 1) 26 (parr P2) := Blk.ext hx0 (Blk.new' (by simp))
    replace hb0 := Blk.ext hx0 (Blk.alloc (Blk.alloc hb0 _) _)
    replace hb1 := Blk.ext hx0 (Blk.alloc (Blk.alloc hb1 _) _)
    have hx1 := Ext.trans (a := w) (by (repeat (first | with_reducible exact hx | with_reducible exact Ext.refl _ | with_reducible refine Ext.alloc ?_ _ | with_reducible refine Ext.drewN ?_ _ | with_reducible refine Ext.drew1 ?_ | ((with_reducible refine Ext.setCell ?_ ?_ _); rotate_left; (focus (first | (dsimp only; omega) | (simp; done) | (simp; omega))))))) hx0
    clear hx hx0
    have hx := hx1
    clear hx1
    have HS1 := Lib.hid (fun W (hW : Ext w3 W) => psame_true P1 p' b W (I1.out.ext (hs.trans hW)) (HB.out.ext (hx.trans hW)) b3 b4)
    have HS2 := Lib.hid (fun W (hW : Ext w3 W) => psame_true P2 p a W (I2.out.ext (hs.trans hW)) (HA.out.ext (hx.trans hW)) b1 b2)
    have HS3 := Lib.hid (fun W (hW : Ext w3 W) => psame_true X1 p' b W (J1.out.ext hW) (HB.out.ext (hx.trans hW)) b3 b4)
    have HS4 := Lib.hid (fun W (hW : Ext w3 W) => psame_true X2 p a W (J2.out.ext hW) (HA.out.ext (hx.trans hW)) b1 b2)
    clear I1 I2 J1 J2 HA HB HMG hs
    dsimp only
    have hc0 := hb0.cell
    have hf0 := hb0.frozen
    have hl0 := hb0.lt
    have hc1 := hb1.cell
    have hf1 := hb1.frozen
    have hl1 := hb1.lt
    have hc5 := hb5.cell
    have hf5 := hb5.frozen
    have hl5 := hb5.lt
    have hc6 := hb6.cell
    have hf6 := hb6.frozen
    have hl6 := hb6.lt
    go_wp2_with fail
    clear hc0 hf0 hl0 hc1 hf1 hl1 hc5 hf5 hl5 hc6 hf6 hl6
    refine (HS1.out _ ((Ext.refl w3).alloc _ |>.alloc _)).mono ?_
    rintro e w4 ⟨rfl, hx0⟩
    have hb8 : Blk w4 w3.heap.size 26 (parr X1) := Blk.ext hx0 (Blk.alloc (Blk.new' (by simp)) _)
    have hb9 : Blk w4 (w3.heap.size + 1) 26 (parr X2) := Blk.ext hx0 (Blk.new' (by simp))
    have hs : Ext w3 w4 := ((Ext.refl w3).alloc _ |>.alloc _).trans hx0
    replace hb0 := Blk.ext hx0 (Blk.alloc (Blk.alloc hb0 _) _)
    replace hb1 := Blk.ext hx0 (Blk.alloc (Blk.alloc hb1 _) _)
    replace hb5 := Blk.ext hx0 (Blk.alloc (Blk.alloc hb5 _) _)
    replace hb6 := Blk.ext hx0 (Blk.alloc (Blk.alloc hb6 _) _)
    have hx1 := Ext.trans (a := w) (by (repeat (first | with_reducible exact hx | with_reducible exact Ext.refl _ | with_reducible refine Ext.alloc ?_ _ | with_reducible refine Ext.drewN ?_ _ | with_reducible refine Ext.drew1 ?_ | ((with_reducible refine Ext.setCell ?_ ?_ _); rotate_left; (focus (first | (dsimp only; omega) | (simp; done) | (simp; omega))))))) hx0
    clear hx hx0
    have hx := hx1
    clear hx1
    have hc0 := hb0.cell
    have hf0 := hb0.frozen
    have hl0 := hb0.lt
    have hc1 := hb1.cell
    have hf1 := hb1.frozen
    have hl1 := hb1.lt
    have hc5 := hb5.cell
    have hf5 := hb5.frozen
    have hl5 := hb5.lt
    have hc6 := hb6.cell
    have hf6 := hb6.frozen
    have hl6 := hb6.lt
    have hc8 := hb8.cell
    have hf8 := hb8.frozen
    have hl8 := hb8.lt
    have hc9 := hb9.cell
    have hf9 := hb9.frozen
    have hl9 := hb9.lt
    go_wp2_with fail
    clear hc0 hf0 hl0 hc1 hf1 hl1 hc5 hf5 hl5 hc6 hf6 hl6 hc8 hf8 hl8 hc9 hf9 hl9
    refine (HS2.out _ hs).mono ?_
    rintro e w5 ⟨rfl, hx0⟩
    replace hs := hs.trans hx0
    replace hb0 := hb0.ext hx0
    replace hb1 := hb1.ext hx0
    replace hb5 := hb5.ext hx0
    replace hb6 := hb6.ext hx0
    replace hb8 := hb8.ext hx0
    replace hb9 := hb9.ext hx0
    have hx1 := Ext.trans (a := w) (by (repeat (first | with_reducible exact hx | with_reducible exact Ext.refl _ | with_reducible refine Ext.alloc ?_ _ | with_reducible refine Ext.drewN ?_ _ | with_reducible refine Ext.drew1 ?_ | ((with_reducible refine Ext.setCell ?_ ?_ _); rotate_left; (focus (first | (dsimp only; omega) | (simp; done) | (simp; omega))))))) hx0
    clear hx hx0
    have hx := hx1
    clear hx1
    have hc0 := hb0.cell
    have hf0 := hb0.frozen
    have hl0 := hb0.lt
    have hc1 := hb1.cell
    have hf1 := hb1.frozen
    have hl1 := hb1.lt
    have hc5 := hb5.cell
    have hf5 := hb5.frozen
    have hl5 := hb5.lt
    have hc6 := hb6.cell
    have hf6 := hb6.frozen
    have hl6 := hb6.lt
    have hc8 := hb8.cell
    have hf8 := hb8.frozen
    have hl8 := hb8.lt
    have hc9 := hb9.cell
    have hf9 := hb9.frozen
    have hl9 := hb9.lt
    go_wp2_with fail
    clear hc0 hf0 hl0 hc1 hf1 hl1 hc5 hf5 hl5 hc6 hf6 hl6 hc8 hf8 hl8 hc9 hf9 hl9
    refine (HS3.out _ hs).mono ?_
    rintro e w6 ⟨rfl, hx0⟩
    replace hs := hs.trans hx0
    replace hb0 := hb0.ext hx0
    replace hb1 := hb1.ext hx0
    replace hb5 := hb5.ext hx0
    replace hb6 := hb6.ext hx0
    replace hb8 := hb8.ext hx0
    replace hb9 := hb9.ext hx0
    have hx1 := Ext.trans (a := w) (by (repeat (first | with_reducible exact hx | with_reducible exact Ext.refl _ | with_reducible refine Ext.alloc ?_ _ | with_reducible refine Ext.drewN ?_ _ | with_reducible refine Ext.drew1 ?_ | ((with_reducible refine Ext.setCell ?_ ?_ _); rotate_left; (focus (first | (dsimp only; omega) | (simp; done) | (simp; omega))))))) hx0
    clear hx hx0
    have hx := hx1
    clear hx1
    have hc0 := hb0.cell
    have hf0 := hb0.frozen
    have hl0 := hb0.lt
    have hc1 := hb1.cell
    have hf1 := hb1.frozen
    have hl1 := hb1.lt
    have hc5 := hb5.cell
    have hf5 := hb5.frozen
    have hl5 := hb5.lt
    have hc6 := hb6.cell
    have hf6 := hb6.frozen
    have hl6 := hb6.lt
    have hc8 := hb8.cell
    have hf8 := hb8.frozen
    have hl8 := hb8.lt
    have hc9 := hb9.cell
    have hf9 := hb9.frozen
    have hl9 := hb9.lt
    go_wp2_with fail
    clear hc0 hf0 hl0 hc1 hf1 hl1 hc5 hf5 hl5 hc6 hf6 hl6 hc8 hf8 hl8 hc9 hf9 hl9
    refine (HS4.out _ hs).mono ?_
    rintro e w7 ⟨rfl, hx0⟩
    replace hs := hs.trans hx0
    replace hb0 := hb0.ext hx0
    replace hb1 := hb1.ext hx0
    replace hb5 := hb5.ext hx0
    replace hb6 := hb6.ext hx0
    replace hb8 := hb8.ext hx0
    replace hb9 := hb9.ext hx0
    have hx1 := Ext.trans (a := w) (by (repeat (first | with_reducible exact hx | with_reducible exact Ext.refl _ | with_reducible refine Ext.alloc ?_ _ | with_reducible refine Ext.drewN ?_ _ | with_reducible refine Ext.drew1 ?_ | ((with_reducible refine Ext.setCell ?_ ?_ _); rotate_left; (focus (first | (dsimp only; omega) | (simp; done) | (simp; omega))))))) hx0
    clear hx hx0
    have hx := hx1
    clear hx1
    have hc0 := hb0.cell
    have hf0 := hb0.frozen
    have hl0 := hb0.lt
    have hc1 := hb1.cell
    have hf1 := hb1.frozen
    have hl1 := hb1.lt
    have hc5 := hb5.cell
    have hf5 := hb5.frozen
    have hl5 := hb5.lt
    have hc6 := hb6.cell
    have hf6 := hb6.frozen
    have hl6 := hb6.lt
    have hc8 := hb8.cell
    have hf8 := hb8.frozen
    have hl8 := hb8.lt
    have hc9 := hb9.cell
    have hf9 := hb9.frozen
    have hl9 := hb9.lt
    go_wp2_with fail
    refine (HAW.out _ (by (repeat (first | with_reducible exact hx | with_reducible exact Ext.refl _ | with_reducible refine Ext.alloc ?_ _ | with_reducible refine Ext.drewN ?_ _ | with_reducible refine Ext.drew1 ?_ | ((with_reducible refine Ext.setCell ?_ ?_ _); rotate_left; (focus (first | (dsimp only; omega) | (simp; done) | (simp; omega)))))))).mono ?_
    rintro e w9 ⟨rfl, hx0⟩
    have hx1 := Ext.trans (a := w) (by (repeat (first | with_reducible exact hx | with_reducible exact Ext.refl _ | with_reducible refine Ext.alloc ?_ _ | with_reducible refine Ext.drewN ?_ _ | with_reducible refine Ext.drew1 ?_ | ((with_reducible refine Ext.setCell ?_ ?_ _); rotate_left; (focus (first | (dsimp only; omega) | (simp; done) | (simp; omega))))))) hx0
    clear hx hx0
    have hx := hx1
    clear hx1
    go_wp2_with fail
    (go_ret; refine Ret.mk ?_ ?_; (focus (rfl; done)); (focus ((repeat (first | with_reducible exact hx | with_reducible exact Ext.refl _ | with_reducible refine Ext.alloc ?_ _ | with_reducible refine Ext.drewN ?_ _ | with_reducible refine Ext.drew1 ?_ | ((with_reducible refine Ext.setCell ?_ ?_ _); rotate_left; (focus (first | (dsimp only; omega) | (simp; done) | (simp; omega)))))); done)))
end Go.Proofs.YtdbjdekbdpdkaaaGreatDoor
