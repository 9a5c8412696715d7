/- Walks: ignore: files sorted by the lengths of their directories, the longest first. Walks: ignore: the files above a path, the nearest first. -/
import Derived.Test.YtnjcifppkijanaaGreatDoorPH
import Derived.Test.YtnjcifppkijanaaGreatDoorSe
set_option linter.unusedSimpArgs false
set_option linter.unusedVariables false
namespace Go.Proofs.YtnjcifppkijanaaGreatDoor
open Go Go.RowKit
open Go.Sort (HoldsK putRowK holdsK_grow)

/-- A file and where its rules lie. -/
abbrev Fx := Ig.Fi × Option Addr × Nat × Nat
instance : Inhabited Ig.Fi := ⟨⟨⟨#[]⟩, []⟩⟩
def fie (f : Fx) : List Value := [.string f.1.dir, .slice f.2.1 f.2.2.1 f.2.2.2]
def fic (x y : Fx) : Int := Lib.compareInt y.1.dir.size x.1.dir.size
theorem fie_len (f : Fx) : (fie f).length = 2 := rfl
theorem fie_one (f : Fx) : ∀ v ∈ fie f, v.oneCell' = true := fun v hv => by
  simp [fie] at hv
  rcases hv with rfl | rfl <;> rfl
theorem fic_lt (x y : Fx) : ltOf fic x y = decide (y.1.dir.size < x.1.dir.size) := by
  unfold ltOf fic Lib.compareInt
  rw [decide_eq_decide]
  split
  · simp; omega
  · split
    · simp; omega
    · simp; omega
theorem fic_swo : Sort.SWO (ltOf fic) where
  irrefl x := by rw [fic_lt]; simp
  trans x y z h1 h2 := by rw [fic_lt] at *; simp at *; omega
  ntrans x y z h1 h2 := by rw [fic_lt] at *; simp at *; omega
set_option maxHeartbeats 1000000 in
set_option maxRecDepth 100000 in
theorem cmpf_any (x y : Fx) (W : World) : Calls Tryz.prog 126 #[.agg (fie x).toArray, .agg (fie y).toArray] W fun e w' => e = .returned (.int .i64 (fic x y)) ∧ ∃ q os', w' = Sort.grow (W.drewN q) os' := by
  obtain ⟨⟨d1, r1⟩, A1, n1, c1⟩ := x
  obtain ⟨⟨d2, r2⟩, A2, n2, c2⟩ := y
  unfold fie fic
  dsimp only
  have hx := Ext.refl W
  obtain ⟨hcr, hfr, hlr⟩ := (Blk.alloc (Blk.new' (w := W) (g := W.heap.size) (cs := #[.string d1, .slice A1 n1 c1]) (t := 32) rfl) (.cells #[.string d2, .slice A2 n2 c2] 32)).all
  obtain ⟨hcs, hfs, hls⟩ := (Blk.new' (w := W.alloc (.cells #[.string d1, .slice A1 n1 c1] 32)) (g := W.heap.size + 1) (cs := #[.string d2, .slice A2 n2 c2]) (t := 32) (by simp)).all
  go_enter Tryz.func126, Tryz.ntmps126
  go_wp2_with fail
  refine (Tryz.cmp_Compare_int _ _ _).mono ?_
  rintro e w1 ⟨rfl, rfl⟩
  go_wp2_with fail
  go_ret
  exact ⟨rfl, 0, _, by rw [Sort.alloc_eq_grow, Sort.alloc_eq_grow, Sort.grow_grow]; rfl⟩
theorem cmpf_lays (blk off size : Nat) (w : World) : CmpLays Tryz.prog 126 #[] fie 2 fic blk off size w :=
  fun _ _ _ _ x y => cmpf_any x y _

set_option maxHeartbeats 2000000 in
theorem sortf_any (g c : Nat) (l : List Fx) (w : World) (hH : HoldsK fie 2 w g 0 l.toArray) (hg : g < w.heap.size) (hs : l.length ≤ 1000000) :
    Calls Tryz.prog 143 #[.slice (some ⟨g, 0, none⟩) l.length c, .func (.func 126) #[] #[]] w fun e w' =>
      e = .returned (.tuple #[]) ∧ ∃ d : List Fx, d.Perm l ∧ d.Pairwise (fun a b => b.1.dir.size ≤ a.1.dir.size) ∧ HoldsK fie 2 w' g 0 d.toArray ∧ w.grownBy w' (some g) := by
  have eg : ∀ args w, (callFunc 126 args).run Tryz.prog w = .ok (.enter 126 args) w := enters_of Tryz.func126 (by kernel_rfl) rfl
  have hsz : l.toArray.size < 4611686018427387904 := by simp; omega
  have hlim : Lib.bitLen l.toArray.size < 4611686018427387904 := Nat.lt_of_le_of_lt (Lib.bitLen_le l.toArray.size 62 (by omega) (by omega)) (by omega)
  have hp := AnyQ.pdqsortCmpFunc_all Tryz.laysSortF 2 Tryz.isAgg32 Tryz.sizeOf32 fie fic 126 #[] fic_swo g 0 c l.toArray w eg (cmpf_lays g 0 _ w) ⟨fie_len, fie_one, hH, hg⟩ (l.toArray.size + 1) 0 l.toArray.size (Lib.bitLen l.toArray.size) l.toArray w (by omega) rfl (SWK.start hH) (Nat.zero_le _) (Nat.le_refl _) hsz hlim (Or.inl rfl)
  change Calls Tryz.prog 155 _ _ _ at hp
  have hq := Sort.pdq_sorts (ltOf fic) fic_swo l.toArray 0 l.toArray.size (Lib.bitLen l.toArray.size) true true (Nat.zero_le _) (Nat.le_refl _) (Or.inl rfl)
  generalize Sort.pdq (ltOf fic) l.toArray 0 l.toArray.size (Lib.bitLen l.toArray.size) true true = d at hp hq
  have hl : Calls Tryz.prog 156 #[.int .u64 (l.length : Int)] w fun e w' => e = .returned (.int .i64 (Lib.bitLen l.toArray.size : Nat)) ∧ w' = w := by
    have h := Any.bits_Len Tryz.laysLen (l.length : Int) w (by omega) (by omega)
    rw [Int.toNat_natCast] at h
    change Calls Tryz.prog 156 _ _ _ at h
    simpa using h
  have hfin : ∀ w', SWK fie 2 w g 0 d w' → ∃ d : List Fx, d.Perm l ∧ d.Pairwise (fun a b => b.1.dir.size ≤ a.1.dir.size) ∧ HoldsK fie 2 w' g 0 d.toArray ∧ w.grownBy w' (some g) := by
    rintro w' ⟨m, os, rfl⟩
    obtain ⟨⟨q1, _, q3⟩, q4⟩ := hq
    refine ⟨d.toList, ?_, ?_, ?_, ?_⟩
    · have e1 : d.extract 0 l.toArray.size = d := by rw [← q1]; simp
      have e2 : l.toArray.extract 0 l.toArray.size = l.toArray := by simp
      rw [e1, e2] at q3
      simpa using q3
    · rw [List.pairwise_iff_getElem]
      intro i j hi hj hij
      have := q4 i j (Nat.zero_le _) hij (by rw [← q1]; simpa using hj)
      rw [fic_lt] at this
      rw [getElem!_pos d j (by simpa using hj), getElem!_pos d i (by simpa using hi)] at this
      simpa using this
    · have := holdsK_sortWorldK_c fie 2 w g 0 l.toArray d m os hH hg q1
      simpa using this
    · refine ⟨rfl, rfl, rfl, by simp [sortWorldK, putRowK, Sort.putRow, Sort.mapBlock, Sort.ahead, Sort.grow], fun k hk hne => ?_⟩
      unfold sortWorldK
      rw [Sort.heap_grow_old _ _ (by simpa [putRowK, Sort.putRow, Sort.mapBlock, Sort.ahead] using hk)]
      have : g ≠ k := fun e => hne (by rw [e])
      simp [putRowK, Sort.putRow, Sort.mapBlock, Sort.ahead, Array.getElem?_modify, this]
  have Hfin := Lib.hid hfin
  have wr : IntKind.u64.wrap (l.length : Int) = l.length := by simp [IntKind.wrap, IntKind.bits, IntKind.signed]; omega
  have e0 : l.toArray.size = l.length := by simp
  rw [e0] at hp
  generalize Lib.bitLen l.toArray.size = bl at hp hl
  clear hfin hq hH hlim hsz e0
  go_enter Tryz.func143, Tryz.ntmps143
  go_wp2_with (first | (go_at_call 156; refine hl.mono ?_; rintro e w' ⟨rfl, rfl⟩) | (go_at_call 155; refine Calls.mono hp ?_; rintro e w' ⟨rfl, hS⟩))
  go_end0
  exact ⟨rfl, Hfin.out _ hS⟩

theorem fx_rows {w : World} {F : Nat → Prop} : ∀ (cs : List (List Value)) (l : List Ig.Fi), cs.length = l.length → (∀ (i : Nat) c x, cs[i]? = some c → l[i]? = some x → FiR w F c x) → ∃ xs : List Fx, xs.map (·.1) = l ∧ xs.map fie = cs ∧ ∀ x ∈ xs, FiR w F (fie x) x.1
  | [], [], _, _ => ⟨[], rfl, rfl, fun _ h => nomatch h⟩
  | [], _ :: _, h, _ => nomatch h
  | _ :: _, [], h, _ => nomatch h
  | c :: cs, f :: l, h, hr => by
    obtain ⟨xs, h1, h2, h3⟩ := fx_rows cs l (by simpa using h) (fun i c x hc hx => hr (i + 1) c x (by simpa using hc) (by simpa using hx))
    have h0 := hr 0 c f rfl rfl
    obtain ⟨A, n, m, rfl, r⟩ := id h0
    refine ⟨(f, A, n, m) :: xs, by simp [h1], by simp [h2, fie], fun x hx => ?_⟩
    rcases List.mem_cons.1 hx with rfl | hx
    · exact h0
    · exact h3 x hx
theorem fie_get {xs : List Fx} {j : Nat} (h : j < xs.length * 2) : (xs.map fie).flatten[j]? = some (Sort.flatK fie 2 xs.toArray)[j]! := by
  rw [Sort.get_flatK _ _ _ _ (by simpa using h)]
  have h1 : j / 2 < xs.length := by omega
  have h2 : (xs.map fie)[j / 2]? = some (fie (xs[j / 2]'h1)) := by rw [List.getElem?_map, List.getElem?_eq_getElem h1]; rfl
  have h3 := flatten_at (k := 2) (fun c hc => by obtain ⟨x, _, rfl⟩ := List.mem_map.1 hc; rfl) h2 (j := j % 2) (by omega)
  rw [show j / 2 * 2 + j % 2 = j by omega] at h3
  rw [h3, getElem!_pos xs.toArray (j / 2) (by simpa using h1)]
  have h4 : j % 2 < 2 := by omega
  simp only [List.getElem_toArray]
  generalize xs[j / 2] = f
  rcases (show j % 2 = 0 ∨ j % 2 = 1 by omega) with e | e <;> rw [e] <;> rfl
theorem fx_flat (xs : List Fx) : (xs.map fie).flatten.length = xs.length * 2 := by
  rw [flatten_len (k := 2) (fun c hc => by obtain ⟨x, _, rfl⟩ := List.mem_map.1 hc; rfl), List.length_map]
set_option maxRecDepth 100000 in
theorem sortf_nil (w : World) : Calls Tryz.prog 143 #[.slice none 0 0, .func (.func 126) #[] #[]] w (fun e w' => e = .returned (.tuple #[]) ∧ Ext w w') := by
  have hi : ∀ W, Calls Tryz.prog 164 #[.slice none 0 0, .int .i64 0, .int .i64 0, .func (.func 126) #[] #[]] W (fun e w' => e = .returned (.tuple #[]) ∧ Ext W w') := fun W => by
    have hx := Ext.refl W
    go_enter Tryz.func164, Tryz.ntmps164
    go_wp2_with fail
    refine wp_loop_rounds 1 ?_
    rw [rounds_succ]
    go_wp2_with fail
    go_end0
    exact ⟨rfl, hx⟩
  have hp : ∀ W, Calls Tryz.prog 155 #[.slice none 0 0, .int .i64 0, .int .i64 0, .int .i64 0, .func (.func 126) #[] #[]] W (fun e w' => e = .returned (.tuple #[]) ∧ Ext W w') := fun W => by
    have HI := Lib.hid (hi W)
    have hx := Ext.refl W
    go_enter Tryz.func155, Tryz.ntmps155
    go_wp2_with fail
    refine wp_loop_rounds 1 ?_
    rw [rounds_succ]
    go_wp2_with fail
    refine HI.out.mono ?_
    rintro e w1 ⟨rfl, hx1⟩
    go_wp2_with fail
    refine bodyPost_ret (v := .tuple #[]) (by simp only [results, Tryz.results155]; go_simp) rfl ?_
    exact ⟨rfl, hx1⟩
  have HP := Lib.hid hp
  clear hp hi
  have hl : Calls Tryz.prog 156 #[.int .u64 0] w fun e w' => e = .returned (.int .i64 0) ∧ w' = w := by
    have h := Any.bits_Len Tryz.laysLen 0 w (by omega) (by omega)
    change Calls Tryz.prog 156 _ _ _ at h
    have hz : ((Lib.bitLen (0 : Int).toNat : Nat) : Int) = 0 := by kernel_rfl
    rw [hz] at h
    exact h
  go_enter Tryz.func143, Tryz.ntmps143
  go_wp2_with fail
  refine hl.mono ?_
  rintro e w1 ⟨rfl, rfl⟩
  go_wp2_with fail
  refine (HP.out _).mono ?_
  rintro e w2 ⟨rfl, hx1⟩
  have hx2 := hx1
  clear hx1
  go_wp2_with fail
  go_end0
  exact ⟨rfl, hx2⟩
/-- What the sort leaves. -/
def SortedF (w : World) (l : List Ig.Fi) (e : Ending) (w' : World) : Prop :=
  ∃ (A : Option Addr) (c : Nat) (s : List Ig.Fi), e = .returned (.slice A s.length c) ∧ s.Perm l ∧ s.Pairwise (fun a b => b.dir.size ≤ a.dir.size) ∧ Fis w' All A s ∧ s.length ≤ c ∧ Ext w w'
set_option maxHeartbeats 1000000 in
theorem sortedf_any (z : Nat) (A : Option Addr) (n c : Nat) (l : List Ig.Fi) (w : World) (hz : Blk w z 29 #[.slice A n c]) (hn : l.length = n) (hb : n ≤ 1000000) (hvs : Fis w All A l) :
    Calls Tryz.prog 124 #[.func (.func 144) #[] #[.pointer (some ⟨z, 0, none⟩)], .func (.func 126) #[] #[]] w (SortedF w l) := by
  have HC := Lib.hid (collect_any z A n c l w hz hn hb hvs)
  have HN := Lib.hid hn
  clear hz hn hvs
  go_enter Tryz.func124, Tryz.ntmps124
  go_wp2_with fail
  refine HC.out.mono ?_
  rintro e w1 ⟨v, rfl, hO, hx⟩
  have HX := Lib.hid hx
  clear hx HC
  obtain ⟨cs, h1, h2, ⟨h3, ⟨rfl, h0⟩ | ⟨g, cap, cur, rfl, hb', hg, hnc, hcm, hs, ht⟩⟩, h4⟩ := hO
  · have HL : Hid (l = []) := Lib.hid (List.length_eq_zero_iff.1 h0)
    clear h1 h2 h3 h4 h0
    go_wp2_with fail
    refine (sortf_nil w1).mono ?_
    rintro e w2 ⟨rfl, hx2⟩
    have HX2 := Lib.hid (HX.out.trans hx2)
    clear hx2
    go_wp2_with fail
    go_ret
    exact ⟨none, 0, [], rfl, by rw [HL.out], List.Pairwise.nil, Sls.nil 2 FiR _ _, Nat.le_refl _, HX2.out⟩
  · obtain ⟨xs, k1, k2, k3⟩ := fx_rows cs l h1 h4
    have hxl : xs.length = l.length := by rw [← k1, List.length_map]
    have hB : Blk w1 g 32 cur := Blk.mk hg
    have hH : HoldsK fie 2 w1 g 0 xs.toArray := fun j hj => by
      have hj' : j < xs.length * 2 := by simpa using hj
      refine ⟨?_, hB.frozen _⟩
      rw [Nat.zero_add, hB.cell, ← Array.getElem?_toList, ← List.getElem?_take_of_lt (by omega : j < l.length * 2), ht, ← k2, fie_get hj']
      rfl
    have HS := Lib.hid (sortf_any g cap xs w1 hH hB.lt (by rw [hxl, HN.out]; omega))
    rw [hxl] at HS
    have K1 := Lib.hid k1
    have K3 := Lib.hid k3
    have HGW := Lib.hid hb'
    have HGL := Lib.hid hB.lt
    have HXL := Lib.hid hxl
    clear k1 k2 k3 hH hB hg hs ht h1 h2 h3 h4 hxl hb' hcm
    generalize hnl : l.length = nl at HS HXL hnc
    have HNL := Lib.hid hnl
    clear hnl
    go_wp2_with fail
    refine HS.out.mono ?_
    rintro e w2 ⟨rfl, d, h5, h6, h7, h8⟩
    have H5 := Lib.hid h5
    have H6 := Lib.hid h6
    have H7 := Lib.hid h7
    have H8 := Lib.hid h8
    clear h5 h6 h7 h8 HS
    go_wp2_with fail
    go_ret
    have hdl : d.length = nl := by rw [H5.out.length_eq, HXL.out]
    have hx2 : Ext w w2 := Below.grown HX.out H8.out HX.out.size_le (fun k e => by cases e; have := HGW.out; omega)
    refine ⟨some ⟨g, 0, none⟩, cap, d.map (·.1), by rw [List.length_map, hdl]; rfl, by rw [← K1.out]; exact H5.out.map _, List.pairwise_map.2 H6.out, ?_, by rw [List.length_map, hdl]; exact hnc, hx2⟩
    refine ⟨d.map fie, by simp, fun c hc => by obtain ⟨x, _, rfl⟩ := List.mem_map.1 hc; rfl, fun _ => ⟨g, 0, rfl, Nat.lt_of_lt_of_le HGL.out H8.out.size, trivial, fun j u hu => ?_⟩, fun i c x hc hx => ?_⟩
    · have hj := (List.getElem?_eq_some_iff.1 hu).1
      rw [fx_flat] at hj
      rw [fie_get hj] at hu
      rw [(H7.out j (by simpa using hj)).1]
      exact hu
    · rw [List.getElem?_map] at hc hx
      cases hd : d[i]? with
      | none => rw [hd] at hc; cases hc
      | some y =>
        rw [hd] at hc hx
        obtain rfl : fie y = c := by simpa using hc
        obtain rfl : y.1 = x := by simpa using hx
        exact FiR.steadfast.ext (K3.out y (H5.out.mem_iff.1 (List.mem_of_getElem? hd))) hx2
end Go.Proofs.YtnjcifppkijanaaGreatDoor
namespace Go.Proofs.YtnjcifppkijanaaGreatDoor
open Go Go.RowKit Go.Shelf
/-- What nearest hands back: the iterator and its two boxes. -/
def NearR (w : World) (l : List Ig.Fi) (p : ByteArray) (d : Bool) (e : Ending) (w' : World) : Prop :=
  ∃ (z zt : Nat) (A : Option Addr) (c : Nat) (s : List Ig.Fi), e = .returned (.func (.func 128) #[] #[.pointer (some ⟨z, 0, none⟩), .pointer (some ⟨zt, 0, none⟩)]) ∧
    s.Perm l ∧ s.Pairwise (fun a b => b.dir.size ≤ a.dir.size) ∧ Fis w' All A s ∧ Blk w' z 29 #[.slice A s.length c] ∧ Blk w' zt 98 #[.string p, .bool d] ∧ Ext w w'
set_option maxHeartbeats 1000000 in
set_option maxRecDepth 100000 in
theorem nearest_any (A : Option Addr) (n c : Nat) (l : List Ig.Fi) (p : ByteArray) (d : Bool) (w : World) (hn : l.length = n) (hb : n ≤ 1000000) (hvs : Fis w All A l) :
    Calls Tryz.prog 101 #[.slice A n c, .agg #[.string p, .bool d]] w (NearR w l p d) := by
  have hx := Ext.refl w
  have HX1 := Lib.hid ((hx.alloc (.cells #[.string p, .bool d] 98)).alloc (.cells #[.slice A n c] 29))
  have HBT := Lib.hid (Blk.alloc (Blk.new' (w := w) (g := w.heap.size) (cs := #[.string p, .bool d]) (t := 98) rfl) (.cells #[.slice A n c] 29))
  have HVA : Hid (∀ W, Calls Tryz.prog 125 #[.slice A n c] W fun e w' => e = .returned (.func (.func 144) #[] #[.pointer (some ⟨W.heap.size, 0, none⟩)]) ∧ W.alloc (.cells #[.slice A n c] 29) = w') := Lib.hid fun W => values_same A n c W
  have HSF := Lib.hid (sortedf_any (w.heap.size + 1) A n c l ((w.alloc (.cells #[.string p, .bool d] 98)).alloc (.cells #[.slice A n c] 29)) (Blk.new' (by simp)) hn hb (Sls.ext FiR.steadfast hvs HX1.out))
  clear hn hvs
  go_enter Tryz.func101, Tryz.ntmps101
  go_wp2_with fail
  refine (HVA.out _).mono ?_
  rintro e w1 ⟨rfl, rfl⟩
  go_wp2_with fail
  refine HSF.out.mono ?_
  rintro e w2 ⟨A', c', s, rfl, h1, h2, h3, h4, hx2⟩
  have HX2 := Lib.hid (HX1.out.trans hx2)
  have HBT2 := Lib.hid (Blk.ext hx2 HBT.out)
  have HS := Lib.hid (⟨h1, h2, h3⟩ : _ ∧ _ ∧ _)
  clear h1 h2 h3 h4 hx2 HSF HVA HX1 HBT hx
  go_wp2_with fail
  go_ret
  have hxa := (Ext.refl w2).alloc (.cells #[.slice A' s.length c'] 29)
  exact ⟨w2.heap.size, w.heap.size, A', c', s, rfl, HS.out.1, HS.out.2.1, Sls.ext FiR.steadfast HS.out.2.2 hxa, Blk.new' rfl, Blk.ext hxa HBT2.out, HX2.out.trans hxa⟩
end Go.Proofs.YtnjcifppkijanaaGreatDoor
