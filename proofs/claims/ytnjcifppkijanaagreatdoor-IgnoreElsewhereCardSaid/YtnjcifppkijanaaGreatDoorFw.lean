/- Walks: files copied; IgnoreElsewhere. -/
import Derived.Test.YtnjcifppkijanaaGreatDoorFv
import Derived.Test.YtnjcifppkijanaaGreatDoorPL
set_option linter.unusedSimpArgs false
set_option linter.unusedVariables false
namespace Go.Proofs.YtnjcifppkijanaaGreatDoor
open Go Go.RowKit Go.Shelf

section
variable {P : Program} {ops : Array Oper} {Q : Exit → Act → World → Prop}
theorem wpList_append_zeroN {w : World} {rest : List Oper} {o : Oper} {a : Act} (hgd : o.guard = none) (s x : Operand) (t : TypeId)
    (ho : o.op = .call { callee := .builtin .append, args := #[s, x], argTypes := #[t, t] })
    (base : Nat) (e : TypeId) (i : TypeInfo) (size : Nat) (ht : P.underlying t = some (.slice e)) (hi : P.info? e = some i)
    (v : Value) (n : Nat) (xs : List Value) (hs : a.eval s = v) (hown : w.ownsRow base e size v n xs) (ad : Addr) (c : Nat) (hx : a.eval x = .slice (some ad) 0 c)
    (h : wpList P ops Q rest (a.put o.dst v) w) : wpList P ops Q (o :: rest) a w := by
  refine wpList_plain hgd fun K hK => ?_
  have hrun := run_append_zeroN (P := P) (w := w) base t o.type e i size ht hi v n xs hown ad c
  unfold Oper.wp
  simp [execOp, ho, resolve, invoke, builtin, hs, hx, hrun, Result.andThen]
  exact hK _ _ h
end
theorem fclone_info : (Tryz.prog.info? 32).map (fun i => (i.size, i.bytes, i.zero.map fun z => z.cells.size)) = some (2, 40, some 2) := by kernel_rfl
set_option maxRecDepth 100000 in
theorem fclone_empty (ad : Addr) (c : Nat) (w0 w : World) {F : Nat → Prop} : Calls Tryz.prog 25 #[.slice (some ad) 0 c] w (fun e w' => ∃ v', e = .returned v' ∧ OwnW 2 FiR 32 w0 w' w.heap.size F v' [] ∧ Ext w w') := by
  obtain ⟨i0, hi⟩ : ∃ i0, Tryz.prog.info? 32 = some i0 := by
    cases hq : Tryz.prog.info? 32 with
    | none => have := fclone_info; rw [hq] at this; cases this
    | some i0 => exact ⟨i0, rfl⟩
  have hi2 := fclone_info
  rw [hi] at hi2
  simp only [Option.map_some, Option.some.injEq, Prod.mk.injEq] at hi2
  have hown : (w.alloc (.cells #[] 32)).ownsRow w.heap.size 32 2 (.slice (some ⟨w.heap.size, 0, none⟩) 0 0) 0 [] := ⟨rfl, .inr ⟨w.heap.size, 0, #[], rfl, Nat.le_refl _, (Blk.new' rfl).eq, Nat.le_refl _, Nat.zero_le _, rfl, rfl⟩⟩
  have hq22 : ∀ (w : World) (a : Option Addr) (n c n' c' : Nat), (binOp .eql 29 (.slice a n c) (.slice none n' c')).run Tryz.prog w = .ok (.bool a.isNone) w := fun w a n c n' c' => Lib.run_eql_slice_nil w _ _ a n c n' c' Tryz.underlying29
  have HOW := Lib.hid hown
  clear hown
  go_enter Tryz.func25, Tryz.ntmps25
  have hx := Ext.refl w
  go_wp2_with (at_builtin; refine wpList_append_zeroN rfl _ _ 29 rfl w.heap.size 32 i0 2 Tryz.underlying29 hi _ 0 [] rfl HOW.out ad c rfl ?_)
  go_ret
  exact ⟨_, rfl, ⟨[], rfl, by simp, HOW.out, fun i c x h => by simp at h⟩, EX⟩
theorem fclone_any (A : Option Addr) (n c : Nat) (l : List _) (w0 w : World) {F : Nat → Prop} (h : Fis w0 F A l) (hw : Ext w0 w) (hn : l.length = n) (hb : n ≤ 1000000000) :
    Calls Tryz.prog 25 #[.slice A n c] w (fun e w' => ∃ v', e = .returned v' ∧ OwnW 2 FiR 32 w0 w' w.heap.size F v' l ∧ Ext w w') := by
  obtain ⟨cs, h1, h2, h3, h4⟩ := h
  by_cases h0 : n = 0
  · subst h0
    obtain rfl : l = [] := List.length_eq_zero_iff.1 hn
    cases A with
    | none =>
      refine (AnyE.slices_Clone_nil Tryz.laysCloneF 0 c w).mono ?_
      rintro e w' ⟨rfl, rfl⟩
      exact ⟨_, rfl, ⟨[], rfl, by simp, ⟨rfl, .inl ⟨rfl, rfl⟩⟩, fun i c x h => by simp at h⟩, Ext.refl _⟩
    | some ad => exact fclone_empty ad c w0 w
  obtain ⟨b, o, rfl, _, _, _⟩ := h3 (by omega)
  · obtain ⟨i0, hi⟩ : ∃ i0, Tryz.prog.info? 32 = some i0 := by
      cases hq : Tryz.prog.info? 32 with
      | none => have := fclone_info; rw [hq] at this; cases this
      | some i0 => exact ⟨i0, rfl⟩
    have hi2 := fclone_info
    rw [hi] at hi2
    simp only [Option.map_some, Option.some.injEq, Prod.mk.injEq] at hi2
    obtain ⟨hs, hby, hz⟩ := hi2
    obtain ⟨z, hz0, hz1⟩ : ∃ z, i0.zero = some z ∧ z.cells.size = 2 := by
      cases hq : i0.zero with
      | none => rw [hq] at hz; cases hz
      | some z => rw [hq] at hz; exact ⟨z, rfl, by simpa using hz⟩
    have hsz : ∀ W, (Go.sizeOf 32).run Tryz.prog W = .ok 2 W := fun W => by kernel_rfl
    have hone := flat_one' (R := FiR) (fun h => FiR.one h) h1 h4
    refine (AnyE.slices_Clone Tryz.laysCloneF i0 z 2 40 hi hz0 hs hby hz1 (by decide) hsz b o n c cs.flatten w (by rw [flatten_len h2, h1, hn]) (by unfold maxLen; omega) (by omega) (fun j u hj => ?_) hone).mono ?_
    · rcases Nat.eq_zero_or_pos n with h0 | h0
      · have : cs = [] := List.length_eq_zero_iff.1 (by omega)
        subst this
        simp at hj
      · obtain ⟨b', o', e, hbl, _, hr⟩ := h3 (by omega)
        obtain ⟨rfl, rfl⟩ : b = b' ∧ o = o' := by simpa using e
        rw [← hr j u hj]
        exact hw.cell (p := ⟨b, _, none⟩) hbl
    · rintro e w' ⟨v', rfl, hown, _, hx⟩
      subst hn
      exact ⟨v', rfl, ⟨cs, h1, h2, hown, h4⟩, hx⟩

set_option maxHeartbeats 8000000 in
set_option maxRecDepth 100000 in
theorem elsewhere_walk (A : Option Addr) (n c : Nat) (l : List Ig.Fi) (path : ByteArray) (dir : Bool) (w : World) (hg : Glob w) (h : Fis w All A l) (hn : l.length = n) (hb : n ≤ 4611686018427387904) (hrl : ∀ f ∈ l, f.rules.length ≤ 4611686018427387904) :
    Calls Tryz.prog 7 #[.slice A n c, .string path, .bool dir] w (Ret (.bool true) w) := by
  have HG := Lib.hid hg
  have HL := Lib.hid h
  have HN := Lib.hid hn
  have HGR : Hid (∀ W, Ext w W → Calls Tryz.prog 15 #[.slice A n c] W (Ret (.bool (Ig.great l)) W)) := Lib.hid fun W hW => great39_any A n c l W (Sls.ext FiR.steadfast h hW) hn hb hrl
  obtain ⟨gr, hgr⟩ : ∃ gr, gr = Ig.great l := ⟨_, rfl⟩
  rw [← hgr] at HGR
  have HE := Lib.hid hgr
  have HAW : Hid (∀ W, Ext w W → Calls Tryz.prog 11 #[] W (Ret (.bool true) W)) := Lib.hid fun W hW => awake39_any W (HG.out.ext hW)
  have hx := Ext.refl w
  have HX0 := Lib.hid (hx.alloc (.cells #[.string path] 9))
  have HB0 := Lib.hid (Blk.new' (w := w) (g := w.heap.size) (cs := #[.string path]) (t := 9) rfl)
  clear h hn hg hgr hrl hx
  go_enter Tryz.func7, Tryz.ntmps7
  go_wp2_with fail
  refine (HGR.out _ HX0.out).mono ?_
  rintro e w1 ⟨rfl, hx0⟩
  have HX1 := Lib.hid (HX0.out.trans hx0)
  have HB1 := Lib.hid (Blk.ext hx0 HB0.out)
  clear hx0 HGR HX0 HB0
  obtain ⟨hcb, hfb, hlb⟩ := HB1.out.all
  cases gr with
  | true =>
    go_wp2_with fail
    refine (HAW.out _ HX1.out).mono ?_
    rintro e w2 ⟨rfl, hx0⟩
    have HX2 := Lib.hid (HX1.out.trans hx0)
    clear hx0
    go_wp2_with fail
    go_ret
    exact ⟨rfl, HX2.out⟩
  | false =>
    have hn1 : n ≤ 5 := by rw [← HN.out]; exact (Ig.great_false HE.out.symm).1
    have HF := Lib.hid (Ig.great_false HE.out.symm).2
    by_cases hps : 100 < path.size
    · have hps2 : (100 : Int) < (path.size : Int) := by omega
      go_wp2_with fail
      refine (HAW.out _ HX1.out).mono ?_
      rintro e w2 ⟨rfl, hx0⟩
      have HX2 := Lib.hid (HX1.out.trans hx0)
      clear hx0
      go_wp2_with fail
      go_ret
      exact ⟨rfl, HX2.out⟩
    · have hps2 : ¬ ((100 : Int) < (path.size : Int)) := by omega
      have HCH := Lib.hid (icheck_any A n c l w1 (Sls.ext FiR.steadfast HL.out HX1.out) HN.out (by omega) HF.out (HG.out.ext HX1.out))
      obtain ⟨fc, hfc⟩ : ∃ z, z = Ig.fcheck l := ⟨_, rfl⟩
      rw [← hfc] at HCH
      have HFC := Lib.hid hfc
      clear hfc
      go_wp2_with fail
      refine HCH.out.mono ?_
      rintro e w2 ⟨rfl, hx0⟩
      have HX2 := Lib.hid (HX1.out.trans hx0)
      have HB2 := Lib.hid (Blk.ext hx0 HB1.out)
      clear hx0 HCH HX1 HB1 hcb hfb hlb
      cases hz : (fc != 0) with
      | true =>
        go_wp2_with fail
        refine (HAW.out _ HX2.out).mono ?_
        rintro e w3 ⟨rfl, hx0⟩
        have HX3 := Lib.hid (HX2.out.trans hx0)
        clear hx0
        go_wp2_with fail
        go_ret
        exact ⟨rfl, HX3.out⟩
      | false =>
        obtain rfl : fc = 0 := by simpa using hz
        have HCL := Lib.hid (fclone_any A n c l w2 w2 (Sls.ext FiR.steadfast HL.out HX2.out) (Ext.refl _) HN.out (by omega))
        go_wp2_with fail
        refine HCL.out.mono ?_
        rintro e w3 ⟨v', rfl, hown, hx3⟩
        obtain ⟨A3, c3, e3, hc3, _⟩ := hown.sls FiR.steadfast hx3
        subst e3
        have HOW := Lib.hid hown
        rw [HN.out] at HOW hc3
        have HX3 := Lib.hid hx3
        have HDE := Lib.hid (deleteF_any (fun x => !Ig.within (Ig.L path) x) 26 #[.pointer (some ⟨w.heap.size, 0, none⟩)] (enters_of Tryz.func26 (by kernel_rfl) rfl) A3 n c3 l w2 w3 HOW.out HN.out (by omega) HX3.out
          (fun W cc x hW hx => els1_any path (by omega) w.heap.size W cc x hx (Blk.ext hW HB2.out)))
        have HFL : Hid ((l.filter fun x => !!Ig.within (Ig.L path) x) = l.filter (Ig.within (Ig.L path))) := Lib.hid (by simp)
        rw [HFL.out] at HDE
        clear hown hx3 HCL HFL HOW
        simp only [HN.out]
        go_wp2_with fail
        refine HDE.out.mono ?_
        rintro e w4 ⟨A4, n4, c4, rfl, hn4, hc4, hfi4, hx4⟩
        have HX4 := Lib.hid (HX2.out.trans hx4)
        have HB4 := Lib.hid (Blk.ext hx4 HB2.out)
        have HL4 := Lib.hid hfi4
        have HN4 := Lib.hid hn4
        have hn4' : n4 ≤ 5 := by rw [← hn4]; exact Nat.le_trans (List.length_filter_le _ _) (by rw [HN.out]; exact hn1)
        have HF4 : Hid (Ig.Fits (l.filter (Ig.within (Ig.L path)))) := Lib.hid ⟨fun f hf => HF.out.dirs f (List.mem_filter.1 hf).1, fun f hf => HF.out.rules f (List.mem_filter.1 hf).1⟩
        obtain ⟨iv, hiv⟩ : ∃ z, z = Ig.Ignored l path dir := ⟨_, rfl⟩
        have HI1 : Hid (∀ W, Ext w W → Calls Tryz.prog 23 #[.slice A n c, .string path, .bool dir] W (Ret (.bool iv) W)) := Lib.hid fun W hW => by
          rw [hiv]
          exact Ignored_any A n c l path dir W HN.out (by omega) (Sls.ext FiR.steadfast HL.out hW) HF.out (by omega) (HG.out.ext hW)
        have HI2 : Hid (∀ W, Ext w4 W → Calls Tryz.prog 23 #[.slice A4 n4 c4, .string path, .bool dir] W (Ret (.bool iv) W)) := Lib.hid fun W hW => by
          rw [hiv, Ig.elsewhere_law HFC.out.symm]
          exact Ignored_any A4 n4 c4 _ path dir W HN4.out (by omega) (Sls.ext FiR.steadfast HL4.out hW) HF4.out (by omega) (HG.out.ext (HX4.out.trans hW))
        clear hiv hx4 hn4 hc4 hfi4 HDE HB2 HX2 HX3 HF4 HN4 HL4 HFC HF HL HN HE
        go_wp2_with fail
        refine wp_region_noPanic (wp_region_held_drew (S := fun w' => Ext w4 w') (by kernel_rfl) (Ext.refl w4).drew1 (fun hv => ?_))
        generalize w4.drew = v0 at hv ⊢
        refine tf (i := 0) (v := .slice A n c) rfl rfl (fun _ => rfl) hv ?_
        try simp only [Act.put, sA, s0, sS]
        refine take_any (i := 1) (v := .string path) rfl rfl (by kernel_rfl) (by kernel_rfl) (by kernel_rfl) (.inl ⟨(by kernel_rfl), fun W' hW' => ?ld1⟩) hv ?_
        case ld1 =>
          have hcx := (Blk.ext hW' HB4.out).cell 0
          go_simp
        try simp only [Act.put, sA, s0, sS]
        refine tf (i := 2) (v := .bool dir) rfl rfl (fun _ => rfl) hv ?_
        try simp only [Act.put, sA, s0, sS]
        refine tf (i := 4) (v := .slice A4 n4 c4) rfl rfl (fun _ => rfl) hv ?_
        try simp only [Act.put, sA, s0, sS]
        refine take_any (i := 5) (v := .string path) rfl rfl (by kernel_rfl) (by kernel_rfl) (by kernel_rfl) (.inl ⟨(by kernel_rfl), fun W' hW' => ?ld2⟩) hv ?_
        case ld2 =>
          have hcx := (Blk.ext hW' HB4.out).cell 0
          go_simp
        try simp only [Act.put, sA, s0, sS]
        refine tf (i := 6) (v := .bool dir) rfl rfl (fun _ => rfl) hv ?_
        try simp only [Act.put, sA, s0, sS]
        refine wpAnyH_one (i := 3) (by kernel_rfl) rfl (by kernel_rfl) ?_
        go_simp
        refine (HI1.out _ (HX4.out.trans hv)).mono ?_
        rintro e x1 ⟨rfl, hx0⟩
        have hv2 := hv.trans hx0
        refine ⟨hv2, ?_⟩
        try simp only [Act.put, sA, s0, sS]
        clear hv hx0
        refine wpAnyH_one (i := 7) (by kernel_rfl) rfl (by kernel_rfl) ?_
        go_simp
        refine (HI2.out _ hv2).mono ?_
        rintro e x2 ⟨rfl, hx0⟩
        have hv := hv2.trans hx0
        refine ⟨hv, ?_⟩
        try simp only [Act.put, sA, s0, sS]
        clear hv2 hx0
        refine tf (i := 8) (v := .bool true) rfl rfl (fun _ => ?eq1) hv ?_
        case eq1 => cases iv <;> rfl
        try simp only [Act.put, sA, s0, sS]
        refine tf (i := 9) (v := .bool true) rfl rfl (fun _ => rfl) hv ?_
        try simp only [Act.put, sA, s0, sS]
        refine wpAnyH_one (i := 10) (by kernel_rfl) rfl (by kernel_rfl) ?_
        go_simp
        refine (HAW.out _ (HX4.out.trans hv)).mono ?_
        rintro e x3 ⟨rfl, hx0⟩
        have hv2 := hv.trans hx0
        refine ⟨hv2, ?_⟩
        try simp only [Act.put, sA, s0, sS]
        clear hv hx0
        refine tf (i := 11) (v := .bool true) rfl rfl (fun _ => rfl) hv2 ?_
        try simp only [Act.put, sA, s0, sS]
        refine tf (i := 12) (v := .bool true) rfl rfl (fun _ => rfl) hv2 ?_
        try simp only [Act.put, sA, s0, sS]
        refine wpAnyH_done (by kernel_rfl) (NoPanic.normal ?_) _
        have HXE := Lib.hid (HX4.out.trans hv2)
        clear hv2
        go_wp2_with fail
        go_ret
        exact ⟨rfl, HXE.out⟩
end Go.Proofs.YtnjcifppkijanaaGreatDoor
