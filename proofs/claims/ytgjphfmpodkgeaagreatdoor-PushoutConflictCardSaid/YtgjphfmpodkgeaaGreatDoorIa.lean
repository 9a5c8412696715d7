/- Walks: merging up to a conflict. -/
import Derived.Test.YtgjphfmpodkgeaaGreatDoorAx
import Derived.Test.YtgjphfmpodkgeaaGreatDoorGr
set_option linter.unusedSimpArgs false
set_option linter.unusedVariables false
namespace Go.Proofs.YtgjphfmpodkgeaaGreatDoor
open Go Go.RowKit
attribute [local go_sem ↓] Go.wp_at_zero Go.wp_at_succ

theorem Small.fits {l : List Qp} (h : Small l) : ∀ q ∈ l, q.Fits := fun q hq => (h.2 q hq).fits
/-- Merge, told apart by what comes of it. -/
theorem seqmerge_ok {A B : Option Addr} {n cA m cB : Nat} {a b : List Qp} {w : World} (hg : Glob w) {F : Nat → Prop} (ha : Qs w F A a) (hb : Qs w F B b) (hn : a.length = n) (hm : b.length = m) (hB : B = none → m = 0 ∧ cB = 0)
    (b1 : n ≤ 100000000000) (b2 : m ≤ 100000000000) (fa : ∀ q ∈ a, q.Fits) (fb : ∀ q ∈ b, q.Fits) {t : List Qp × List Qp} (ht : Sq.merge a b = .ok t) :
    Calls Tryz.prog 14 #[.slice A n cA, .slice B m cB] w (fun e w' => ∃ A1 c1 A2 c2, e = .returned (.tuple #[.slice A1 m c1, .slice A2 n c2, .agg #[.int .i64 0, .int .i64 0], .bool true]) ∧ Hid (Qs w' (Fresh F w) A1 t.1 ∧ Qs w' (Fresh F w) A2 t.2 ∧ (A1 = none → c1 = 0) ∧ (A2 = none → c2 = 0)) ∧ Ext w w') := by
  refine (seqmerge_any A B n cA m cB a b w hg ha hb hn hm hB b1 b2 fa fb).mono ?_
  rintro e w' ⟨h, hx⟩
  rw [ht] at h
  obtain ⟨A1, c1, A2, c2, rfl, hq⟩ := h
  obtain ⟨l1, l2⟩ := Sq.merge_length ht
  exact ⟨A1, c1, A2, c2, by rw [l1, l2, hn, hm], hq, hx⟩
theorem seqmerge_bad {A B : Option Addr} {n cA m cB : Nat} {a b : List Qp} {w : World} (hg : Glob w) {F : Nat → Prop} (ha : Qs w F A a) (hb : Qs w F B b) (hn : a.length = n) (hm : b.length = m) (hB : B = none → m = 0 ∧ cB = 0)
    (b1 : n ≤ 100000000000) (b2 : m ≤ 100000000000) (fa : ∀ q ∈ a, q.Fits) (fb : ∀ q ∈ b, q.Fits) {i k : Nat} (ht : Sq.merge a b = .error (i, k)) :
    Calls Tryz.prog 14 #[.slice A n cA, .slice B m cB] w (Ret (.tuple #[.slice none 0 0, .slice none 0 0, .agg #[.int .i64 i, .int .i64 k], .bool false]) w) := by
  refine (seqmerge_any A B n cA m cB a b w hg ha hb hn hm hB b1 b2 fa fb).mono ?_
  rintro e w' ⟨h, hx⟩
  rw [ht] at h
  exact ⟨h, hx⟩
theorem Qs.some {w : World} {F : Nat → Prop} {A : Option Addr} {l : List Qp} (h : Qs w F A l) (h0 : 0 < l.length) : ∃ b o, A = .some ⟨b, o, .none⟩ := by
  obtain ⟨ps, h1, h2, h3⟩ := h
  obtain ⟨b, o, e, _⟩ := h2 (by omega)
  exact ⟨b, o, e⟩

theorem wrap_small (n : Nat) (h : n ≤ 1000) : IntKind.i64.wrap ((n : Int) + 1) = (n : Int) + 1 := by
  simp [IntKind.wrap, IntKind.signed, IntKind.bits]
  omega

set_option maxHeartbeats 16000000 in
set_option maxRecDepth 100000 in
theorem conflict_walk (A B : Option Addr) (n cA m cB : Nat) (a b : List Qp) (w : World) (hg : Glob w) {F : Nat → Prop} (ha : Qs w F A a) (hb : Qs w F B b) (hn : a.length = n) (hm : b.length = m) (hcA : n ≤ cA) (hcB : m ≤ cB) (hB : B = none → cB = 0)
    (b1 : n ≤ 1152921504606846976) (b2 : m ≤ 1152921504606846976) (c1 : cA ≤ 1152921504606846976) (c2 : cB ≤ 1152921504606846976)
    (s1 : ∀ q ∈ a, q.old.length ≤ 1152921504606846976 ∧ q.new.length ≤ 1152921504606846976) (s2 : ∀ q ∈ b, q.old.length ≤ 1152921504606846976 ∧ q.new.length ≤ 1152921504606846976) :
    Calls Tryz.prog 5 #[.slice A n cA, .slice B m cB] w (Ret (.bool true) w) := by
  have HA := Lib.hid ha
  have HB := Lib.hid hb
  have HN := Lib.hid hn
  have HM := Lib.hid hm
  have HAW := Lib.hid (fun W (hW : Ext w W) => awake15_any W (hg.ext hW))
  have HGR := Lib.hid (fun W g t (hW : Ext w W) (h : Blk W g t #[.slice A n cA, .slice B m cB]) => lawgreat15_any g t [(A, a, cA), (B, b, cB)] 2 W (by unfold Seqs.cells; simpa [hn, hm] using h) rfl (fun x hx => by
    rcases List.mem_cons.1 hx with rfl | hx
    · exact ⟨⟨F, ha.ext hW⟩, by dsimp only; omega, s1⟩
    · obtain rfl : x = (B, b, cB) := by simpa using hx
      exact ⟨⟨F, hb.ext hW⟩, by dsimp only; omega, s2⟩) (by omega))
  have HBn : Hid (B = none → m = 0 ∧ cB = 0) := Lib.hid fun e => ⟨by have := hB e; omega, hB e⟩
  have HG := Lib.hid hg
  clear ha hb hn hm s1 s2 hB hg
  go_enter Tryz.func5, Tryz.ntmps5
  have hx := Ext.refl w
  go_wp2_with fail
  refine (HGR.out _ _ _ ((Ext.refl w).alloc _) (Blk.new' rfl)).mono ?_
  rintro e w1 ⟨v, rfl, hs, hx0⟩
  have hx1 := Ext.trans (a := w) (by (repeat (first | with_reducible exact hx | with_reducible exact Ext.refl _ | with_reducible refine Ext.alloc ?_ _ | with_reducible refine Ext.drewN ?_ _ | with_reducible refine Ext.drew1 ?_ | ((with_reducible refine Ext.setCell ?_ ?_ _); rotate_left; (focus (first | (dsimp only; omega) | (simp; done) | (simp; omega))))))) hx0
  clear hx hx0 HGR
  have hx := hx1
  clear hx1
  have HS := Lib.hid hs
  clear hs
  cases v
  rotate_left
  · go_wp2_with fail
    refine (HAW.out _ hx).mono ?_
    rintro e w9 ⟨rfl, hx0⟩
    have hx1 := hx.trans hx0
    clear hx hx0
    have hx := hx1
    clear hx1
    go_wp2_with fail
    (go_ret; refine Ret.mk ?_ ?_; (focus (rfl; done)); (focus ((repeat (first | with_reducible exact hx | with_reducible exact Ext.refl _ | with_reducible refine Ext.alloc ?_ _ | with_reducible refine Ext.drewN ?_ _ | with_reducible refine Ext.drew1 ?_ | ((with_reducible refine Ext.setCell ?_ ?_ _); rotate_left; (focus (first | (dsimp only; omega) | (simp; done) | (simp; omega)))))); done)))
  have S1 : Small a := HS.out rfl (A, a, cA) (by simp)
  have S2 : Small b := HS.out rfl (B, b, cB) (by simp)
  have n8 : n ≤ 8 := by have := S1.1; have := HN.out; omega
  have m8 : m ≤ 8 := by have := S2.1; have := HM.out; omega
  have F1 := Lib.hid S1.fits
  have F2 := Lib.hid S2.fits
  clear HS S1 S2
  cases hR : Sq.merge a b with
  | ok t =>
    have HMG := Lib.hid (fun W (hW : Ext w W) => seqmerge_ok (cA := cA) (cB := cB) (HG.out.ext hW) (HA.out.ext hW) (HB.out.ext hW) HN.out HM.out HBn.out (by omega) (by omega) F1.out F2.out hR)
    clear hR
    go_wp2_with fail
    refine (HMG.out _ hx).mono ?_
    rintro e w2 ⟨A1, d1, A2, d2, rfl, hq, hx0⟩
    have hx1 := hx.trans hx0
    clear hx hx0 hq HMG
    have hx := hx1
    clear hx1
    have qe : ∀ w, (Op.equalIn 10000 25 (.agg #[.int .i64 0, .int .i64 0]) (.agg #[.int .i64 0, .int .i64 0])).run Tryz.prog w = .ok true w := fun w => eql_pair 0 0 0 0 w
    dsimp only
    go_wp2_with fail
    refine (HAW.out _ (by (repeat (first | with_reducible exact hx | with_reducible exact Ext.refl _ | with_reducible refine Ext.alloc ?_ _ | with_reducible refine Ext.drewN ?_ _ | with_reducible refine Ext.drew1 ?_ | ((with_reducible refine Ext.setCell ?_ ?_ _); rotate_left; (focus (first | (dsimp only; omega) | (simp; done) | (simp; omega)))))))).mono ?_
    rintro e w9 ⟨rfl, hx0⟩
    have hx1 := Ext.trans (a := w) (by (repeat (first | with_reducible exact hx | with_reducible exact Ext.refl _ | with_reducible refine Ext.alloc ?_ _ | with_reducible refine Ext.drewN ?_ _ | with_reducible refine Ext.drew1 ?_ | ((with_reducible refine Ext.setCell ?_ ?_ _); rotate_left; (focus (first | (dsimp only; omega) | (simp; done) | (simp; omega))))))) hx0
    clear hx hx0
    have hx := hx1
    clear hx1
    go_wp2_with fail
    (go_ret; refine Ret.mk ?_ ?_; (focus (rfl; done)); (focus ((repeat (first | with_reducible exact hx | with_reducible exact Ext.refl _ | with_reducible refine Ext.alloc ?_ _ | with_reducible refine Ext.drewN ?_ _ | with_reducible refine Ext.drew1 ?_ | ((with_reducible refine Ext.setCell ?_ ?_ _); rotate_left; (focus (first | (dsimp only; omega) | (simp; done) | (simp; omega)))))); done)))
  | error p =>
    obtain ⟨i, k⟩ := p
    obtain ⟨⟨hi, hk⟩, ⟨r1, h1⟩, ⟨r2, h2⟩, h3⟩ := Sq.merge_conflict hR
    have hiN : i < n := by have := HN.out; omega
    have hkM : k < m := by have := HM.out; omega
    obtain ⟨ba, oa, rfl⟩ := HA.out.some (by omega)
    obtain ⟨bb, ob, rfl⟩ := HB.out.some (by omega)
    have ft1 : ∀ j, ∀ q ∈ a.take j, q.Fits := fun j q hq => F1.out q (List.mem_of_mem_take hq)
    have ft2 : ∀ j, ∀ q ∈ b.take j, q.Fits := fun j q hq => F2.out q (List.mem_of_mem_take hq)
    have lt1 : ∀ j, j ≤ n → (a.take j).length = j := fun j hj => by rw [List.length_take, HN.out]; omega
    have lt2 : ∀ j, j ≤ m → (b.take j).length = j := fun j hj => by rw [List.length_take, HM.out]; omega
    have HM0 := Lib.hid (fun W (hW : Ext w W) => seqmerge_bad (cA := cA) (cB := cB) (HG.out.ext hW) (HA.out.ext hW) (HB.out.ext hW) HN.out HM.out (fun e => nomatch e) (by omega) (by omega) F1.out F2.out hR)
    have HM1 := Lib.hid (fun W (hW : Ext w W) => seqmerge_ok (cA := cA) (cB := cB) (HG.out.ext hW) ((HA.out.ext hW).take i) (HB.out.ext hW) (lt1 i (by omega)) HM.out (fun e => nomatch e) (by omega) (by omega) (ft1 i) F2.out h1)
    have HM2 := Lib.hid (fun W (hW : Ext w W) => seqmerge_ok (cA := cA) (cB := cB) (HG.out.ext hW) ((HA.out.ext hW).take (i + 1)) ((HB.out.ext hW).take k) (lt1 (i + 1) (by omega)) (lt2 k (by omega)) (fun e => nomatch e) (by omega) (by omega) (ft1 (i + 1)) (ft2 k) h2)
    have HM3 := Lib.hid (fun W (hW : Ext w W) => seqmerge_bad (cA := cA) (cB := cB) (HG.out.ext hW) ((HA.out.ext hW).take (i + 1)) ((HB.out.ext hW).take (k + 1)) (lt1 (i + 1) (by omega)) (lt2 (k + 1) (by omega)) (fun e => nomatch e) (by omega) (by omega) (ft1 (i + 1)) (ft2 (k + 1)) h3)
    have wi := wrap_small i (by omega)
    have wk := wrap_small k (by omega)
    have z1 : (0 : Int) ≤ (i : Int) + 1 := by omega
    have z2 : ¬ ((cA : Int) < (i : Int) + 1) := by omega
    have z3 : (0 : Int) ≤ (k : Int) + 1 := by omega
    have z4 : ¬ ((cB : Int) < (k : Int) + 1) := by omega
    have z5 : ¬ (cB < k) := by omega
    have z6 : ¬ (cA < i) := by omega
    clear hR h1 h2 h3 ft1 ft2 lt1 lt2 hi hk HA HB HN HM HBn F1 F2 HG
    go_wp2_with fail
    refine (HM0.out _ hx).mono ?_
    rintro e w2 ⟨rfl, hx0⟩
    have hx1 := hx.trans hx0
    clear hx hx0 HM0
    have hx := hx1
    clear hx1
    dsimp only
    go_upto_region 6 with fail
    generalize hw3 : World.alloc w2 _ = w3
    have hb7 : Blk w3 w2.heap.size 25 #[.int .i64 i, .int .i64 k] := by rw [← hw3]; exact Blk.new' rfl
    have hx3 : Ext w w3 := by rw [← hw3]; exact hx.alloc _
    clear hx hw3
    have hx := hx3
    clear hx3
    generalize w2.heap.size = g7 at hb7 ⊢
    refine wp_region_noPanic (wp_region_held_drew (S := fun w' => Blk w' g7 25 #[.int .i64 i, .int .i64 k] ∧ Ext w w') (by kernel_rfl) ⟨hb7.drew, hx.drew1⟩ (fun hv => ?_))
    clear hb7 hx
    generalize w3.drew = v3 at hv ⊢
    refine take_any (i := 0) (v := .pointer (some ⟨g7, 0, none⟩)) rfl rfl (by kernel_rfl) (by kernel_rfl) (by kernel_rfl) (.inl ⟨(by kernel_rfl), fun W' hW' => ?ty0⟩) hv ?_
    case ty0 =>
      go_simp
    try simp only [Act.put, List.setIfInBounds_toArray, List.set_cons_zero, List.set_cons_succ]
    refine take_any (i := 1) (v := .int .i64 i) rfl rfl (by kernel_rfl) (by kernel_rfl) (by kernel_rfl) (.inl ⟨(by kernel_rfl), fun W' hW' => ?ty1⟩) hv ?_
    case ty1 =>
      have hcx := hW'.1.cell
      go_simp
    try simp only [Act.put, List.setIfInBounds_toArray, List.set_cons_zero, List.set_cons_succ]
    refine take_any (i := 2) (v := .pointer (some ⟨g7, 1, none⟩)) rfl rfl (by kernel_rfl) (by kernel_rfl) (by kernel_rfl) (.inl ⟨(by kernel_rfl), fun W' hW' => ?ty2⟩) hv ?_
    case ty2 =>
      go_simp
    try simp only [Act.put, List.setIfInBounds_toArray, List.set_cons_zero, List.set_cons_succ]
    refine take_any (i := 3) (v := .int .i64 k) rfl rfl (by kernel_rfl) (by kernel_rfl) (by kernel_rfl) (.inl ⟨(by kernel_rfl), fun W' hW' => ?ty3⟩) hv ?_
    case ty3 =>
      have hcx := hW'.1.cell
      go_simp
    try simp only [Act.put, List.setIfInBounds_toArray, List.set_cons_zero, List.set_cons_succ]
    refine take_free (i := 4) (v := .int .i64 i) rfl rfl (by kernel_rfl) (by kernel_rfl) (by kernel_rfl) (by kernel_rfl) (fun _ => rfl) hv ?_
    try simp only [Act.put, List.setIfInBounds_toArray, List.set_cons_zero, List.set_cons_succ]
    refine take_free (i := 5) (v := .int .i64 k) rfl rfl (by kernel_rfl) (by kernel_rfl) (by kernel_rfl) (by kernel_rfl) (fun _ => rfl) hv ?_
    try simp only [Act.put, List.setIfInBounds_toArray, List.set_cons_zero, List.set_cons_succ]
    refine wpAnyH_done (by kernel_rfl) (NoPanic.normal ?_) _
    obtain ⟨hb7, hx⟩ := hv
    have HB7 := Lib.hid hb7
    clear hb7
    go_wp2_with fail
    refine (HM1.out _ hx).mono ?_
    rintro e w4 ⟨A1, d1, A2, d2, rfl, hq, hx0⟩
    have HB7 := Lib.hid (HB7.out.ext hx0)
    have hx1 := hx.trans hx0
    clear hx hx0 hq HM1
    have hx := hx1
    clear hx1
    dsimp only
    go_upto_region 10 with fail
    generalize hw5 : World.alloc w4 _ = w5
    have hx0 : Ext w4 w5 := by rw [← hw5]; exact (Ext.refl w4).alloc _
    have HB7 := Lib.hid (HB7.out.ext hx0)
    have hx1 := hx.trans hx0
    clear hx hw5 hx0
    have hx := hx1
    clear hx1
    have HX5 := Lib.hid hx
    go_cut [18] (fun u18 wx => u18 = .bool true ∧ Ext w5 wx)
    case first =>
      refine wp_region_noPanic (wp_region_held_drew (S := fun w' => Ext w5 w') (by kernel_rfl) (Ext.refl w5).drew1 (fun hv => ?_))
      refine take_free (i := 0) (v := .slice (some ⟨ba, oa, none⟩) n cA) rfl rfl (by kernel_rfl) (by kernel_rfl) (by kernel_rfl) (by kernel_rfl) (fun _ => rfl) hv ?_
      try simp only [Act.put, List.setIfInBounds_toArray, List.set_cons_zero, List.set_cons_succ]
      refine take_free (i := 1) (v := .int .i64 i) rfl rfl (by kernel_rfl) (by kernel_rfl) (by kernel_rfl) (by kernel_rfl) (fun _ => rfl) hv ?_
      try simp only [Act.put, List.setIfInBounds_toArray, List.set_cons_zero, List.set_cons_succ]
      refine take_any (i := 2) (v := .int .i64 ((i : Int) + 1)) rfl rfl (by kernel_rfl) (by kernel_rfl) (by kernel_rfl) (.inl ⟨(by kernel_rfl), fun W' hW' => ?ty2⟩) hv ?_
      case ty2 =>
        go_simp
      try simp only [Act.put, List.setIfInBounds_toArray, List.set_cons_zero, List.set_cons_succ]
      refine take_any (i := 3) (v := .slice (some ⟨ba, oa, none⟩) (i + 1) cA) rfl rfl (by kernel_rfl) (by kernel_rfl) (by kernel_rfl) (.inl ⟨(by kernel_rfl), fun W' hW' => ?ty3⟩) hv ?_
      case ty3 =>
        go_simp
      try simp only [Act.put, List.setIfInBounds_toArray, List.set_cons_zero, List.set_cons_succ]
      refine take_free (i := 4) (v := .slice (some ⟨bb, ob, none⟩) m cB) rfl rfl (by kernel_rfl) (by kernel_rfl) (by kernel_rfl) (by kernel_rfl) (fun _ => rfl) hv ?_
      try simp only [Act.put, List.setIfInBounds_toArray, List.set_cons_zero, List.set_cons_succ]
      refine take_free (i := 5) (v := .int .i64 k) rfl rfl (by kernel_rfl) (by kernel_rfl) (by kernel_rfl) (by kernel_rfl) (fun _ => rfl) hv ?_
      try simp only [Act.put, List.setIfInBounds_toArray, List.set_cons_zero, List.set_cons_succ]
      refine take_any (i := 6) (v := .slice (some ⟨bb, ob, none⟩) k cB) rfl rfl (by kernel_rfl) (by kernel_rfl) (by kernel_rfl) (.inl ⟨(by kernel_rfl), fun W' hW' => ?ty6⟩) hv ?_
      case ty6 =>
        go_simp
      try simp only [Act.put, List.setIfInBounds_toArray, List.set_cons_zero, List.set_cons_succ]
      generalize w5.drew = v0 at hv ⊢
      refine wpAnyH_ready (rs := [7, 13]) (by kernel_rfl) (by simp) ?_
      refine (AllReadyH.cons rfl (fun K hK => ?_) (AllReadyH.cons rfl (fun K hK => ?_) AllReadyH.nil))
      · go_simp
        refine (HM2.out _ (HX5.out.trans hv)).mono ?_
        rintro e v1 ⟨A1, d1, A2, d2, rfl, hq, hx0⟩
        clear hq
        have hv' := hv.trans hx0
        clear hv hx0
        have hv := hv'
        clear hv'
        refine hK.out _ _ hv (fun _ => ?_)
        clear hK
        try simp only [Act.put, List.setIfInBounds_toArray, List.set_cons_zero, List.set_cons_succ]
        refine take_free (i := 8) (v := .tuple #[.slice A1 k d1, .slice A2 (i + 1 : Nat) d2, .agg #[.int .i64 0, .int .i64 0], .bool true]) rfl rfl (by kernel_rfl) (by kernel_rfl) (by kernel_rfl) (by kernel_rfl) (fun _ => rfl) hv ?_
        try simp only [Act.put, List.setIfInBounds_toArray, List.set_cons_zero, List.set_cons_succ]
        refine take_free (i := 9) (v := .slice A1 k d1) rfl rfl (by kernel_rfl) (by kernel_rfl) (by kernel_rfl) (by kernel_rfl) (fun _ => rfl) hv ?_
        try simp only [Act.put, List.setIfInBounds_toArray, List.set_cons_zero, List.set_cons_succ]
        refine take_free (i := 10) (v := .slice A2 (i + 1 : Nat) d2) rfl rfl (by kernel_rfl) (by kernel_rfl) (by kernel_rfl) (by kernel_rfl) (fun _ => rfl) hv ?_
        try simp only [Act.put, List.setIfInBounds_toArray, List.set_cons_zero, List.set_cons_succ]
        refine take_free (i := 11) (v := .agg #[.int .i64 0, .int .i64 0]) rfl rfl (by kernel_rfl) (by kernel_rfl) (by kernel_rfl) (by kernel_rfl) (fun _ => rfl) hv ?_
        try simp only [Act.put, List.setIfInBounds_toArray, List.set_cons_zero, List.set_cons_succ]
        refine take_free (i := 12) (v := .bool true) rfl rfl (by kernel_rfl) (by kernel_rfl) (by kernel_rfl) (by kernel_rfl) (fun _ => rfl) hv ?_
        try simp only [Act.put, List.setIfInBounds_toArray, List.set_cons_zero, List.set_cons_succ]
        refine wpAnyH_one (i := 13) (by kernel_rfl) rfl (by kernel_rfl) ?_
        go_simp
        refine ⟨hv.trans ((Ext.refl v1).alloc _), ?_⟩
        try simp only [Act.put, List.setIfInBounds_toArray, List.set_cons_zero, List.set_cons_succ]
        generalize hq : World.alloc v1 _ = v2
        have hx0 : Ext v1 v2 := by rw [← hq]; exact (Ext.refl v1).alloc _
        have hb : Blk v2 v1.heap.size 25 #[.int .i64 0, .int .i64 0] := by rw [← hq]; exact Blk.new' rfl
        have hgs : w5.heap.size ≤ v1.heap.size := hv.size_le
        have hv' := hv.trans hx0
        clear hv hq hx0
        have hv := hv'
        clear hv'
        refine take_free (i := 14) (v := .slice A1 k d1) rfl rfl (by kernel_rfl) (by kernel_rfl) (by kernel_rfl) (by kernel_rfl) (fun _ => rfl) hv ?_
        try simp only [Act.put, List.setIfInBounds_toArray, List.set_cons_zero, List.set_cons_succ]
        refine take_free (i := 15) (v := .slice A2 (i + 1 : Nat) d2) rfl rfl (by kernel_rfl) (by kernel_rfl) (by kernel_rfl) (by kernel_rfl) (fun _ => rfl) hv ?_
        try simp only [Act.put, List.setIfInBounds_toArray, List.set_cons_zero, List.set_cons_succ]
        refine wpAnyH_one (i := 16) (by kernel_rfl) rfl (by kernel_rfl) ?_
        refine wp_store_blk 25 _ _ rfl hb rfl (.agg #[.int .i64 0, .int .i64 0]) rfl rfl (by kernel_rfl) (by simp [Value.cells, Value.oneCell']) ?_
        have hv6 := Ext.setAll hgs ([.int .i64 0, .int .i64 0]) 0 _ hv
        refine ⟨hv6, ?_⟩
        try simp only [Act.put, List.setIfInBounds_toArray, List.set_cons_zero, List.set_cons_succ]
        refine take_free (i := 17) (v := .bool true) rfl rfl (by kernel_rfl) (by kernel_rfl) (by kernel_rfl) (by kernel_rfl) (fun _ => rfl) hv6 ?_
        try simp only [Act.put, List.setIfInBounds_toArray, List.set_cons_zero, List.set_cons_succ]
        refine wpAnyH_done (by kernel_rfl) (NoPanic.normal ?_) _
        go_wp2_with fail
        go_meet
        exact ⟨rfl, hv6⟩
      · go_simp
        refine hK.out _ _ (hv.trans ((Ext.refl v0).alloc _)) (fun _ => ?_)
        clear hK
        try simp only [Act.put, List.setIfInBounds_toArray, List.set_cons_zero, List.set_cons_succ]
        generalize hq : World.alloc v0 _ = v1
        have hx0 : Ext v0 v1 := by rw [← hq]; exact (Ext.refl v0).alloc _
        have hb : Blk v1 v0.heap.size 25 #[.int .i64 0, .int .i64 0] := by rw [← hq]; exact Blk.new' rfl
        have hgs : w5.heap.size ≤ v0.heap.size := hv.size_le
        have hv' := hv.trans hx0
        clear hv hq hx0
        have hv := hv'
        clear hv'
        refine wpAnyH_one (i := 7) (by kernel_rfl) rfl (by kernel_rfl) ?_
        go_simp
        refine (HM2.out _ (HX5.out.trans hv)).mono ?_
        rintro e v2 ⟨A1, d1, A2, d2, rfl, hq, hx0⟩
        clear hq
        have hv' := hv.trans hx0
        replace hb := hb.ext hx0
        clear hv hx0
        have hv := hv'
        clear hv'
        refine ⟨hv, ?_⟩
        try simp only [Act.put, List.setIfInBounds_toArray, List.set_cons_zero, List.set_cons_succ]
        refine take_free (i := 8) (v := .tuple #[.slice A1 k d1, .slice A2 (i + 1 : Nat) d2, .agg #[.int .i64 0, .int .i64 0], .bool true]) rfl rfl (by kernel_rfl) (by kernel_rfl) (by kernel_rfl) (by kernel_rfl) (fun _ => rfl) hv ?_
        try simp only [Act.put, List.setIfInBounds_toArray, List.set_cons_zero, List.set_cons_succ]
        refine take_free (i := 9) (v := .slice A1 k d1) rfl rfl (by kernel_rfl) (by kernel_rfl) (by kernel_rfl) (by kernel_rfl) (fun _ => rfl) hv ?_
        try simp only [Act.put, List.setIfInBounds_toArray, List.set_cons_zero, List.set_cons_succ]
        refine take_free (i := 10) (v := .slice A2 (i + 1 : Nat) d2) rfl rfl (by kernel_rfl) (by kernel_rfl) (by kernel_rfl) (by kernel_rfl) (fun _ => rfl) hv ?_
        try simp only [Act.put, List.setIfInBounds_toArray, List.set_cons_zero, List.set_cons_succ]
        refine take_free (i := 11) (v := .agg #[.int .i64 0, .int .i64 0]) rfl rfl (by kernel_rfl) (by kernel_rfl) (by kernel_rfl) (by kernel_rfl) (fun _ => rfl) hv ?_
        try simp only [Act.put, List.setIfInBounds_toArray, List.set_cons_zero, List.set_cons_succ]
        refine take_free (i := 12) (v := .bool true) rfl rfl (by kernel_rfl) (by kernel_rfl) (by kernel_rfl) (by kernel_rfl) (fun _ => rfl) hv ?_
        try simp only [Act.put, List.setIfInBounds_toArray, List.set_cons_zero, List.set_cons_succ]
        refine take_free (i := 14) (v := .slice A1 k d1) rfl rfl (by kernel_rfl) (by kernel_rfl) (by kernel_rfl) (by kernel_rfl) (fun _ => rfl) hv ?_
        try simp only [Act.put, List.setIfInBounds_toArray, List.set_cons_zero, List.set_cons_succ]
        refine take_free (i := 15) (v := .slice A2 (i + 1 : Nat) d2) rfl rfl (by kernel_rfl) (by kernel_rfl) (by kernel_rfl) (by kernel_rfl) (fun _ => rfl) hv ?_
        try simp only [Act.put, List.setIfInBounds_toArray, List.set_cons_zero, List.set_cons_succ]
        refine wpAnyH_one (i := 16) (by kernel_rfl) rfl (by kernel_rfl) ?_
        refine wp_store_blk 25 _ _ rfl hb rfl (.agg #[.int .i64 0, .int .i64 0]) rfl rfl (by kernel_rfl) (by simp [Value.cells, Value.oneCell']) ?_
        have hv6 := Ext.setAll hgs ([.int .i64 0, .int .i64 0]) 0 _ hv
        refine ⟨hv6, ?_⟩
        try simp only [Act.put, List.setIfInBounds_toArray, List.set_cons_zero, List.set_cons_succ]
        refine take_free (i := 17) (v := .bool true) rfl rfl (by kernel_rfl) (by kernel_rfl) (by kernel_rfl) (by kernel_rfl) (fun _ => rfl) hv6 ?_
        try simp only [Act.put, List.setIfInBounds_toArray, List.set_cons_zero, List.set_cons_succ]
        refine wpAnyH_done (by kernel_rfl) (NoPanic.normal ?_) _
        go_wp2_with fail
        go_meet
        exact ⟨rfl, hv6⟩
    case rest =>
      obtain ⟨rfl, hx0⟩ := hcut
      have HB7 := Lib.hid (HB7.out.ext hx0)
      have hx1 := hx.trans hx0
      clear hx hx0 HM2 HX5
      have hx := hx1
      clear hx1
      go_upto_region 11 with fail
      have HX5 := Lib.hid hx
      go_cut [21, 22] (fun u21 u22 wx => ∃ g, u21 = .pointer (some ⟨g, 0, none⟩) ∧ u22 = .bool false ∧ Blk wx g 25 #[.int .i64 i, .int .i64 k] ∧ Ext wc wx)
      case first =>
        refine wp_region_noPanic (wp_region_held_drew (S := fun w' => Ext wc w') (by kernel_rfl) (Ext.refl wc).drew1 (fun hv => ?_))
        refine take_free (i := 0) (v := .slice (some ⟨ba, oa, none⟩) n cA) rfl rfl (by kernel_rfl) (by kernel_rfl) (by kernel_rfl) (by kernel_rfl) (fun _ => rfl) hv ?_
        try simp only [Act.put, List.setIfInBounds_toArray, List.set_cons_zero, List.set_cons_succ]
        refine take_free (i := 1) (v := .int .i64 i) rfl rfl (by kernel_rfl) (by kernel_rfl) (by kernel_rfl) (by kernel_rfl) (fun _ => rfl) hv ?_
        try simp only [Act.put, List.setIfInBounds_toArray, List.set_cons_zero, List.set_cons_succ]
        refine take_any (i := 2) (v := .int .i64 ((i : Int) + 1)) rfl rfl (by kernel_rfl) (by kernel_rfl) (by kernel_rfl) (.inl ⟨(by kernel_rfl), fun W' hW' => ?ty2⟩) hv ?_
        case ty2 =>
          go_simp
        try simp only [Act.put, List.setIfInBounds_toArray, List.set_cons_zero, List.set_cons_succ]
        refine take_any (i := 3) (v := .slice (some ⟨ba, oa, none⟩) (i + 1) cA) rfl rfl (by kernel_rfl) (by kernel_rfl) (by kernel_rfl) (.inl ⟨(by kernel_rfl), fun W' hW' => ?ty3⟩) hv ?_
        case ty3 =>
          go_simp
        try simp only [Act.put, List.setIfInBounds_toArray, List.set_cons_zero, List.set_cons_succ]
        refine take_free (i := 4) (v := .slice (some ⟨bb, ob, none⟩) m cB) rfl rfl (by kernel_rfl) (by kernel_rfl) (by kernel_rfl) (by kernel_rfl) (fun _ => rfl) hv ?_
        try simp only [Act.put, List.setIfInBounds_toArray, List.set_cons_zero, List.set_cons_succ]
        refine take_free (i := 5) (v := .int .i64 k) rfl rfl (by kernel_rfl) (by kernel_rfl) (by kernel_rfl) (by kernel_rfl) (fun _ => rfl) hv ?_
        try simp only [Act.put, List.setIfInBounds_toArray, List.set_cons_zero, List.set_cons_succ]
        refine take_any (i := 6) (v := .int .i64 ((k : Int) + 1)) rfl rfl (by kernel_rfl) (by kernel_rfl) (by kernel_rfl) (.inl ⟨(by kernel_rfl), fun W' hW' => ?ty6⟩) hv ?_
        case ty6 =>
          go_simp
        try simp only [Act.put, List.setIfInBounds_toArray, List.set_cons_zero, List.set_cons_succ]
        refine take_any (i := 7) (v := .slice (some ⟨bb, ob, none⟩) (k + 1) cB) rfl rfl (by kernel_rfl) (by kernel_rfl) (by kernel_rfl) (.inl ⟨(by kernel_rfl), fun W' hW' => ?ty7⟩) hv ?_
        case ty7 =>
          go_simp
        try simp only [Act.put, List.setIfInBounds_toArray, List.set_cons_zero, List.set_cons_succ]
        generalize wc.drew = v0 at hv ⊢
        refine wpAnyH_ready (rs := [8, 14]) (by kernel_rfl) (by simp) ?_
        refine (AllReadyH.cons rfl (fun K hK => ?_) (AllReadyH.cons rfl (fun K hK => ?_) AllReadyH.nil))
        · go_simp
          refine (HM3.out _ (HX5.out.trans hv)).mono ?_
          rintro e v1 ⟨rfl, hx0⟩
          have hv' := hv.trans hx0
          clear hv hx0
          have hv := hv'
          clear hv'
          refine hK.out _ _ hv (fun _ => ?_)
          clear hK
          try simp only [Act.put, List.setIfInBounds_toArray, List.set_cons_zero, List.set_cons_succ]
          refine take_free (i := 9) (v := .tuple #[.slice none 0 0, .slice none 0 0, .agg #[.int .i64 i, .int .i64 k], .bool false]) rfl rfl (by kernel_rfl) (by kernel_rfl) (by kernel_rfl) (by kernel_rfl) (fun _ => rfl) hv ?_
          try simp only [Act.put, List.setIfInBounds_toArray, List.set_cons_zero, List.set_cons_succ]
          refine take_free (i := 10) (v := .slice none 0 0) rfl rfl (by kernel_rfl) (by kernel_rfl) (by kernel_rfl) (by kernel_rfl) (fun _ => rfl) hv ?_
          try simp only [Act.put, List.setIfInBounds_toArray, List.set_cons_zero, List.set_cons_succ]
          refine take_free (i := 11) (v := .slice none 0 0) rfl rfl (by kernel_rfl) (by kernel_rfl) (by kernel_rfl) (by kernel_rfl) (fun _ => rfl) hv ?_
          try simp only [Act.put, List.setIfInBounds_toArray, List.set_cons_zero, List.set_cons_succ]
          refine take_free (i := 12) (v := .agg #[.int .i64 i, .int .i64 k]) rfl rfl (by kernel_rfl) (by kernel_rfl) (by kernel_rfl) (by kernel_rfl) (fun _ => rfl) hv ?_
          try simp only [Act.put, List.setIfInBounds_toArray, List.set_cons_zero, List.set_cons_succ]
          refine take_free (i := 13) (v := .bool false) rfl rfl (by kernel_rfl) (by kernel_rfl) (by kernel_rfl) (by kernel_rfl) (fun _ => rfl) hv ?_
          try simp only [Act.put, List.setIfInBounds_toArray, List.set_cons_zero, List.set_cons_succ]
          refine wpAnyH_one (i := 14) (by kernel_rfl) rfl (by kernel_rfl) ?_
          go_simp
          refine ⟨hv.trans ((Ext.refl v1).alloc _), ?_⟩
          try simp only [Act.put, List.setIfInBounds_toArray, List.set_cons_zero, List.set_cons_succ]
          generalize hq : World.alloc v1 _ = v2
          have hx0 : Ext v1 v2 := by rw [← hq]; exact (Ext.refl v1).alloc _
          have hb : Blk v2 v1.heap.size 25 #[.int .i64 0, .int .i64 0] := by rw [← hq]; exact Blk.new' rfl
          have hgs : wc.heap.size ≤ v1.heap.size := hv.size_le
          have hv' := hv.trans hx0
          clear hv hq hx0
          have hv := hv'
          clear hv'
          refine take_free (i := 15) (v := .slice none 0 0) rfl rfl (by kernel_rfl) (by kernel_rfl) (by kernel_rfl) (by kernel_rfl) (fun _ => rfl) hv ?_
          try simp only [Act.put, List.setIfInBounds_toArray, List.set_cons_zero, List.set_cons_succ]
          refine take_free (i := 16) (v := .slice none 0 0) rfl rfl (by kernel_rfl) (by kernel_rfl) (by kernel_rfl) (by kernel_rfl) (fun _ => rfl) hv ?_
          try simp only [Act.put, List.setIfInBounds_toArray, List.set_cons_zero, List.set_cons_succ]
          refine wpAnyH_one (i := 17) (by kernel_rfl) rfl (by kernel_rfl) ?_
          refine wp_store_blk 25 _ _ rfl hb rfl (.agg #[.int .i64 i, .int .i64 k]) rfl rfl (by kernel_rfl) (by simp [Value.cells, Value.oneCell']) ?_
          have hv6 := Ext.setAll hgs ([.int .i64 i, .int .i64 k]) 0 _ hv
          refine ⟨hv6, ?_⟩
          try simp only [Act.put, List.setIfInBounds_toArray, List.set_cons_zero, List.set_cons_succ]
          refine take_free (i := 18) (v := .bool false) rfl rfl (by kernel_rfl) (by kernel_rfl) (by kernel_rfl) (by kernel_rfl) (fun _ => rfl) hv6 ?_
          try simp only [Act.put, List.setIfInBounds_toArray, List.set_cons_zero, List.set_cons_succ]
          refine wpAnyH_done (by kernel_rfl) (NoPanic.normal ?_) _
          go_wp2_with fail
          go_meet
          exact ⟨_, rfl, rfl, Blk.whole (vs := (#[.int .i64 i, .int .i64 k] : Array Value)) hb rfl, hv6⟩
        · go_simp
          refine hK.out _ _ (hv.trans ((Ext.refl v0).alloc _)) (fun _ => ?_)
          clear hK
          try simp only [Act.put, List.setIfInBounds_toArray, List.set_cons_zero, List.set_cons_succ]
          generalize hq : World.alloc v0 _ = v1
          have hx0 : Ext v0 v1 := by rw [← hq]; exact (Ext.refl v0).alloc _
          have hb : Blk v1 v0.heap.size 25 #[.int .i64 0, .int .i64 0] := by rw [← hq]; exact Blk.new' rfl
          have hgs : wc.heap.size ≤ v0.heap.size := hv.size_le
          have hv' := hv.trans hx0
          clear hv hq hx0
          have hv := hv'
          clear hv'
          refine wpAnyH_one (i := 8) (by kernel_rfl) rfl (by kernel_rfl) ?_
          go_simp
          refine (HM3.out _ (HX5.out.trans hv)).mono ?_
          rintro e v2 ⟨rfl, hx0⟩
          have hv' := hv.trans hx0
          replace hb := hb.ext hx0
          clear hv hx0
          have hv := hv'
          clear hv'
          refine ⟨hv, ?_⟩
          try simp only [Act.put, List.setIfInBounds_toArray, List.set_cons_zero, List.set_cons_succ]
          refine take_free (i := 9) (v := .tuple #[.slice none 0 0, .slice none 0 0, .agg #[.int .i64 i, .int .i64 k], .bool false]) rfl rfl (by kernel_rfl) (by kernel_rfl) (by kernel_rfl) (by kernel_rfl) (fun _ => rfl) hv ?_
          try simp only [Act.put, List.setIfInBounds_toArray, List.set_cons_zero, List.set_cons_succ]
          refine take_free (i := 10) (v := .slice none 0 0) rfl rfl (by kernel_rfl) (by kernel_rfl) (by kernel_rfl) (by kernel_rfl) (fun _ => rfl) hv ?_
          try simp only [Act.put, List.setIfInBounds_toArray, List.set_cons_zero, List.set_cons_succ]
          refine take_free (i := 11) (v := .slice none 0 0) rfl rfl (by kernel_rfl) (by kernel_rfl) (by kernel_rfl) (by kernel_rfl) (fun _ => rfl) hv ?_
          try simp only [Act.put, List.setIfInBounds_toArray, List.set_cons_zero, List.set_cons_succ]
          refine take_free (i := 12) (v := .agg #[.int .i64 i, .int .i64 k]) rfl rfl (by kernel_rfl) (by kernel_rfl) (by kernel_rfl) (by kernel_rfl) (fun _ => rfl) hv ?_
          try simp only [Act.put, List.setIfInBounds_toArray, List.set_cons_zero, List.set_cons_succ]
          refine take_free (i := 13) (v := .bool false) rfl rfl (by kernel_rfl) (by kernel_rfl) (by kernel_rfl) (by kernel_rfl) (fun _ => rfl) hv ?_
          try simp only [Act.put, List.setIfInBounds_toArray, List.set_cons_zero, List.set_cons_succ]
          refine take_free (i := 15) (v := .slice none 0 0) rfl rfl (by kernel_rfl) (by kernel_rfl) (by kernel_rfl) (by kernel_rfl) (fun _ => rfl) hv ?_
          try simp only [Act.put, List.setIfInBounds_toArray, List.set_cons_zero, List.set_cons_succ]
          refine take_free (i := 16) (v := .slice none 0 0) rfl rfl (by kernel_rfl) (by kernel_rfl) (by kernel_rfl) (by kernel_rfl) (fun _ => rfl) hv ?_
          try simp only [Act.put, List.setIfInBounds_toArray, List.set_cons_zero, List.set_cons_succ]
          refine wpAnyH_one (i := 17) (by kernel_rfl) rfl (by kernel_rfl) ?_
          refine wp_store_blk 25 _ _ rfl hb rfl (.agg #[.int .i64 i, .int .i64 k]) rfl rfl (by kernel_rfl) (by simp [Value.cells, Value.oneCell']) ?_
          have hv6 := Ext.setAll hgs ([.int .i64 i, .int .i64 k]) 0 _ hv
          refine ⟨hv6, ?_⟩
          try simp only [Act.put, List.setIfInBounds_toArray, List.set_cons_zero, List.set_cons_succ]
          refine take_free (i := 18) (v := .bool false) rfl rfl (by kernel_rfl) (by kernel_rfl) (by kernel_rfl) (by kernel_rfl) (fun _ => rfl) hv6 ?_
          try simp only [Act.put, List.setIfInBounds_toArray, List.set_cons_zero, List.set_cons_succ]
          refine wpAnyH_done (by kernel_rfl) (NoPanic.normal ?_) _
          go_wp2_with fail
          go_meet
          exact ⟨_, rfl, rfl, Blk.whole (vs := (#[.int .i64 i, .int .i64 k] : Array Value)) hb rfl, hv6⟩
      case rest =>
        obtain ⟨g, rfl, rfl, hb, hx0⟩ := hcut
        have hb7 := HB7.out.ext hx0
        have hx1 := hx.trans hx0
        clear hx hx0 HM3 HX5 HB7
        have hx := hx1
        clear hx1
        have hc := hb.cell
        have hl := hb.lt
        have hc7 := hb7.cell
        have hl7 := hb7.lt
        have qe : ∀ w, (Op.equalIn 10000 25 (.agg #[.int .i64 i, .int .i64 k]) (.agg #[.int .i64 i, .int .i64 k])).run Tryz.prog w = .ok true w := fun w => by rw [eql_pair]; simp
        go_wp2_with fail
        refine (HAW.out _ hx).mono ?_
        rintro e w9 ⟨rfl, hx0⟩
        have hx1 := hx.trans hx0
        clear hx hx0
        have hx := hx1
        clear hx1
        go_wp2_with fail
        (go_ret; refine Ret.mk ?_ ?_; (focus (rfl; done)); (focus ((repeat (first | with_reducible exact hx | with_reducible exact Ext.refl _ | with_reducible refine Ext.alloc ?_ _ | with_reducible refine Ext.drewN ?_ _ | with_reducible refine Ext.drew1 ?_ | ((with_reducible refine Ext.setCell ?_ ?_ _); rotate_left; (focus (first | (dsimp only; omega) | (simp; done) | (simp; omega)))))); done)))
end Go.Proofs.YtgjphfmpodkgeaaGreatDoor
