/- Walks: PrimpatchValid. Walks: PrimpatchApply. Apply returns the result of the reference implementation: PrimpatchApply returns true for every tree and every patch, of any size, in every state in which the listed tables of the library hold what the program's text lays. No condition. -/
import Derived.Test.YtfmgnaigcibcaaaGreatDoorJd
import Derived.Test.YtfmgnaigcibcaaaGreatDoorJe
import Derived.Test.YtfmgnaigcibcaaaGreatDoorQd
import Derived.Test.YtfmgnaigcibcaaaGreatDoorQc
import Derived.Test.YtfmgnaigcibcaaaGreatDoorJk
import Derived.Test.YtfmgnaigcibcaaaGreatDoorJf
import Derived.Test.YtfmgnaigcibcaaaGreatDoorCards
import Derived.Test.YtfmgnaigcibcaaaGreatDoorTie
import Derived.ProofKit
import Derived.Deep.DeepHandedRow
import Derived.Lay
set_option linter.unusedSimpArgs false
set_option linter.unusedVariables false
namespace Go.Proofs.YtfmgnaigcibcaaaGreatDoor
open Go Go.RowKit

/-- Apply at a patch of fair size, and its outcome. -/
theorem apply_mild (p : Pv) (q : Qp) (A : Option Addr) (n c : Nat) (l : List Pf) (w : World) (h : Trs w A l) (hn : l.length = n) (hb : n ≤ 10000000000000) (hg : Glob w) {F : Nat → Prop} (hq : Is w F p q)
    (b1 : q.old.length ≤ 1152921504606846976) (b2 : q.new.length ≤ 1152921504606846976) (m : q.Mild) :
    Calls Tryz.prog 14 #[.slice A n c, p.v] w (GivesT (Tr.apply l q) w) :=
  apply_any p q A n c l w h hn hb hg hq b1 b2 (by have := m.path; omega) (by have := m.to_; omega)

end Go.Proofs.YtfmgnaigcibcaaaGreatDoor
namespace Go.Proofs.YtfmgnaigcibcaaaGreatDoor
open Go Go.RowKit

set_option maxHeartbeats 16000000 in
set_option maxRecDepth 100000 in
theorem apply_walk (p : Pv) (q : Qp) (A : Option Addr) (n c : Nat) (l : List Pf) (w : World) (h : Trs w A l) (hn : l.length = n) (hcap : n ≤ c) (hb : n ≤ 10000000000000) (hz : ∀ f ∈ l, f.path.size ≤ 140737488355328 ∧ f.data.size ≤ 140737488355328) (hg : Glob w) {F : Nat → Prop} (hq : Is w F p q)
    (b1 : q.old.length ≤ 1152921504606846976) (b2 : q.new.length ≤ 1152921504606846976) (s1 : ∀ x ∈ q.old, x.size ≤ 4611686018427387904) (s2 : ∀ x ∈ q.new, x.size ≤ 4611686018427387904) :
    Calls Tryz.prog 3 #[.slice A n c, p.v] w (Ret (.bool true) w) := by
  have HG := Lib.hid (fun W (hW : Ext w W) => greattree_any A n c l W (h.ext hW) hn (by omega) hz)
  have HAW := Lib.hid (fun W (hW : Ext w W) => awake12_any W (hg.ext hW))
  have HGR := Lib.hid (fun W (hW : Ext w W) => pgreat_any p q W (hq.ext hW) b1 b2)
  have HAP := Lib.hid (fun (m : q.Mild) W (hW : Ext w W) => apply_mild p q A n c l W (h.ext hW) hn hb (hg.ext hW) (hq.ext hW) b1 b2 m)
  have HRP := Lib.hid (fun (m : q.Mild) W (hW : Ext w W) => refapply_any p q A n c l W (h.ext hW) hn hcap hb (hq.ext hW) m s1 s2)
  have HLEN : Hid ((Tr.apply l q).1.length ≤ 200) := Lib.hid (by
    by_cases he : (Tr.apply l q).2 = 0
    · obtain ⟨hgood, hck, hdo⟩ := Tr.apply_iff.1 (show Tr.apply l q = ((Tr.apply l q).1, 0) from Prod.ext rfl he)
      exact (hdo.good hgood hck).len
    · rw [Tr.apply_err he]
      exact Nat.zero_le _)
  generalize Tr.apply l q = r at *
  clear h hn hz hg hq hcap hb s1 s2
  cases hgr : Tr.great l
  rotate_left
  · have HGr := Lib.hid hgr
    clear hgr
    go_enter Tryz.func3, Tryz.ntmps3
    have hx := Ext.refl w
    go_wp2_with (first
      | (go_at_call 11; refine (HG.out _ EX).mono ?_; rintro e w1 ⟨rfl, hx0⟩; rw [HGr.out]; have hy := Ext.trans (a := w) EX hx0; clear hx; have hx := hy; clear hy hx0)
      | (go_at_call 13; refine (HAW.out _ EX).mono ?_; rintro e w2 ⟨rfl, hx0⟩; skip; have hy := Ext.trans (a := w) EX hx0; clear hx; have hx := hy; clear hy hx0))
    (go_ret; refine Ret.mk ?_ ?_; (focus (rfl; done)); (focus (exact EX; done)))
  have HGr := Lib.hid hgr
  clear hgr
  go_enter Tryz.func3, Tryz.ntmps3
  have hx := Ext.refl w
  go_wp2_with (go_at_call 11; refine (HG.out _ EX).mono ?_; rintro e w1 ⟨rfl, hx0⟩; rw [HGr.out]; have hy := Ext.trans (a := w) EX hx0; clear hx; have hx := hy; clear hy; have hn0 := BB hx0 (w.heap.size); (first | simp [↓heap_drew_at, ↓heap_drewN_at, ↓heap_alloc_at, ↓heap_set_at, ne_two, ne_three, ne_two_left, ne_three_left, ↓hb0.eq, hb0.lt, hb0.ne] at hn0 | simp [↓heap_drew_at, ↓heap_drewN_at, ↓heap_alloc_at, ↓heap_set_at, ne_two, ne_three, ne_two_left, ne_three_left] at hn0); (try clear hb0 hc0 hf0 hl0); have hb0 := Blk.mk hn0; clear hn0; obtain ⟨hc0, hf0, hl0⟩ := hb0.all; (try clear hx0))
  refine (HGR.out _ EX).mono ?_
  rintro e w2 ⟨v, rfl, hm, hx0⟩
  have HM := Lib.hid hm
  clear hm HGR HG
  have hy := Ext.trans (a := w) EX hx0; clear hx; have hx := hy; clear hy; have hn0 := BB hx0 (w.heap.size); (first | simp [↓heap_drew_at, ↓heap_drewN_at, ↓heap_alloc_at, ↓heap_set_at, ne_two, ne_three, ne_two_left, ne_three_left, ↓hb0.eq, hb0.lt, hb0.ne] at hn0 | simp [↓heap_drew_at, ↓heap_drewN_at, ↓heap_alloc_at, ↓heap_set_at, ne_two, ne_three, ne_two_left, ne_three_left] at hn0); (try clear hb0 hc0 hf0 hl0); have hb0 := Blk.mk hn0; clear hn0; obtain ⟨hc0, hf0, hl0⟩ := hb0.all; (try clear hx0)
  cases v
  rotate_left
  · clear HAP HRP HM HLEN
    go_wp2_with (go_at_call 13; refine (HAW.out _ EX).mono ?_; rintro e w3 ⟨rfl, hx0⟩; skip; have hy := Ext.trans (a := w) EX hx0; clear hx; have hx := hy; clear hy hx0)
    (go_ret; refine Ret.mk ?_ ?_; (focus (rfl; done)); (focus (exact EX; done)))
  · have hM := HM.out rfl
    have HAP := Lib.hid (HAP.out hM)
    have HRP := Lib.hid (HRP.out hM)
    clear hM HM
    obtain ⟨r, E⟩ := r
    have hee : (E == E) = true := by simp
    go_wp2_with fail
    refine (HAP.out _ EX).mono ?_
    rintro e w3 ⟨B, m, d, rfl, hm, hT, hx0⟩
    have HX3 := Lib.hid (Ext.trans (a := w) EX hx0)
    have HT := Lib.hid hT.out.1
    have HMm : Hid (r.length = m) := Lib.hid hm.symm
    have hb3 : Blk w3 w.heap.size 28 (parr p) := hb0.ext hx0
    clear hx hx0 hb0 hc0 hf0 hl0 hm hT
    have hx := Ext.refl w3
    obtain ⟨hc0, hf0, hl0⟩ := hb3.all
    clear hb3
    go_wp2_with fail
    refine (HRP.out _ (HX3.out.trans EX)).mono ?_
    rintro e w4 ⟨B', m', d', rfl, hm, hT, hx4⟩
    have HX4 := Lib.hid (Ext.trans (a := w3) EX hx4)
    have HT4 := Lib.hid hT.out.1
    have HMm4 : Hid (r.length = m') := Lib.hid hm.symm
    have HL : Hid (r.length ≤ 200) := HLEN
    have HS := Lib.hid (fun W (hW : Ext w4 W) => sametree_any B B' m m' d d' r r W (HT.out.ext (HX4.out.trans hW)) (HT4.out.ext hW) HMm.out HMm4.out (by have := HL.out; have := HMm.out; omega) (by have := HL.out; have := HMm4.out; omega))
    rw [decide_eq_true rfl] at HS
    have HX := Lib.hid (HX3.out.trans HX4.out)
    clear hx hx4 hc0 hf0 hl0 hm hT
    have hx := Ext.refl w4
    go_wp2_with (first
      | (go_at_call 16; refine (HS.out _ EX).mono ?_; rintro e w7 ⟨rfl, hx4⟩; have hx5 := Ext.trans (a := w4) EX hx4; clear hx hx4; have hx := hx5; clear hx5)
      | (go_at_call 13; refine (HAW.out _ (HX.out.trans EX)).mono ?_; rintro e w8 ⟨rfl, hx4⟩; have hx5 := Ext.trans (a := w4) EX hx4; clear hx hx4; have hx := hx5; clear hx5))
    go_ret
    exact ⟨rfl, HX.out.trans EX⟩
end Go.Proofs.YtfmgnaigcibcaaaGreatDoor
namespace Go.Proofs.YtfmgnaigcibcaaaGreatDoor.PrimpatchApply
open Go.ChangeShapes Go.WideShapes Go.ChangeAt Go.RowKit Go.Deep

theorem own : ownKnob Tryz.prog.godebug = none := by kernel_rfl
theorem primIn : 28 < Tryz.prog.types.size := of_decide_eq_true (by kernel_rfl)
theorem treeIn : 23 < Tryz.prog.types.size := of_decide_eq_true (by kernel_rfl)
theorem glob {W : World} (h : W.ShapedOpen Tryz.prog) : Glob W :=
  cell_of_shapedOpen_int (zero := #[.int .i64 0]) (t := 3) h (of_decide_eq_true (by kernel_rfl)) (by kernel_rfl) rfl (by kernel_rfl) (by kernel_rfl) Tryz.underlying3

set_option maxHeartbeats 2000000 in
set_option maxRecDepth 100000 in
theorem contract (H : Type) (enc : TypeId × Value → H) (W : World) (base : Nat) (args : Array Value) (ds gs : List (DataW H)) (before : List MemPlace)
    (hval : ∀ (j : Nat) t v, Tryz.f3.params[j]? = some t → args[j]? = some v → Value.okWide Tryz.prog W .any base t v)
    (hW : DataW.Whole enc Tryz.prog Tryz.f3.params.toList Rows.primpatchApplySpec.vars false W args.toList ds gs before)
    (hwt : ∀ n ∈ DataW.weightsEach Tryz.prog (Tryz.f3.params.toList ++ (OpenSpec.ofChange Rows.primpatchApplySpec).bare.plain.varTypes Tryz.prog) (ds ++ gs), n ≤ reachBytes) (hS : W.ShapedOpen Tryz.prog) :
    Calls Tryz.prog 3 args W fun e W' => ∃ v, e = .returned v ∧ Rows.primpatchApplySpec.post enc Tryz.prog Tryz.f3 false true false false W args v W' := by
  have hW' := hW
  obtain ⟨p, q, hA0, hV, rfl, hfz, hnd⟩ := hW
  have hA : DataW.TrodAll enc Tryz.prog W 0 (fun _ => true) true Tryz.f3.params.toList args.toList ds p := hA0
  rw [Tryz.params3] at hA hval hwt
  obtain ⟨v0, vs0, d0, ds0, p0, q0, hargs, rfl, rfl, h0, r0⟩ := trodAll_cons hA
  obtain ⟨v1, vs1, d1, ds1, p1, q1, rfl, rfl, rfl, h1, r1⟩ := trodAll_cons r0
  obtain ⟨rfl, rfl, rfl⟩ := trodAll_nil r1
  obtain rfl : args = #[v0, v1] := by cases args; simp_all
  obtain ⟨rfl, rfl⟩ := trodVars_none hV
  obtain ⟨x0, y0, z0, ex0⟩ := okWide_slice Tryz.underlying23 (hval 0 23 v0 rfl rfl)
  subst ex0
  obtain ⟨f0, g0⟩ := h0
  obtain ⟨A0, l0, c0, ey0, Q0, le0, ub0, nn0, mk0⟩ := open_tree (x := (d0, p0)) g0 (weights_mem (j := 0) hwt rfl rfl)
  obtain ⟨rfl, rfl, rfl⟩ : x0 = A0 ∧ y0 = l0.length ∧ z0 = c0 := by simpa using ey0
  obtain ⟨P1, s1, rfl, I1, ba1, bb1, za1, zb1⟩ := open_prim_sz (hval 1 28 v1 rfl rfl) h1 (weights_mem (j := 1) hwt rfl rfl)
  clear hA0
  refine (apply_walk P1 s1 x0 l0.length z0 l0 W Q0 rfl le0 (by omega) (fun f hf => ⟨by have := (mk0 f hf).path; omega, by have := (mk0 f hf).data; omega⟩) (glob hS) I1 ba1 bb1 za1 zb1).mono fun e W' ⟨he, hx⟩ => ?_
  refine ⟨_, he, post_of_ext rfl hW' hx (fun t ht => ?_) (fun _ _ _ => trodAll_cons_mk (shut_bool Tryz.underlying4 _) trodAll_mk0) rfl rfl (ok_one (by kernel_rfl) rfl (okWide_bool_mk Tryz.underlying4 _))⟩
  rw [Tryz.params3] at ht
  have ht2 : t = 23 ∨ t = 28 := by simpa using ht
  rcases ht2 with rfl | rfl
  · exact treeIn
  · exact primIn

/-! ### The witness -/
def zeroVP : Value := (Qp.zero.pv none 0 none 0).v
def zeroDP {H : Type} : DataW H := .agg [.lit (.int .i64 0), .lit (.string []), .lit (.string []), .lit (.int .i64 0), .agg [.lit (.int .i64 0), .nil, .nil], .lit (.int .i64 0), .lit (.string []), .lit (.string []), .lit (.int .i64 0), .lit (.int .i64 0)]
def zeroVT : Value := .slice none 0 0
def zeroDT {H : Type} : DataW H := .nil
theorem reads (os : Os) {H : Type} (enc : TypeId × Value → H) : DataW.whole enc Tryz.prog ((World.laidAll Tryz.prog os Rows.primpatchApplyRow.laid).forCall (fun _ _ => 0) ⟨#[], #[zeroVT, zeroVP], []⟩).memory Tryz.f3.params.toList Rows.primpatchApplySpec.vars false #[zeroVT, zeroVP].toList 8 = some ([zeroDT, zeroDP], [], []) := by kernel_rfl
theorem laid_met (os : Os) : laidMet Tryz.prog Rows.primpatchApplyRow.laid ((World.laidAll Tryz.prog os Rows.primpatchApplyRow.laid).forCall (fun _ _ => 0) ⟨#[], #[zeroVT, zeroVP], []⟩).memory :=
  laidMet_laidAll _ (by kernel_rfl) (by kernel_rfl)

set_option maxRecDepth 100000 in
theorem lifted (os : Os) (started : os.Started) (H : Type) (enc : TypeId × Value → H) (F : Stop.Interp) :
    ReturnsInHanded {} Tryz.checked os 3 .any ((OpenSpec.ofChange Rows.primpatchApplySpec).preRow enc Tryz.prog Tryz.f3 Rows.primpatchApplyRow.domain false Rows.primpatchApplyRow.laid) (((OpenSpec.ofChange Rows.primpatchApplySpec).at F).post enc Tryz.prog Tryz.f3 false true false false) := by
  refine returnsInHanded_of_row (C := Tryz.checked) (s := (OpenSpec.ofChange Rows.primpatchApplySpec)) own started (by kernel_rfl) Tryz.func3
    (witness_row_at (enc := enc) (C := Tryz.checked) false (World.laidAll Tryz.prog os Rows.primpatchApplyRow.laid) #[zeroVT, zeroVP] (World.laidAll_os _ _ _) (by kernel_rfl) (by kernel_rfl) (by kernel_rfl)
      (OpenSpec.preRow_of_cond 8 (reads os enc) (by kernel_rfl) (fun k hk => by cases hk) (by kernel_rfl) (laid_met os))) ?_
  intro W base args ds gs before hval hW _ hcond hwt _ hS _
  exact contract H enc W base args ds gs before hval hW (fun n hn => of_decide_eq_true (List.all_eq_true.1 hwt n hn)) hS

theorem said : Rows.PrimpatchApplySaid :=
  OpenClaim.holds_of_cond 3 Tryz.f3 rfl rfl rfl rfl rfl rfl rfl ⟨rfl, rfl, rfl, rfl, rfl⟩ rfl rfl rfl rfl rfl (by kernel_rfl) Tryz.func3 (by kernel_rfl)
    (of_decide_eq_true (by kernel_rfl)) (by unfold Func.isWrapper; first | (rw [if_pos (by decide +kernel)]; kernel_rfl) | (rw [if_neg (by decide +kernel)]; exact ⟨rfl, rfl⟩))
    (fun os started H enc _ F => by rw [OpenClaim.pre_eq_preRow]; exact lifted os started H enc F)

/-- No parameter wants a stand-in; the program's own looks are off. -/
theorem plain (f : FuncId) (fn : Func) (hf : Tryz.pinned.checked.prog.funcNamed Rows.primpatchApplyRow.func = some f) (hfn : Tryz.pinned.checked.prog.funcs[f]? = some fn) :
    false = Tryz.pinned.checked.prog.looks [] ∧ ∀ (j : Nat) t, fn.params[j]? = some t → Tryz.pinned.checked.prog.wantsStandIn t = false := by
  obtain rfl : f = 3 := Option.some.inj ((show Tryz.prog.funcNamed Rows.primpatchApplyRow.func = some 3 by kernel_rfl).symm.trans hf) |>.symm
  obtain rfl : fn = Tryz.f3 := (Option.some.inj (Tryz.func3.symm.trans hfn)).symm
  refine ⟨by kernel_rfl, fun j t ht => ?_⟩
  rw [Tryz.params3] at ht
  have ht2 : t = 23 ∨ t = 28 := by simpa using Array.mem_of_getElem? ht
  rcases ht2 with rfl | rfl
  · exact (show Tryz.prog.wantsStandIn 23 = false by kernel_rfl)
  · exact (show Tryz.prog.wantsStandIn 28 = false by kernel_rfl)

theorem card : Rows.PrimpatchApplyCardSaid :=
  Claim7.holds_tied_plain_at .later [] _ _ _ _ said (fun _ h => by cases h) (by kernel_rfl) (fun _ h => by cases h) primpatchApply_row_tie rfl ⟨rfl, rfl⟩ (by kernel_rfl) rfl plain (by kernel_rfl)
end Go.Proofs.YtfmgnaigcibcaaaGreatDoor.PrimpatchApply
