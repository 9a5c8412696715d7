/- Walks: Cancel and Same return what the reference returns. Cancel and Same return the results of the reference implementation: SequenceCancels returns true for every two sequences, of any size, in every state in which the listed tables of the library hold what the program's text lays. No condition. -/
import Derived.Test.YtlbhaimfjfdppaaGreatDoorJA
import Derived.Test.YtlbhaimfjfdppaaGreatDoorJY
import Derived.Test.YtlbhaimfjfdppaaGreatDoorOp
import Derived.Test.YtlbhaimfjfdppaaGreatDoorCards
import Derived.Test.YtlbhaimfjfdppaaGreatDoorTie
import Derived.ProofKit
import Derived.Deep.DeepHandedRow
import Derived.Lay
set_option linter.unusedSimpArgs false
set_option linter.unusedVariables false
namespace Go.Proofs.YtlbhaimfjfdppaaGreatDoor
open Go Go.RowKit
attribute [local go_sem ↓] Go.wp_at_zero Go.wp_at_succ

set_option maxHeartbeats 16000000 in
set_option maxRecDepth 100000 in
theorem cancels_walk (A B : Option Addr) (n c m d : Nat) (a b : List Qp) (w : World) (hg : Glob w) (ha : Qs w (fun _ => True) A a) (hb : Qs w (fun _ => True) B b) (hn : a.length = n) (hm : b.length = m) (hc : n ≤ c) (hd : m ≤ d) (b1 : n ≤ 1152921504606846976) (b2 : m ≤ 1152921504606846976) (ta : ∀ q ∈ a, q.Tame) (tb : ∀ q ∈ b, q.Tame) :
    Calls Tryz.prog 3 #[.slice A n c, .slice B m d] w (Ret (.bool true) w) := by
  have HA := Lib.hid (fun W (hW : Ext w W) => ha.ext hW)
  have HB := Lib.hid (fun W (hW : Ext w W) => hb.ext hW)
  have HN := Lib.hid hn
  have HM := Lib.hid hm
  have HG := Lib.hid (fun W (hW : Ext w W) => hg.ext hW)
  have HTA := Lib.hid ta
  have HTB := Lib.hid tb
  have HAW := Lib.hid (fun W (hW : Ext w W) => awake14_any W (hg.ext hW))
  have HGA := Lib.hid (fun W (hW : Ext w W) => lawgreat14_any A n c a W (ha.ext hW) hn b1 (fun q hq => ⟨(ta q hq).1.1, (ta q hq).1.2.1⟩))
  have HGB := Lib.hid (fun W (hW : Ext w W) => lawgreat14_any B m d b W (hb.ext hW) hm b2 (fun q hq => ⟨(tb q hq).1.1, (tb q hq).1.2.1⟩))
  clear ha hb hn hm hg ta tb b1 b2
  go_enter Tryz.func3, Tryz.ntmps3
  have hx := Ext.refl w
  go_wp2_with fail
  refine (HGA.out _ hx).mono ?_
  rintro e u1 ⟨v, rfl, hsm, hx0⟩
  have hx1 := hx.trans hx0
  clear hx hx0
  have hx := hx1
  clear hx1
  dsimp only
  have HS := Lib.hid hsm
  clear hsm HGA
  cases v
  rotate_left
  · go_wp2_with fail
    refine (HAW.out _ hx).mono ?_
    rintro e u2 ⟨rfl, hx0⟩
    have hx1 := hx.trans hx0
    clear hx hx0
    have hx := hx1
    clear hx1
    dsimp only
    go_wp2_with fail
    (go_ret; refine Ret.mk ?_ ?_; (focus (rfl; done)); (focus (exact EX; done)))
  have S1 : Small a := HS.out rfl
  have F1 := Lib.hid S1.fits
  have n8 : n ≤ 8 := by have := S1.1; have := HN.out; omega
  clear HS S1
  go_wp2_with fail
  refine (HGB.out _ hx).mono ?_
  rintro e u2 ⟨v, rfl, hsm, hx0⟩
  have hx1 := hx.trans hx0
  clear hx hx0
  have hx := hx1
  clear hx1
  dsimp only
  have HS := Lib.hid hsm
  clear hsm HGB
  cases v
  rotate_left
  · go_wp2_with fail
    refine (HAW.out _ hx).mono ?_
    rintro e u3 ⟨rfl, hx0⟩
    have hx1 := hx.trans hx0
    clear hx hx0
    have hx := hx1
    clear hx1
    dsimp only
    go_wp2_with fail
    (go_ret; refine Ret.mk ?_ ?_; (focus (rfl; done)); (focus (exact EX; done)))
  have S1 : Small b := HS.out rfl
  have F2 := Lib.hid S1.fits
  have m8 : m ≤ 8 := by have := S1.1; have := HM.out; omega
  clear HS S1
  go_wp2_with fail
  refine (cancel_any A n c a _ (HG.out _ hx) (HA.out _ hx) HN.out (by omega) F1.out).mono ?_
  rintro e u3 ⟨E1, n1, c1, rfl, hl1, hn1, HQ1, HF1, hx0⟩
  have hx1 := hx.trans hx0
  clear hx hx0
  have hx := hx1
  clear hx1
  dsimp only
  have HL1 := Lib.hid hl1
  clear hl1
  go_wp2_with fail
  refine (rCancel_any A n c a _ (HA.out _ hx) HN.out hc (by omega) HTA.out).mono ?_
  rintro e u4 ⟨E2, n2, c2, rfl, hl2, hn2, HQ2, HT2, hx0⟩
  have hx9 := hx0
  have hx1 := hx.trans hx0
  clear hx hx0
  have hx := hx1
  clear hx1
  replace HQ1 := Lib.hid (HQ1.out.ext hx9)
  dsimp only
  clear hx9
  obtain rfl : n1 = n2 := HL1.out.symm.trans hl2
  clear hl2 HT2
  have HFC := Lib.hid (fun W (hW : Ext u4 W) => samelist_true E1 E2 n1 c1 c2 (Sq.cancel a) W (HQ1.out.ext hW) (HQ2.out.ext hW) HL1.out (by omega) HF1.out)
  go_wp2_with fail
  refine (HFC.out _ (Ext.refl _)).mono ?_
  rintro e u5 ⟨rfl, hx0⟩
  have hx1 := hx.trans hx0
  clear hx hx0
  have hx := hx1
  clear hx1
  dsimp only
  clear HFC HQ1 HQ2 HL1 HF1
  go_wp2_with fail
  refine (seqsame_any A B n c m d a b _ (HG.out _ hx) (HA.out _ hx) (HB.out _ hx) HN.out HM.out (by omega) (by omega) F1.out F2.out).mono ?_
  rintro e u6 ⟨rfl, hx0⟩
  have hx1 := hx.trans hx0
  clear hx hx0
  have hx := hx1
  clear hx1
  dsimp only
  go_wp2_with fail
  refine (rsame14_any A B n c m d a b _ (HA.out _ hx) (HB.out _ hx) HN.out HM.out hc hd (by omega) (by omega) HTA.out HTB.out).mono ?_
  rintro e u7 ⟨rfl, hx0⟩
  have hx1 := hx.trans hx0
  clear hx hx0
  have hx := hx1
  clear hx1
  dsimp only
  generalize Sq.same a b = s
  cases s
  all_goals
    go_wp2_with fail
    refine (HAW.out _ hx).mono ?_
    rintro e u8 ⟨rfl, hx0⟩
    have hx1 := hx.trans hx0
    clear hx hx0
    have hx := hx1
    clear hx1
    dsimp only
    go_wp2_with fail
    (go_ret; refine Ret.mk ?_ ?_; (focus (rfl; done)); (focus (exact EX; done)))
end Go.Proofs.YtlbhaimfjfdppaaGreatDoor
namespace Go.Proofs.YtlbhaimfjfdppaaGreatDoor.SequenceCancels
open Go.ChangeShapes Go.WideShapes Go.ChangeAt Go.RowKit Go.Deep

theorem own : ownKnob Tryz.prog.godebug = none := by kernel_rfl
theorem listIn : 22 < Tryz.prog.types.size := of_decide_eq_true (by kernel_rfl)
theorem glob {W : World} (h : W.ShapedOpen Tryz.prog) : Glob W :=
  cell_of_shapedOpen_int (zero := #[.int .i64 0]) (t := 3) h (of_decide_eq_true (by kernel_rfl)) (by kernel_rfl) rfl (by kernel_rfl) (by kernel_rfl) Tryz.underlying3

set_option maxHeartbeats 2000000 in
set_option maxRecDepth 100000 in
theorem contract (H : Type) (enc : TypeId × Value → H) (W : World) (base : Nat) (args : Array Value) (ds gs : List (DataW H)) (before : List MemPlace)
    (hval : ∀ (j : Nat) t v, Tryz.f3.params[j]? = some t → args[j]? = some v → Value.okWide Tryz.prog W .any base t v)
    (hW : DataW.Whole enc Tryz.prog Tryz.f3.params.toList Rows.sequenceCancelsSpec.vars false W args.toList ds gs before)
    (hwt : ∀ n ∈ DataW.weightsEach Tryz.prog (Tryz.f3.params.toList ++ (OpenSpec.ofChange Rows.sequenceCancelsSpec).bare.plain.varTypes Tryz.prog) (ds ++ gs), n ≤ reachBytes) (hS : W.ShapedOpen Tryz.prog) :
    Calls Tryz.prog 3 args W fun e W' => ∃ v, e = .returned v ∧ Rows.sequenceCancelsSpec.post enc Tryz.prog Tryz.f3 false true false false W args v W' := by
  have hW' := hW
  obtain ⟨p, q, hA0, hV, rfl, hfz, hnd⟩ := hW
  have hA : DataW.TrodAll enc Tryz.prog W 0 (fun _ => true) true Tryz.f3.params.toList args.toList ds p := hA0
  rw [Tryz.params3] at hA hval hwt
  obtain ⟨v0, vs0, d0, ds0, p0, q0, hargs, rfl, rfl, h0, r0⟩ := trodAll_cons hA
  obtain ⟨v1, vs1, d1, ds1, p1, q1, rfl, rfl, rfl, h1, r1⟩ := trodAll_cons r0
  obtain ⟨rfl, rfl, rfl⟩ := trodAll_nil r1
  obtain rfl : args = #[v0, v1] := by cases args; simp_all
  obtain ⟨rfl, rfl⟩ := trodVars_none hV
  obtain ⟨x0, y0, z0, ex0⟩ := okWide_slice Tryz.underlying22 (hval 0 22 v0 rfl rfl)
  subst ex0
  obtain ⟨f0, g0⟩ := h0
  obtain ⟨A0, l0, c0, ey0, Q0, le0, ub0, nn0, mk0⟩ := open_prims (x := (d0, p0)) g0 (weights_mem (j := 0) hwt rfl rfl)
  obtain ⟨rfl, rfl, rfl⟩ : x0 = A0 ∧ y0 = l0.length ∧ z0 = c0 := by simpa using ey0
  obtain ⟨x1, y1, z1, ex1⟩ := okWide_slice Tryz.underlying22 (hval 1 22 v1 rfl rfl)
  subst ex1
  obtain ⟨f1, g1⟩ := h1
  obtain ⟨A1, l1, c1, ey1, Q1, le1, ub1, nn1, mk1⟩ := open_prims (x := (d1, p1)) g1 (weights_mem (j := 1) hwt rfl rfl)
  obtain ⟨rfl, rfl, rfl⟩ : x1 = A1 ∧ y1 = l1.length ∧ z1 = c1 := by simpa using ey1
  clear hA0
  have mks : ∀ {l : List Qp}, (∀ q ∈ l, q.Meek) → ∀ q ∈ l, q.Tame := fun h q hq => by
    have m := h q hq
    have h1 := m.path
    have h2 := m.to_
    exact ⟨⟨m.old, m.new, by omega, by omega⟩, m.olds, m.news⟩
  refine (cancels_walk x0 x1 l0.length z0 l1.length z1 l0 l1 W (glob hS) Q0 Q1 rfl rfl le0 le1 (by omega) (by omega) (mks mk0) (mks mk1)).mono fun e W' ⟨he, hx⟩ => ?_
  refine ⟨_, he, post_of_ext rfl hW' hx (fun t ht => ?_) (fun _ _ _ => trodAll_cons_mk (shut_bool Tryz.underlying4 _) trodAll_mk0) rfl rfl (ok_one (by kernel_rfl) rfl (okWide_bool_mk Tryz.underlying4 _))⟩
  rw [Tryz.params3] at ht
  obtain rfl : t = 22 := by simpa using ht
  exact listIn

/-! ### The witness -/
def zeroVL : Value := .slice none 0 0
def zeroDL {H : Type} : DataW H := .nil
theorem reads (os : Os) {H : Type} (enc : TypeId × Value → H) : DataW.whole enc Tryz.prog ((World.laidAll Tryz.prog os Rows.sequenceCancelsRow.laid).forCall (fun _ _ => 0) ⟨#[], #[zeroVL, zeroVL], []⟩).memory Tryz.f3.params.toList Rows.sequenceCancelsSpec.vars false #[zeroVL, zeroVL].toList 8 = some ([zeroDL, zeroDL], [], []) := by kernel_rfl
theorem laid_met (os : Os) : laidMet Tryz.prog Rows.sequenceCancelsRow.laid ((World.laidAll Tryz.prog os Rows.sequenceCancelsRow.laid).forCall (fun _ _ => 0) ⟨#[], #[zeroVL, zeroVL], []⟩).memory :=
  laidMet_laidAll _ (by kernel_rfl) (by kernel_rfl)

set_option maxRecDepth 100000 in
theorem lifted (os : Os) (started : os.Started) (H : Type) (enc : TypeId × Value → H) (F : Stop.Interp) :
    ReturnsInHanded {} Tryz.checked os 3 .any ((OpenSpec.ofChange Rows.sequenceCancelsSpec).preRow enc Tryz.prog Tryz.f3 Rows.sequenceCancelsRow.domain false Rows.sequenceCancelsRow.laid) (((OpenSpec.ofChange Rows.sequenceCancelsSpec).at F).post enc Tryz.prog Tryz.f3 false true false false) := by
  refine returnsInHanded_of_row (C := Tryz.checked) (s := (OpenSpec.ofChange Rows.sequenceCancelsSpec)) own started (by kernel_rfl) Tryz.func3
    (witness_row_at (enc := enc) (C := Tryz.checked) false (World.laidAll Tryz.prog os Rows.sequenceCancelsRow.laid) #[zeroVL, zeroVL] (World.laidAll_os _ _ _) (by kernel_rfl) (by kernel_rfl) (by kernel_rfl)
      (OpenSpec.preRow_of_cond 8 (reads os enc) (by kernel_rfl) (fun k hk => by cases hk) (by kernel_rfl) (laid_met os))) ?_
  intro W base args ds gs before hval hW _ hcond hwt _ hS _
  exact contract H enc W base args ds gs before hval hW (fun n hn => of_decide_eq_true (List.all_eq_true.1 hwt n hn)) hS

theorem said : Rows.SequenceCancelsSaid :=
  OpenClaim.holds_of_cond 3 Tryz.f3 rfl rfl rfl rfl rfl rfl rfl ⟨rfl, rfl, rfl, rfl, rfl⟩ rfl rfl rfl rfl rfl (by kernel_rfl) Tryz.func3 (by kernel_rfl)
    (of_decide_eq_true (by kernel_rfl)) (by unfold Func.isWrapper; first | (rw [if_pos (by decide +kernel)]; kernel_rfl) | (rw [if_neg (by decide +kernel)]; exact ⟨rfl, rfl⟩))
    (fun os started H enc _ F => by rw [OpenClaim.pre_eq_preRow]; exact lifted os started H enc F)

/-- No parameter wants a stand-in; the program's own looks are off. -/
theorem plain (f : FuncId) (fn : Func) (hf : Tryz.pinned.checked.prog.funcNamed Rows.sequenceCancelsRow.func = some f) (hfn : Tryz.pinned.checked.prog.funcs[f]? = some fn) :
    false = Tryz.pinned.checked.prog.looks [] ∧ ∀ (j : Nat) t, fn.params[j]? = some t → Tryz.pinned.checked.prog.wantsStandIn t = false := by
  obtain rfl : f = 3 := Option.some.inj ((show Tryz.prog.funcNamed Rows.sequenceCancelsRow.func = some 3 by kernel_rfl).symm.trans hf) |>.symm
  obtain rfl : fn = Tryz.f3 := (Option.some.inj (Tryz.func3.symm.trans hfn)).symm
  refine ⟨by kernel_rfl, fun j t ht => ?_⟩
  rw [Tryz.params3] at ht
  obtain rfl : t = 22 := by simpa using Array.mem_of_getElem? ht
  exact (show Tryz.prog.wantsStandIn 22 = false by kernel_rfl)

theorem card : Rows.SequenceCancelsCardSaid :=
  Claim7.holds_tied_plain_at .later [] _ _ _ _ said (fun _ h => by cases h) (by kernel_rfl) (fun _ h => by cases h) sequenceCancels_row_tie rfl ⟨rfl, rfl⟩ (by kernel_rfl) rfl plain (by kernel_rfl)
end Go.Proofs.YtlbhaimfjfdppaaGreatDoor.SequenceCancels
