/- Which paths are ignored, and what is left of a tree, is as by the reference: IgnorePaths returns true for all files of rules, every path and every tree, of any size, in every state in which the listed tables of the library hold what the program's text lays. No condition. -/
import Derived.Test.YtnjcifppkijanaaGreatDoorQD
import Derived.Test.YtnjcifppkijanaaGreatDoorJFt
import Derived.Test.YtnjcifppkijanaaGreatDoorCards
import Derived.Test.YtnjcifppkijanaaGreatDoorTie
import Derived.ProofKit
import Derived.Deep.DeepHandedRow
import Derived.Lay
set_option linter.unusedSimpArgs false
set_option linter.unusedVariables false
namespace Go.Proofs.YtnjcifppkijanaaGreatDoor.IgnorePaths
open Go.ChangeShapes Go.WideShapes Go.ChangeAt Go.RowKit Go.Deep

theorem own : ownKnob Tryz.prog.godebug = none := by kernel_rfl
theorem filesIn : 29 < Tryz.prog.types.size := of_decide_eq_true (by kernel_rfl)
theorem strIn : 9 < Tryz.prog.types.size := of_decide_eq_true (by kernel_rfl)
theorem plainIn : 46 < Tryz.prog.types.size := of_decide_eq_true (by kernel_rfl)
theorem glob {W : World} (h : W.ShapedOpen Tryz.prog) : Glob W :=
  cell_of_shapedOpen_int (zero := #[.int .i64 0]) (t := 3) h (of_decide_eq_true (by kernel_rfl)) (by kernel_rfl) rfl (by kernel_rfl) (by kernel_rfl) Tryz.underlying3

set_option maxHeartbeats 2000000 in
set_option maxRecDepth 100000 in
theorem contract (H : Type) (enc : TypeId × Value → H) (W : World) (base : Nat) (args : Array Value) (ds gs : List (DataW H)) (before : List MemPlace)
    (hval : ∀ (j : Nat) t v, Tryz.f8.params[j]? = some t → args[j]? = some v → Value.okWide Tryz.prog W .any base t v)
    (hW : DataW.Whole enc Tryz.prog Tryz.f8.params.toList Rows.ignorePathsSpec.vars false W args.toList ds gs before)
    (hwt : ∀ n ∈ DataW.weightsEach Tryz.prog (Tryz.f8.params.toList ++ (OpenSpec.ofChange Rows.ignorePathsSpec).bare.plain.varTypes Tryz.prog) (ds ++ gs), n ≤ reachBytes) (hS : W.ShapedOpen Tryz.prog) :
    Calls Tryz.prog 8 args W fun e W' => ∃ v, e = .returned v ∧ Rows.ignorePathsSpec.post enc Tryz.prog Tryz.f8 false true false false W args v W' := by
  have hW' := hW
  obtain ⟨p, q, hA0, hV, rfl, hfz, hnd⟩ := hW
  have hA : DataW.TrodAll enc Tryz.prog W 0 (fun _ => true) true Tryz.f8.params.toList args.toList ds p := hA0
  rw [Tryz.params8] at hA hval hwt
  obtain ⟨v0, vs0, d0, ds0, p0, q0, hargs, rfl, rfl, h0, r0⟩ := trodAll_cons hA
  obtain ⟨v1, vs1, d1, ds1, p1, q1, rfl, rfl, rfl, h1, r1⟩ := trodAll_cons r0
  obtain ⟨v2, vs2, d2, ds2, p2, q2, rfl, rfl, rfl, h2, r2⟩ := trodAll_cons r1
  obtain ⟨rfl, rfl, rfl⟩ := trodAll_nil r2
  obtain rfl : args = #[v0, v1, v2] := by cases args; simp_all
  obtain ⟨rfl, rfl⟩ := trodVars_none hV
  obtain ⟨x0, y0, z0, ex0⟩ := okWide_slice Tryz.underlying29 (hval 0 29 v0 rfl rfl)
  subst ex0
  obtain ⟨f0, g0⟩ := h0
  obtain ⟨A0, l0, c0, ey0, Q0, le0, ub0, mk0⟩ := open_ifiles (x := (d0, p0)) g0 (weights_mem (j := 0) hwt rfl rfl)
  obtain ⟨rfl, rfl, rfl⟩ : x0 = A0 ∧ y0 = l0.length ∧ z0 = c0 := by simpa using ey0
  unfold reachBytes at ub0
  obtain ⟨s1, rfl, sz1⟩ := open_str h1 (weights_mem (j := 1) hwt rfl rfl) (hval 1 9 v1 rfl rfl)
  obtain ⟨x2, y2, z2, ex2⟩ := okWide_slice Tryz.underlying46 (hval 2 46 v2 rfl rfl)
  subst ex2
  obtain ⟨f2, g2⟩ := h2
  obtain ⟨A2, l2, c2, ey2, Q2, le2, ub2, mk2⟩ := open_plain (x := (d2, p2)) g2 (weights_mem (j := 2) hwt rfl rfl)
  obtain ⟨rfl, rfl, rfl⟩ : x2 = A2 ∧ y2 = l2.length ∧ z2 = c2 := by simpa using ey2
  unfold reachBytes at ub2
  clear hA0
  refine (paths_walk x0 x2 l0.length z0 l2.length z2 l0 s1 l2 W (glob hS) Q0 rfl (by omega) mk0 Q2 rfl (by omega) le2 mk2).mono fun e W' ⟨he, hx⟩ => ?_
  refine ⟨_, he, post_of_ext rfl hW' hx (fun t ht => ?_) (fun _ _ _ => trodAll_cons_mk (shut_bool Tryz.underlying4 _) trodAll_mk0) rfl rfl (ok_one (by kernel_rfl) rfl (okWide_bool_mk Tryz.underlying4 _))⟩
  rw [Tryz.params8] at ht
  have ht2 : t = 29 ∨ t = 9 ∨ t = 46 := by simpa using ht
  rcases ht2 with rfl | rfl | rfl
  · exact filesIn
  · exact strIn
  · exact plainIn

/-! ### The witness -/
def zeroVF : Value := .slice none 0 0
def zeroDF {H : Type} : DataW H := .nil
def zeroVS : Value := .string ⟨#[]⟩
def zeroDS {H : Type} : DataW H := .lit (.string [])
def zeroVY : Value := .slice none 0 0
def zeroDY {H : Type} : DataW H := .nil
theorem reads (os : Os) {H : Type} (enc : TypeId × Value → H) : DataW.whole enc Tryz.prog ((World.laidAll Tryz.prog os Rows.ignorePathsRow.laid).forCall (fun _ _ => 0) ⟨#[], #[zeroVF, zeroVS, zeroVY], []⟩).memory Tryz.f8.params.toList Rows.ignorePathsSpec.vars false #[zeroVF, zeroVS, zeroVY].toList 8 = some ([zeroDF, zeroDS, zeroDY], [], []) := by kernel_rfl
theorem laid_met (os : Os) : laidMet Tryz.prog Rows.ignorePathsRow.laid ((World.laidAll Tryz.prog os Rows.ignorePathsRow.laid).forCall (fun _ _ => 0) ⟨#[], #[zeroVF, zeroVS, zeroVY], []⟩).memory :=
  laidMet_laidAll _ (by kernel_rfl) (by kernel_rfl)

set_option maxRecDepth 100000 in
theorem lifted (os : Os) (started : os.Started) (H : Type) (enc : TypeId × Value → H) (F : Stop.Interp) :
    ReturnsInHanded {} Tryz.checked os 8 .any ((OpenSpec.ofChange Rows.ignorePathsSpec).preRow enc Tryz.prog Tryz.f8 Rows.ignorePathsRow.domain false Rows.ignorePathsRow.laid) (((OpenSpec.ofChange Rows.ignorePathsSpec).at F).post enc Tryz.prog Tryz.f8 false true false false) := by
  refine returnsInHanded_of_row (C := Tryz.checked) (s := (OpenSpec.ofChange Rows.ignorePathsSpec)) own started (by kernel_rfl) Tryz.func8
    (witness_row_at (enc := enc) (C := Tryz.checked) false (World.laidAll Tryz.prog os Rows.ignorePathsRow.laid) #[zeroVF, zeroVS, zeroVY] (World.laidAll_os _ _ _) (by kernel_rfl) (by kernel_rfl) (by kernel_rfl)
      (OpenSpec.preRow_of_cond 8 (reads os enc) (by kernel_rfl) (fun k hk => by cases hk) (by kernel_rfl) (laid_met os))) ?_
  intro W base args ds gs before hval hW _ hcond hwt _ hS _
  exact contract H enc W base args ds gs before hval hW (fun n hn => of_decide_eq_true (List.all_eq_true.1 hwt n hn)) hS

theorem said : Rows.IgnorePathsSaid :=
  OpenClaim.holds_of_cond 8 Tryz.f8 rfl rfl rfl rfl rfl rfl rfl ⟨rfl, rfl, rfl, rfl, rfl⟩ rfl rfl rfl rfl rfl (by kernel_rfl) Tryz.func8 (by kernel_rfl)
    (of_decide_eq_true (by kernel_rfl)) (by unfold Func.isWrapper; first | (rw [if_pos (by decide +kernel)]; kernel_rfl) | (rw [if_neg (by decide +kernel)]; exact ⟨rfl, rfl⟩))
    (fun os started H enc _ F => by rw [OpenClaim.pre_eq_preRow]; exact lifted os started H enc F)

/-- No parameter wants a stand-in; the program's own looks are off. -/
theorem plain (f : FuncId) (fn : Func) (hf : Tryz.pinned.checked.prog.funcNamed Rows.ignorePathsRow.func = some f) (hfn : Tryz.pinned.checked.prog.funcs[f]? = some fn) :
    false = Tryz.pinned.checked.prog.looks [] ∧ ∀ (j : Nat) t, fn.params[j]? = some t → Tryz.pinned.checked.prog.wantsStandIn t = false := by
  obtain rfl : f = 8 := Option.some.inj ((show Tryz.prog.funcNamed Rows.ignorePathsRow.func = some 8 by kernel_rfl).symm.trans hf) |>.symm
  obtain rfl : fn = Tryz.f8 := (Option.some.inj (Tryz.func8.symm.trans hfn)).symm
  refine ⟨by kernel_rfl, fun j t ht => ?_⟩
  rw [Tryz.params8] at ht
  have ht2 : t = 29 ∨ t = 9 ∨ t = 46 := by simpa using Array.mem_of_getElem? ht
  rcases ht2 with rfl | rfl | rfl
  · exact (show Tryz.prog.wantsStandIn 29 = false by kernel_rfl)
  · exact (show Tryz.prog.wantsStandIn 9 = false by kernel_rfl)
  · exact (show Tryz.prog.wantsStandIn 46 = false by kernel_rfl)

theorem card : Rows.IgnorePathsCardSaid :=
  Claim7.holds_tied_plain_at .later [] _ _ _ _ said (fun _ h => by cases h) (by kernel_rfl) (fun _ h => by cases h) ignorePaths_row_tie rfl ⟨rfl, rfl⟩ (by kernel_rfl) rfl plain (by kernel_rfl)
end Go.Proofs.YtnjcifppkijanaaGreatDoor.IgnorePaths
