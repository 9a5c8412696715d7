/- Patches that commute have the same effect in both orders: PrimcommuteEffect returns true for every tree and all patches, of any size, in every state in which the listed tables of the library hold what the program's text lays. No condition. -/
import Derived.Test.YtfmgnaigcibcaaaGreatDoorIv
import Derived.Test.YtfmgnaigcibcaaaGreatDoorJf
import Derived.Test.YtfmgnaigcibcaaaGreatDoorCards
import Derived.Test.YtfmgnaigcibcaaaGreatDoorTie
import Derived.ProofKit
import Derived.Deep.DeepHandedRow
import Derived.Lay
set_option linter.unusedSimpArgs false
set_option linter.unusedVariables false
namespace Go.Proofs.YtfmgnaigcibcaaaGreatDoor.PrimcommuteEffect
open Go.ChangeShapes Go.WideShapes Go.ChangeAt Go.RowKit Go.Deep

theorem own : ownKnob Tryz.prog.godebug = none := by kernel_rfl
theorem primIn : 28 < Tryz.prog.types.size := of_decide_eq_true (by kernel_rfl)
theorem treeIn : 23 < Tryz.prog.types.size := of_decide_eq_true (by kernel_rfl)
theorem glob {W : World} (h : W.ShapedOpen Tryz.prog) : Glob W :=
  cell_of_shapedOpen_int (zero := #[.int .i64 0]) (t := 3) h (of_decide_eq_true (by kernel_rfl)) (by kernel_rfl) rfl (by kernel_rfl) (by kernel_rfl) Tryz.underlying3

set_option maxHeartbeats 2000000 in
set_option maxRecDepth 100000 in
theorem contract (H : Type) (enc : TypeId × Value → H) (W : World) (base : Nat) (args : Array Value) (ds gs : List (DataW H)) (before : List MemPlace)
    (hval : ∀ (j : Nat) t v, Tryz.f9.params[j]? = some t → args[j]? = some v → Value.okWide Tryz.prog W .any base t v)
    (hW : DataW.Whole enc Tryz.prog Tryz.f9.params.toList Rows.primcommuteEffectSpec.vars false W args.toList ds gs before)
    (hwt : ∀ n ∈ DataW.weightsEach Tryz.prog (Tryz.f9.params.toList ++ (OpenSpec.ofChange Rows.primcommuteEffectSpec).bare.plain.varTypes Tryz.prog) (ds ++ gs), n ≤ reachBytes) (hS : W.ShapedOpen Tryz.prog) :
    Calls Tryz.prog 9 args W fun e W' => ∃ v, e = .returned v ∧ Rows.primcommuteEffectSpec.post enc Tryz.prog Tryz.f9 false true false false W args v W' := by
  have hW' := hW
  obtain ⟨p, q, hA0, hV, rfl, hfz, hnd⟩ := hW
  have hA : DataW.TrodAll enc Tryz.prog W 0 (fun _ => true) true Tryz.f9.params.toList args.toList ds p := hA0
  rw [Tryz.params9] at hA hval hwt
  obtain ⟨v0, vs0, d0, ds0, p0, q0, hargs, rfl, rfl, h0, r0⟩ := trodAll_cons hA
  obtain ⟨v1, vs1, d1, ds1, p1, q1, rfl, rfl, rfl, h1, r1⟩ := trodAll_cons r0
  obtain ⟨v2, vs2, d2, ds2, p2, q2, rfl, rfl, rfl, h2, r2⟩ := trodAll_cons r1
  obtain ⟨rfl, rfl, rfl⟩ := trodAll_nil r2
  obtain rfl : args = #[v0, v1, v2] := by cases args; simp_all
  obtain ⟨rfl, rfl⟩ := trodVars_none hV
  obtain ⟨x0, y0, z0, ex0⟩ := okWide_slice Tryz.underlying23 (hval 0 23 v0 rfl rfl)
  subst ex0
  obtain ⟨f0, g0⟩ := h0
  obtain ⟨A0, l0, c0, ey0, Q0, le0, ub0, nn0, mk0⟩ := open_tree (x := (d0, p0)) g0 (weights_mem (j := 0) hwt rfl rfl)
  obtain ⟨rfl, rfl, rfl⟩ : x0 = A0 ∧ y0 = l0.length ∧ z0 = c0 := by simpa using ey0
  obtain ⟨P1, s1, rfl, I1, ba1, bb1, za1, zb1⟩ := open_prim_sz (hval 1 28 v1 rfl rfl) h1 (weights_mem (j := 1) hwt rfl rfl)
  obtain ⟨P2, s2, rfl, I2, ba2, bb2, za2, zb2⟩ := open_prim_sz (hval 2 28 v2 rfl rfl) h2 (weights_mem (j := 2) hwt rfl rfl)
  clear hA0
  refine (primeffect_walk x0 l0.length z0 P1 P2 s1 s2 l0 W (glob hS) Q0 rfl (by omega) (fun f hf => ⟨by have := (mk0 f hf).path; omega, by have := (mk0 f hf).data; omega⟩) I1 I2 ba1 bb1 ba2 bb2).mono fun e W' ⟨he, hx⟩ => ?_
  refine ⟨_, he, post_of_ext rfl hW' hx (fun t ht => ?_) (fun _ _ _ => trodAll_cons_mk (shut_bool Tryz.underlying4 _) trodAll_mk0) rfl rfl (ok_one (by kernel_rfl) rfl (okWide_bool_mk Tryz.underlying4 _))⟩
  rw [Tryz.params9] at ht
  have ht2 : t = 23 ∨ t = 28 := by simpa using ht
  rcases ht2 with rfl | rfl
  · exact treeIn
  · exact primIn

/-! ### The witness -/
def zeroVP : Value := (Qp.zero.pv none 0 none 0).v
def zeroDP {H : Type} : DataW H := .agg [.lit (.int .i64 0), .lit (.string []), .lit (.string []), .lit (.int .i64 0), .agg [.lit (.int .i64 0), .nil, .nil], .lit (.int .i64 0), .lit (.string []), .lit (.string []), .lit (.int .i64 0), .lit (.int .i64 0)]
def zeroVT : Value := .slice none 0 0
def zeroDT {H : Type} : DataW H := .nil
theorem reads (os : Os) {H : Type} (enc : TypeId × Value → H) : DataW.whole enc Tryz.prog ((World.laidAll Tryz.prog os Rows.primcommuteEffectRow.laid).forCall (fun _ _ => 0) ⟨#[], #[zeroVT, zeroVP, zeroVP], []⟩).memory Tryz.f9.params.toList Rows.primcommuteEffectSpec.vars false #[zeroVT, zeroVP, zeroVP].toList 8 = some ([zeroDT, zeroDP, zeroDP], [], []) := by kernel_rfl
theorem laid_met (os : Os) : laidMet Tryz.prog Rows.primcommuteEffectRow.laid ((World.laidAll Tryz.prog os Rows.primcommuteEffectRow.laid).forCall (fun _ _ => 0) ⟨#[], #[zeroVT, zeroVP, zeroVP], []⟩).memory :=
  laidMet_laidAll _ (by kernel_rfl) (by kernel_rfl)

set_option maxRecDepth 100000 in
theorem lifted (os : Os) (started : os.Started) (H : Type) (enc : TypeId × Value → H) (F : Stop.Interp) :
    ReturnsInHanded {} Tryz.checked os 9 .any ((OpenSpec.ofChange Rows.primcommuteEffectSpec).preRow enc Tryz.prog Tryz.f9 Rows.primcommuteEffectRow.domain false Rows.primcommuteEffectRow.laid) (((OpenSpec.ofChange Rows.primcommuteEffectSpec).at F).post enc Tryz.prog Tryz.f9 false true false false) := by
  refine returnsInHanded_of_row (C := Tryz.checked) (s := (OpenSpec.ofChange Rows.primcommuteEffectSpec)) own started (by kernel_rfl) Tryz.func9
    (witness_row_at (enc := enc) (C := Tryz.checked) false (World.laidAll Tryz.prog os Rows.primcommuteEffectRow.laid) #[zeroVT, zeroVP, zeroVP] (World.laidAll_os _ _ _) (by kernel_rfl) (by kernel_rfl) (by kernel_rfl)
      (OpenSpec.preRow_of_cond 8 (reads os enc) (by kernel_rfl) (fun k hk => by cases hk) (by kernel_rfl) (laid_met os))) ?_
  intro W base args ds gs before hval hW _ hcond hwt _ hS _
  exact contract H enc W base args ds gs before hval hW (fun n hn => of_decide_eq_true (List.all_eq_true.1 hwt n hn)) hS

theorem said : Rows.PrimcommuteEffectSaid :=
  OpenClaim.holds_of_cond 9 Tryz.f9 rfl rfl rfl rfl rfl rfl rfl ⟨rfl, rfl, rfl, rfl, rfl⟩ rfl rfl rfl rfl rfl (by kernel_rfl) Tryz.func9 (by kernel_rfl)
    (of_decide_eq_true (by kernel_rfl)) (by unfold Func.isWrapper; first | (rw [if_pos (by decide +kernel)]; kernel_rfl) | (rw [if_neg (by decide +kernel)]; exact ⟨rfl, rfl⟩))
    (fun os started H enc _ F => by rw [OpenClaim.pre_eq_preRow]; exact lifted os started H enc F)

/-- No parameter wants a stand-in; the program's own looks are off. -/
theorem plain (f : FuncId) (fn : Func) (hf : Tryz.pinned.checked.prog.funcNamed Rows.primcommuteEffectRow.func = some f) (hfn : Tryz.pinned.checked.prog.funcs[f]? = some fn) :
    false = Tryz.pinned.checked.prog.looks [] ∧ ∀ (j : Nat) t, fn.params[j]? = some t → Tryz.pinned.checked.prog.wantsStandIn t = false := by
  obtain rfl : f = 9 := Option.some.inj ((show Tryz.prog.funcNamed Rows.primcommuteEffectRow.func = some 9 by kernel_rfl).symm.trans hf) |>.symm
  obtain rfl : fn = Tryz.f9 := (Option.some.inj (Tryz.func9.symm.trans hfn)).symm
  refine ⟨by kernel_rfl, fun j t ht => ?_⟩
  rw [Tryz.params9] at ht
  have ht2 : t = 23 ∨ t = 28 := by simpa using Array.mem_of_getElem? ht
  rcases ht2 with rfl | rfl
  · exact (show Tryz.prog.wantsStandIn 23 = false by kernel_rfl)
  · exact (show Tryz.prog.wantsStandIn 28 = false by kernel_rfl)

theorem card : Rows.PrimcommuteEffectCardSaid :=
  Claim7.holds_tied_plain_at .later [] _ _ _ _ said (fun _ h => by cases h) (by kernel_rfl) (fun _ h => by cases h) primcommuteEffect_row_tie rfl ⟨rfl, rfl⟩ (by kernel_rfl) rfl plain (by kernel_rfl)
end Go.Proofs.YtfmgnaigcibcaaaGreatDoor.PrimcommuteEffect
