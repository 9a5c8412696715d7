/- If three patches can be brought into the opposite order in both ways, the results are equal: PrimcommutePermute returns true for every three patches, of any size, in every state in which the listed tables of the library hold what the program's text lays. No condition. -/
import Derived.Test.YtncndhkccjmanaaDoorI2
import Derived.Test.YtncndhkccjmanaaDoorOp
import Derived.Test.YtncndhkccjmanaaDoorCards
import Derived.Test.YtncndhkccjmanaaDoorTie
import Derived.ProofKit
import Derived.Deep.DeepHandedRow
import Derived.Lay
set_option linter.unusedSimpArgs false
set_option linter.unusedVariables false
namespace Go.Proofs.YtncndhkccjmanaaDoor.PrimcommutePermute
open Go.ChangeShapes Go.WideShapes Go.ChangeAt Go.RowKit

theorem own : ownKnob Tryd.prog.godebug = none := by kernel_rfl
theorem primIn : 26 < Tryd.prog.types.size := of_decide_eq_true (by kernel_rfl)
theorem glob {W : World} (h : W.ShapedOpen Tryd.prog) : Glob W :=
  cell_of_shapedOpen_int (zero := #[.int .i64 0]) (t := 3) h (of_decide_eq_true (by kernel_rfl)) (by kernel_rfl) rfl (by kernel_rfl) (by kernel_rfl) Tryd.underlying3

set_option maxRecDepth 100000 in
theorem contract (H : Type) (enc : TypeId × Value → H) (W : World) (base : Nat) (args : Array Value) (ds gs : List (DataW H)) (before : List MemPlace)
    (hval : ∀ (j : Nat) t v, Tryd.f4.params[j]? = some t → args[j]? = some v → Value.okWide Tryd.prog W .any base t v)
    (hW : DataW.Whole enc Tryd.prog Tryd.f4.params.toList Rows.primcommutePermuteSpec.vars false W args.toList ds gs before)
    (hwt : ∀ n ∈ DataW.weightsEach Tryd.prog (Tryd.f4.params.toList ++ (OpenSpec.ofChange Rows.primcommutePermuteSpec).bare.plain.varTypes Tryd.prog) (ds ++ gs), n ≤ reachBytes) (hS : W.ShapedOpen Tryd.prog) :
    Calls Tryd.prog 4 args W fun e W' => ∃ v, e = .returned v ∧ Rows.primcommutePermuteSpec.post enc Tryd.prog Tryd.f4 false true false false W args v W' := by
  have hW' := hW
  obtain ⟨p, q, hA0, hV, rfl, hfz, hnd⟩ := hW
  have hA : DataW.TrodAll enc Tryd.prog W 0 (fun _ => true) true Tryd.f4.params.toList args.toList ds p := hA0
  rw [Tryd.params4] at hA hval hwt
  obtain ⟨v0, vs0, d0, ds0, p0, q0, hargs, rfl, rfl, h0, r0⟩ := trodAll_cons hA
  obtain ⟨v1, vs1, d1, ds1, p1, q1, rfl, rfl, rfl, h1, r1⟩ := trodAll_cons r0
  obtain ⟨v2, vs2, d2, ds2, p2, q2, rfl, rfl, rfl, h2, r2⟩ := trodAll_cons r1
  obtain ⟨rfl, rfl, rfl⟩ := trodAll_nil r2
  obtain rfl : args = #[v0, v1, v2] := by cases args; simp_all
  obtain ⟨rfl, rfl⟩ := trodVars_none hV
  obtain ⟨pa, a, rfl, ia, ba1, ba2⟩ := open_prim (hval 0 26 v0 rfl rfl) h0 (weights_mem (j := 0) hwt rfl rfl)
  obtain ⟨pb, b, rfl, ib, bb1, bb2⟩ := open_prim (hval 1 26 v1 rfl rfl) h1 (weights_mem (j := 1) hwt rfl rfl)
  obtain ⟨pc, c, rfl, ic, bc1, bc2⟩ := open_prim (hval 2 26 v2 rfl rfl) h2 (weights_mem (j := 2) hwt rfl rfl)
  clear hA0
  refine (permute_walk pa pb pc a b c W (glob hS) ia ib ic ba1 ba2 bb1 bb2 bc1 bc2).mono fun e W' ⟨he, hx⟩ => ?_
  refine ⟨_, he, post_of_ext rfl hW' hx (fun t ht => ?_) (fun _ _ _ => trodAll_cons_mk (shut_bool Tryd.underlying4 _) trodAll_mk0) rfl rfl (ok_one (by kernel_rfl) rfl (okWide_bool_mk Tryd.underlying4 _))⟩
  rw [Tryd.params4] at ht
  obtain rfl : t = 26 := by simpa using ht
  exact primIn

/-! ### The witness: three empty patches -/
def zeroV : Value := (Qp.zero.pv none 0 none 0).v
def zeroD {H : Type} : DataW H := .agg [.lit (.int .i64 0), .lit (.string []), .lit (.string []), .lit (.int .i64 0), .agg [.lit (.int .i64 0), .nil, .nil], .lit (.int .i64 0), .lit (.string []), .lit (.string []), .lit (.int .i64 0), .lit (.int .i64 0)]
theorem reads (os : Os) {H : Type} (enc : TypeId × Value → H) : DataW.whole enc Tryd.prog ((World.laidAll Tryd.prog os Rows.primcommutePermuteRow.laid).forCall (fun _ _ => 0) ⟨#[], #[zeroV, zeroV, zeroV], []⟩).memory Tryd.f4.params.toList Rows.primcommutePermuteSpec.vars false #[zeroV, zeroV, zeroV].toList 8 = some ([zeroD, zeroD, zeroD], [], []) := by kernel_rfl
theorem laid_met (os : Os) : laidMet Tryd.prog Rows.primcommutePermuteRow.laid ((World.laidAll Tryd.prog os Rows.primcommutePermuteRow.laid).forCall (fun _ _ => 0) ⟨#[], #[zeroV, zeroV, zeroV], []⟩).memory :=
  laidMet_laidAll _ (by kernel_rfl) (by kernel_rfl)

set_option maxRecDepth 100000 in
theorem lifted (os : Os) (started : os.Started) (H : Type) (enc : TypeId × Value → H) (F : Stop.Interp) :
    ReturnsInHanded {} Tryd.checked os 4 .any ((OpenSpec.ofChange Rows.primcommutePermuteSpec).preRow enc Tryd.prog Tryd.f4 Rows.primcommutePermuteRow.domain false Rows.primcommutePermuteRow.laid) (((OpenSpec.ofChange Rows.primcommutePermuteSpec).at F).post enc Tryd.prog Tryd.f4 false true false false) := by
  refine returnsInHanded_of_row (C := Tryd.checked) (s := OpenSpec.ofChange Rows.primcommutePermuteSpec) own started (by kernel_rfl) Tryd.func4
    (witness_row_at (enc := enc) (C := Tryd.checked) false (World.laidAll Tryd.prog os Rows.primcommutePermuteRow.laid) #[zeroV, zeroV, zeroV] (World.laidAll_os _ _ _) (by kernel_rfl) (by kernel_rfl) (by kernel_rfl)
      (OpenSpec.preRow_of_cond 8 (reads os enc) (by kernel_rfl) (fun k hk => by cases hk) (by kernel_rfl) (laid_met os))) ?_
  intro W base args ds gs before hval hW _ _ hwt _ hS _
  exact contract H enc W base args ds gs before hval hW (fun n hn => of_decide_eq_true (List.all_eq_true.1 hwt n hn)) hS

theorem said : Rows.PrimcommutePermuteSaid :=
  OpenClaim.holds_of_cond 4 Tryd.f4 rfl rfl rfl rfl rfl rfl rfl ⟨rfl, rfl, rfl, rfl, rfl⟩ rfl rfl rfl rfl rfl (by kernel_rfl) Tryd.func4 (by kernel_rfl)
    (of_decide_eq_true (by kernel_rfl)) (by unfold Func.isWrapper; first | (rw [if_pos (by decide +kernel)]; kernel_rfl) | (rw [if_neg (by decide +kernel)]; exact ⟨rfl, rfl⟩))
    (fun os started H enc _ F => by rw [OpenClaim.pre_eq_preRow]; exact lifted os started H enc F)

/-- No parameter wants a stand-in; the program's own looks are off. -/
theorem plain (f : FuncId) (fn : Func) (hf : Tryd.pinned.checked.prog.funcNamed Rows.primcommutePermuteRow.func = some f) (hfn : Tryd.pinned.checked.prog.funcs[f]? = some fn) :
    false = Tryd.pinned.checked.prog.looks [] ∧ ∀ (j : Nat) t, fn.params[j]? = some t → Tryd.pinned.checked.prog.wantsStandIn t = false := by
  obtain rfl : f = 4 := Option.some.inj ((show Tryd.prog.funcNamed Rows.primcommutePermuteRow.func = some 4 by kernel_rfl).symm.trans hf) |>.symm
  obtain rfl : fn = Tryd.f4 := (Option.some.inj (Tryd.func4.symm.trans hfn)).symm
  refine ⟨by kernel_rfl, fun j t ht => ?_⟩
  rw [Tryd.params4] at ht
  obtain rfl : t = 26 := by simpa using Array.mem_of_getElem? ht
  exact (show Tryd.prog.wantsStandIn 26 = false by kernel_rfl)

theorem card : Rows.PrimcommutePermuteCardSaid :=
  Claim7.holds_tied_plain_at .later [] _ _ _ _ said (fun _ h => by cases h) (by kernel_rfl) (fun _ h => by cases h) primcommutePermute_row_tie rfl ⟨rfl, rfl⟩ (by kernel_rfl) rfl plain (by kernel_rfl)
end Go.Proofs.YtncndhkccjmanaaDoor.PrimcommutePermute
