/- The rule for exactly one path at the end of its directory's file decides about it, unless a directory above it is ignored: IgnoreLast returns true for all files of rules, every path, both kinds and both signs, of any size, in every state in which the listed tables of the library hold what the program's text lays. No condition. -/
import Derived.Test.YtnjcifppkijanaaGreatDoorQE
import Derived.Test.YtnjcifppkijanaaGreatDoorJFt
import Derived.Test.YtnjcifppkijanaaGreatDoorCards
import Derived.Test.YtnjcifppkijanaaGreatDoorTie
import Derived.ProofKit
import Derived.Deep.DeepHandedRow
import Derived.Lay
set_option linter.unusedSimpArgs false
set_option linter.unusedVariables false
namespace Go.Proofs.YtnjcifppkijanaaGreatDoor.IgnoreLast
open Go.ChangeShapes Go.WideShapes Go.ChangeAt Go.RowKit Go.Deep

theorem own : ownKnob Tryz.prog.godebug = none := by kernel_rfl
theorem filesIn : 29 < Tryz.prog.types.size := of_decide_eq_true (by kernel_rfl)
theorem flagIn : 4 < Tryz.prog.types.size := of_decide_eq_true (by kernel_rfl)
theorem strIn : 9 < Tryz.prog.types.size := of_decide_eq_true (by kernel_rfl)
theorem glob {W : World} (h : W.ShapedOpen Tryz.prog) : Glob W :=
  cell_of_shapedOpen_int (zero := #[.int .i64 0]) (t := 3) h (of_decide_eq_true (by kernel_rfl)) (by kernel_rfl) rfl (by kernel_rfl) (by kernel_rfl) Tryz.underlying3

set_option maxHeartbeats 2000000 in
set_option maxRecDepth 100000 in
theorem contract (H : Type) (enc : TypeId × Value → H) (W : World) (base : Nat) (args : Array Value) (ds gs : List (DataW H)) (before : List MemPlace)
    (hval : ∀ (j : Nat) t v, Tryz.f10.params[j]? = some t → args[j]? = some v → Value.okWide Tryz.prog W .any base t v)
    (hW : DataW.Whole enc Tryz.prog Tryz.f10.params.toList Rows.ignoreLastSpec.vars false W args.toList ds gs before)
    (hwt : ∀ n ∈ DataW.weightsEach Tryz.prog (Tryz.f10.params.toList ++ (OpenSpec.ofChange Rows.ignoreLastSpec).bare.plain.varTypes Tryz.prog) (ds ++ gs), n ≤ reachBytes) (hS : W.ShapedOpen Tryz.prog) :
    Calls Tryz.prog 10 args W fun e W' => ∃ v, e = .returned v ∧ Rows.ignoreLastSpec.post enc Tryz.prog Tryz.f10 false true false false W args v W' := by
  have hW' := hW
  obtain ⟨p, q, hA0, hV, rfl, hfz, hnd⟩ := hW
  have hA : DataW.TrodAll enc Tryz.prog W 0 (fun _ => true) true Tryz.f10.params.toList args.toList ds p := hA0
  rw [Tryz.params10] at hA hval hwt
  obtain ⟨v0, vs0, d0, ds0, p0, q0, hargs, rfl, rfl, h0, r0⟩ := trodAll_cons hA
  obtain ⟨v1, vs1, d1, ds1, p1, q1, rfl, rfl, rfl, h1, r1⟩ := trodAll_cons r0
  obtain ⟨v2, vs2, d2, ds2, p2, q2, rfl, rfl, rfl, h2, r2⟩ := trodAll_cons r1
  obtain ⟨v3, vs3, d3, ds3, p3, q3, rfl, rfl, rfl, h3, r3⟩ := trodAll_cons r2
  obtain ⟨rfl, rfl, rfl⟩ := trodAll_nil r3
  obtain rfl : args = #[v0, v1, v2, v3] := by cases args; simp_all
  obtain ⟨rfl, rfl⟩ := trodVars_none hV
  obtain ⟨x0, y0, z0, ex0⟩ := okWide_slice Tryz.underlying29 (hval 0 29 v0 rfl rfl)
  subst ex0
  obtain ⟨f0, g0⟩ := h0
  obtain ⟨A0, l0, c0, ey0, Q0, le0, ub0, mk0⟩ := open_ifiles (x := (d0, p0)) g0 (weights_mem (j := 0) hwt rfl rfl)
  obtain ⟨rfl, rfl, rfl⟩ : x0 = A0 ∧ y0 = l0.length ∧ z0 = c0 := by simpa using ey0
  unfold reachBytes at ub0
  obtain ⟨s1, rfl, sz1⟩ := open_str h1 (weights_mem (j := 1) hwt rfl rfl) (hval 1 9 v1 rfl rfl)
  obtain ⟨m2, rfl⟩ := okWide_bool Tryz.underlying4 (hval 2 4 v2 rfl rfl)
  obtain ⟨m3, rfl⟩ := okWide_bool Tryz.underlying4 (hval 3 4 v3 rfl rfl)
  clear hA0
  refine (last_walk x0 l0.length z0 l0 s1 m2 m3 W (glob hS) Q0 rfl (by omega) mk0).mono fun e W' ⟨he, hx⟩ => ?_
  refine ⟨_, he, post_of_ext rfl hW' hx (fun t ht => ?_) (fun _ _ _ => trodAll_cons_mk (shut_bool Tryz.underlying4 _) trodAll_mk0) rfl rfl (ok_one (by kernel_rfl) rfl (okWide_bool_mk Tryz.underlying4 _))⟩
  rw [Tryz.params10] at ht
  have ht2 : t = 29 ∨ t = 9 ∨ t = 4 := by simpa using ht
  rcases ht2 with rfl | rfl | rfl
  · exact filesIn
  · exact strIn
  · exact flagIn

/-! ### The witness -/
def zeroVF : Value := .slice none 0 0
def zeroDF {H : Type} : DataW H := .nil
def zeroVO : Value := .bool false
def zeroDO {H : Type} : DataW H := .lit (.bool false)
def zeroVS : Value := .string ⟨#[]⟩
def zeroDS {H : Type} : DataW H := .lit (.string [])
theorem reads (os : Os) {H : Type} (enc : TypeId × Value → H) : DataW.whole enc Tryz.prog ((World.laidAll Tryz.prog os Rows.ignoreLastRow.laid).forCall (fun _ _ => 0) ⟨#[], #[zeroVF, zeroVS, zeroVO, zeroVO], []⟩).memory Tryz.f10.params.toList Rows.ignoreLastSpec.vars false #[zeroVF, zeroVS, zeroVO, zeroVO].toList 8 = some ([zeroDF, zeroDS, zeroDO, zeroDO], [], []) := by kernel_rfl
theorem laid_met (os : Os) : laidMet Tryz.prog Rows.ignoreLastRow.laid ((World.laidAll Tryz.prog os Rows.ignoreLastRow.laid).forCall (fun _ _ => 0) ⟨#[], #[zeroVF, zeroVS, zeroVO, zeroVO], []⟩).memory :=
  laidMet_laidAll _ (by kernel_rfl) (by kernel_rfl)

set_option maxRecDepth 100000 in
theorem lifted (os : Os) (started : os.Started) (H : Type) (enc : TypeId × Value → H) (F : Stop.Interp) :
    ReturnsInHanded {} Tryz.checked os 10 .any ((OpenSpec.ofChange Rows.ignoreLastSpec).preRow enc Tryz.prog Tryz.f10 Rows.ignoreLastRow.domain false Rows.ignoreLastRow.laid) (((OpenSpec.ofChange Rows.ignoreLastSpec).at F).post enc Tryz.prog Tryz.f10 false true false false) := by
  refine returnsInHanded_of_row (C := Tryz.checked) (s := (OpenSpec.ofChange Rows.ignoreLastSpec)) own started (by kernel_rfl) Tryz.func10
    (witness_row_at (enc := enc) (C := Tryz.checked) false (World.laidAll Tryz.prog os Rows.ignoreLastRow.laid) #[zeroVF, zeroVS, zeroVO, zeroVO] (World.laidAll_os _ _ _) (by kernel_rfl) (by kernel_rfl) (by kernel_rfl)
      (OpenSpec.preRow_of_cond 8 (reads os enc) (by kernel_rfl) (fun k hk => by cases hk) (by kernel_rfl) (laid_met os))) ?_
  intro W base args ds gs before hval hW _ hcond hwt _ hS _
  exact contract H enc W base args ds gs before hval hW (fun n hn => of_decide_eq_true (List.all_eq_true.1 hwt n hn)) hS

theorem said : Rows.IgnoreLastSaid :=
  OpenClaim.holds_of_cond 10 Tryz.f10 rfl rfl rfl rfl rfl rfl rfl ⟨rfl, rfl, rfl, rfl, rfl⟩ rfl rfl rfl rfl rfl (by kernel_rfl) Tryz.func10 (by kernel_rfl)
    (of_decide_eq_true (by kernel_rfl)) (by unfold Func.isWrapper; first | (rw [if_pos (by decide +kernel)]; kernel_rfl) | (rw [if_neg (by decide +kernel)]; exact ⟨rfl, rfl⟩))
    (fun os started H enc _ F => by rw [OpenClaim.pre_eq_preRow]; exact lifted os started H enc F)

/-- No parameter wants a stand-in; the program's own looks are off. -/
theorem plain (f : FuncId) (fn : Func) (hf : Tryz.pinned.checked.prog.funcNamed Rows.ignoreLastRow.func = some f) (hfn : Tryz.pinned.checked.prog.funcs[f]? = some fn) :
    false = Tryz.pinned.checked.prog.looks [] ∧ ∀ (j : Nat) t, fn.params[j]? = some t → Tryz.pinned.checked.prog.wantsStandIn t = false := by
  obtain rfl : f = 10 := Option.some.inj ((show Tryz.prog.funcNamed Rows.ignoreLastRow.func = some 10 by kernel_rfl).symm.trans hf) |>.symm
  obtain rfl : fn = Tryz.f10 := (Option.some.inj (Tryz.func10.symm.trans hfn)).symm
  refine ⟨by kernel_rfl, fun j t ht => ?_⟩
  rw [Tryz.params10] at ht
  have ht2 : t = 29 ∨ t = 9 ∨ t = 4 := by simpa using Array.mem_of_getElem? ht
  rcases ht2 with rfl | rfl | rfl
  · exact (show Tryz.prog.wantsStandIn 29 = false by kernel_rfl)
  · exact (show Tryz.prog.wantsStandIn 9 = false by kernel_rfl)
  · exact (show Tryz.prog.wantsStandIn 4 = false by kernel_rfl)

theorem card : Rows.IgnoreLastCardSaid :=
  Claim7.holds_tied_plain_at .later [] _ _ _ _ said (fun _ h => by cases h) (by kernel_rfl) (fun _ h => by cases h) ignoreLast_row_tie rfl ⟨rfl, rfl⟩ (by kernel_rfl) rfl plain (by kernel_rfl)
end Go.Proofs.YtnjcifppkijanaaGreatDoor.IgnoreLast
