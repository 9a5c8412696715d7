/- The results of a merge form a square with the sequences, also if the same further sequence follows both: PushoutSquare returns true for every three sequences whose reading is of bulk at most 1048576, in every state in which the listed tables of the library hold what the program's text lays. Condition: the bound of the statement's own second form, no other. -/
import Derived.Test.YtgfiddlmeopebaaGreatDoorIg
import Derived.Test.YtgfiddlmeopebaaGreatDoorOp
import Derived.Test.YtgfiddlmeopebaaGreatDoorCards
import Derived.Test.YtgfiddlmeopebaaGreatDoorTie
import Derived.ProofKit
import Derived.Deep.DeepHandedRow
import Derived.Lay
set_option linter.unusedSimpArgs false
set_option linter.unusedVariables false
namespace Go.Proofs.YtgfiddlmeopebaaGreatDoor.PushoutSquare
open Go.ChangeShapes Go.WideShapes Go.ChangeAt Go.RowKit Go.Deep

theorem own : ownKnob Tryz.prog.godebug = none := by kernel_rfl
theorem listIn : 22 < Tryz.prog.types.size := of_decide_eq_true (by kernel_rfl)
theorem glob {W : World} (h : W.ShapedOpen Tryz.prog) : Glob W :=
  cell_of_shapedOpen_int (zero := #[.int .i64 0]) (t := 3) h (of_decide_eq_true (by kernel_rfl)) (by kernel_rfl) rfl (by kernel_rfl) (by kernel_rfl) Tryz.underlying3
theorem bulk_one {H : Type} (d : DataW H) : 1 ≤ Rows.uptoBulk d := by
  cases d with
  | lit l => cases l <;> simp [Rows.uptoBulk]
  | _ => simp [Rows.uptoBulk]
theorem bulk_all {H : Type} (l : List (DataW H)) : l.length ≤ Rows.uptoBulkAll l := by
  induction l with
  | nil => simp [Rows.uptoBulkAll]
  | cons x r ih =>
    have := bulk_one x
    simp only [Rows.uptoBulkAll, List.length_cons]
    omega
/-- A list that came in is no longer than the bulk of its reading. -/
theorem bulk_list {H : Type} {enc : TypeId × Value → H} {W : World} {fuel : Nat} {A : Option Addr} {n c : Nat} {d : DataW H} {p : List MemPlace} (g : DataW.trod enc Tryz.prog W 0 (fun _ => true) true fuel 22 [.slice A n c] = some (d, p)) : n ≤ Rows.uptoBulk d := by
  have hu : Tryz.prog.underlying 22 = some (.slice 38) := Tryz.underlying22
  rcases open_slice hu g with ⟨e, _⟩ | ⟨a, len, cap, m, k, D, Pl, e, _, _, _, _, hx, _⟩
  · obtain ⟨_, rfl, _⟩ : A = none ∧ n = 0 ∧ c = 0 := by simpa using e
    exact Nat.zero_le _
  · obtain ⟨_, rfl, _⟩ : A = some a ∧ n = len ∧ c = cap := by simpa using e
    obtain rfl := (Prod.mk.inj hx).1
    have h1 := bulk_all ((List.range n).map D)
    rw [List.length_map, List.length_range] at h1
    simp only [Rows.uptoBulk]
    omega

set_option maxHeartbeats 2000000 in
set_option maxRecDepth 100000 in
theorem contract (H : Type) (enc : TypeId × Value → H) (W : World) (base : Nat) (args : Array Value) (ds gs : List (DataW H)) (before : List MemPlace)
    (hval : ∀ (j : Nat) t v, Tryz.f8.params[j]? = some t → args[j]? = some v → Value.okWide Tryz.prog W .any base t v)
    (hW : DataW.Whole enc Tryz.prog Tryz.f8.params.toList Rows.pushoutSquareSpec.vars false W args.toList ds gs before)
    (hsm : Rows.uptoSmall H (ds ++ gs) = true)
    (hwt : ∀ n ∈ DataW.weightsEach Tryz.prog (Tryz.f8.params.toList ++ (OpenSpec.ofChange Rows.pushoutSquareSpec).bare.plain.varTypes Tryz.prog) (ds ++ gs), n ≤ reachBytes) (hS : W.ShapedOpen Tryz.prog) :
    Calls Tryz.prog 8 args W fun e W' => ∃ v, e = .returned v ∧ Rows.pushoutSquareSpec.post enc Tryz.prog Tryz.f8 false true false false W args v W' := by
  have hW' := hW
  obtain ⟨p, q, hA0, hV, rfl, hfz, hnd⟩ := hW
  have hA : DataW.TrodAll enc Tryz.prog W 0 (fun _ => true) true Tryz.f8.params.toList args.toList ds p := hA0
  rw [Tryz.params8] at hA hval hwt
  obtain ⟨v0, vs0, d0, ds0, p0, q0, hargs, rfl, rfl, h0, r0⟩ := trodAll_cons hA
  obtain ⟨v1, vs1, d1, ds1, p1, q1, rfl, rfl, rfl, h1, r1⟩ := trodAll_cons r0
  obtain ⟨v2, vs2, d2, ds2, p2, q2, rfl, rfl, rfl, h2, r2⟩ := trodAll_cons r1
  obtain ⟨rfl, rfl, rfl⟩ := trodAll_nil r2
  obtain rfl : args = #[v0, v1, v2] := by cases args; simp_all
  obtain ⟨rfl, rfl⟩ := trodVars_none hV
  obtain ⟨x0, y0, z0, ex0⟩ := okWide_slice Tryz.underlying22 (hval 0 22 v0 rfl rfl)
  subst ex0
  obtain ⟨f0, g0⟩ := h0
  obtain ⟨A0, l0, c0, ey0, Q0, le0, ub0, nn0, mk0⟩ := open_prims (x := (d0, p0)) g0 (weights_mem (j := 0) hwt rfl rfl)
  obtain ⟨rfl, rfl, rfl⟩ : x0 = A0 ∧ y0 = l0.length ∧ z0 = c0 := by simpa using ey0
  obtain ⟨x1, y1, z1, ex1⟩ := okWide_slice Tryz.underlying22 (hval 1 22 v1 rfl rfl)
  subst ex1
  obtain ⟨f1, g1⟩ := h1
  obtain ⟨A1, l1, c1, ey1, Q1, le1, ub1, nn1, mk1⟩ := open_prims (x := (d1, p1)) g1 (weights_mem (j := 1) hwt rfl rfl)
  obtain ⟨rfl, rfl, rfl⟩ : x1 = A1 ∧ y1 = l1.length ∧ z1 = c1 := by simpa using ey1
  obtain ⟨x2, y2, z2, ex2⟩ := okWide_slice Tryz.underlying22 (hval 2 22 v2 rfl rfl)
  subst ex2
  obtain ⟨f2, g2⟩ := h2
  obtain ⟨A2, l2, c2, ey2, Q2, le2, ub2, nn2, mk2⟩ := open_prims (x := (d2, p2)) g2 (weights_mem (j := 2) hwt rfl rfl)
  obtain ⟨rfl, rfl, rfl⟩ : x2 = A2 ∧ y2 = l2.length ∧ z2 = c2 := by simpa using ey2
  have hbulk := of_decide_eq_true hsm
  simp only [List.append_nil, Rows.uptoBulkAll] at hbulk
  have bl0 := bulk_list g0
  have bl1 := bulk_list g1
  have bl2 := bulk_list g2
  clear hA0
  have mks : ∀ {l : List Qp}, (∀ q ∈ l, q.Meek) → ∀ q ∈ l, q.old.length ≤ 1152921504606846976 ∧ q.new.length ≤ 1152921504606846976 := fun h q hq => ⟨(h q hq).old, (h q hq).new⟩
  refine (square_walk x0 x1 x2 l0.length z0 l1.length z1 l2.length z2 l0 l1 l2 W (glob hS) Q0 Q1 Q2 rfl rfl rfl nn1 le1 (by omega) (by omega) (by omega) (mks mk0) (mks mk1) (mks mk2)).mono fun e W' ⟨he, hx⟩ => ?_
  refine ⟨_, he, post_of_ext rfl hW' hx (fun t ht => ?_) (fun _ _ _ => trodAll_cons_mk (shut_bool Tryz.underlying4 _) trodAll_mk0) rfl rfl (ok_one (by kernel_rfl) rfl (okWide_bool_mk Tryz.underlying4 _))⟩
  rw [Tryz.params8] at ht
  obtain rfl : t = 22 := by simpa using ht
  exact listIn

/-! ### The witness: no patches -/
def zeroV : Value := .slice none 0 0
def zeroD {H : Type} : DataW H := .nil
theorem reads (os : Os) {H : Type} (enc : TypeId × Value → H) : DataW.whole enc Tryz.prog ((World.laidAll Tryz.prog os Rows.pushoutSquareUptoRow.laid).forCall (fun _ _ => 0) ⟨#[], #[zeroV, zeroV, zeroV], []⟩).memory Tryz.f8.params.toList Rows.pushoutSquareSpec.vars false #[zeroV, zeroV, zeroV].toList 8 = some ([zeroD, zeroD, zeroD], [], []) := by kernel_rfl
theorem laid_met (os : Os) : laidMet Tryz.prog Rows.pushoutSquareUptoRow.laid ((World.laidAll Tryz.prog os Rows.pushoutSquareUptoRow.laid).forCall (fun _ _ => 0) ⟨#[], #[zeroV, zeroV, zeroV], []⟩).memory :=
  laidMet_laidAll _ (by kernel_rfl) (by kernel_rfl)

set_option maxRecDepth 100000 in
theorem lifted (os : Os) (started : os.Started) (H : Type) (enc : TypeId × Value → H) (F : Stop.Interp) :
    ReturnsInHanded {} Tryz.checked os 8 .any ((Rows.OpenSpec.upto Rows.pushoutSquareSpec).preRow enc Tryz.prog Tryz.f8 Rows.pushoutSquareUptoRow.domain false Rows.pushoutSquareUptoRow.laid) (((Rows.OpenSpec.upto Rows.pushoutSquareSpec).at F).post enc Tryz.prog Tryz.f8 false true false false) := by
  refine returnsInHanded_of_row (C := Tryz.checked) (s := (Rows.OpenSpec.upto Rows.pushoutSquareSpec)) own started (by kernel_rfl) Tryz.func8
    (witness_row_at (enc := enc) (C := Tryz.checked) false (World.laidAll Tryz.prog os Rows.pushoutSquareUptoRow.laid) #[zeroV, zeroV, zeroV] (World.laidAll_os _ _ _) (by kernel_rfl) (by kernel_rfl) (by kernel_rfl)
      (OpenSpec.preRow_of_cond 8 (reads os enc) (by kernel_rfl) (fun k hk => by cases hk; kernel_rfl) (by kernel_rfl) (laid_met os))) ?_
  intro W base args ds gs before hval hW _ hcond hwt _ hS _
  exact contract H enc W base args ds gs before hval hW (hcond _ rfl) (fun n hn => of_decide_eq_true (List.all_eq_true.1 hwt n hn)) hS

theorem said : Rows.PushoutSquareUptoSaid :=
  OpenClaim.holds_of_cond 8 Tryz.f8 rfl rfl rfl rfl rfl rfl rfl ⟨rfl, rfl, rfl, rfl, rfl⟩ rfl rfl rfl rfl rfl (by kernel_rfl) Tryz.func8 (by kernel_rfl)
    (of_decide_eq_true (by kernel_rfl)) (by unfold Func.isWrapper; first | (rw [if_pos (by decide +kernel)]; kernel_rfl) | (rw [if_neg (by decide +kernel)]; exact ⟨rfl, rfl⟩))
    (fun os started H enc _ F => by rw [OpenClaim.pre_eq_preRow]; exact lifted os started H enc F)

/-- No parameter wants a stand-in; the program's own looks are off. -/
theorem plain (f : FuncId) (fn : Func) (hf : Tryz.pinned.checked.prog.funcNamed Rows.pushoutSquareUptoRow.func = some f) (hfn : Tryz.pinned.checked.prog.funcs[f]? = some fn) :
    false = Tryz.pinned.checked.prog.looks [] ∧ ∀ (j : Nat) t, fn.params[j]? = some t → Tryz.pinned.checked.prog.wantsStandIn t = false := by
  obtain rfl : f = 8 := Option.some.inj ((show Tryz.prog.funcNamed Rows.pushoutSquareUptoRow.func = some 8 by kernel_rfl).symm.trans hf) |>.symm
  obtain rfl : fn = Tryz.f8 := (Option.some.inj (Tryz.func8.symm.trans hfn)).symm
  refine ⟨by kernel_rfl, fun j t ht => ?_⟩
  rw [Tryz.params8] at ht
  obtain rfl : t = 22 := by simpa using Array.mem_of_getElem? ht
  exact (show Tryz.prog.wantsStandIn 22 = false by kernel_rfl)

theorem card : Rows.PushoutSquareUptoCardSaid :=
  Claim7.holds_tied_plain_at .later [] _ _ _ _ said (fun _ h => by cases h) (by kernel_rfl) (fun _ h => by cases h) pushoutSquareUpto_row_tie rfl ⟨rfl, rfl⟩ (by kernel_rfl) rfl plain (by kernel_rfl)
end Go.Proofs.YtgfiddlmeopebaaGreatDoor.PushoutSquare
