/- Walks: ignore: ranges over functions, left by a return, one within another. Over any program. Walks: ignore: two files are compared; a closure holds; rules from the last to the first. Walks: ignore: ignore: the iterators of rules and of the files above. Walks: ignore: ignore: files collected out of a slice's values. -/
import Derived.Test.YtnjcifppkijanaaGreatDoorRange
import Derived.Test.YtnjcifppkijanaaGreatDoorTu
import Derived.Test.YtnjcifppkijanaaGreatDoorPE
import Derived.RangeFuncNested
import Derived.RangeFuncBound
import Derived.RangeFuncLeaves
import Derived.Shelf.Abstract
import Derived.Shelf.RegionOpen
import Derived.OwnWalkIn
import Derived.TacticsInMore
import Derived.LoopNIn
import Derived.LoopIn
import Derived.Laws.EntriesVeiled
import Derived.Test.YtnjcifppkijanaaGreatDoorPG
import Derived.Test.YtnjcifppkijanaaGreatDoorPD
set_option linter.unusedSimpArgs false
set_option linter.unusedVariables false
namespace Go.Proofs.YtnjcifppkijanaaGreatDoor
open Go Go.RowKit Go.Shelf
attribute [local go_sem] Oper.semAt_some

section
variable {P : Program}
/-- What the iterator promises of its rounds: I: between two rounds; Y: where it calls yield; J: where a round has gone on; X: where one has left. T, Tx: what holds of the loop's own records. -/
def RoundsV {α : Type} (P : Program) (n : Nat) (gf : Nat) (lb : Array Value) (encs : α → Array Value) (I : Nat → World → Prop) (Y J : Nat → α → World → Prop) (X : World → Prop) (N : Nat) : Prop :=
  ∀ (l : Nat) (T Tx : World → Prop) (W : World), (∀ A B, KeepsOthers A B → T A → T B) → (∀ A B, KeepsOthers A B → Tx A → Tx B) →
    (∀ k x W1, Y k x W1 → T W1 → YieldAt Fence.wide (n - 1) P l (encs x) W1 fun e W' => (e = .returned (.bool true) ∧ J k x W' ∧ T W') ∨ (e = .returned (.bool false) ∧ X W' ∧ Tx W')) →
    I 0 W → T W →
    CallsIn Fence.wide n P gf (#[.func (.yield l) #[] #[]] ++ lb) W fun e W' => (∃ v, e = .returned v) ∧ ((I N W' ∧ T W') ∨ (X W' ∧ Tx W'))

theorem wpIn_range_leaveH {α : Type} {g : Operand} {ps : Array Tmp} {assign body : Code} {Q : Exit → Act → World → Prop} {a : Act} {w : World} {n : Nat}
    {gf : Nat} {lb : Array Value} (hg : a.eval g = .func (.func gf) #[] lb) (eg : ∀ args w, (callFunc gf args).run P w = .ok (.enter gf args) w)
    {encs : α → Array Value} {I : Nat → World → Prop} {Y J : Nat → α → World → Prop} {X : World → Prop} {N : Nat} (hseq : RoundsV P (n - 1) gf lb encs I Y J X N) (hps : ∀ x, (encs x).size = ps.size)
    (A : Nat → α → Act → World → Prop)
    (hI : ∀ k, Steady w.heap.size (I k)) (hA : ∀ k x a', Steady w.heap.size (A k x a')) (hJ : ∀ k x, Steady w.heap.size (J k x)) (hX : Steady w.heap.size X) (h0 : I 0 w)
    (hassign : ∀ (l k : Nat) (x : α) (W : World) (K : Act → World → Prop), Y k x W → (∀ a' W', KeepsOthers W W' → A k x a' W' → K a' W') →
      assign.wpIn (Fence.wide.inRound l) (n - 1 - 1) P (Exit.then K (fun _ _ _ => False)) { tmps := (ps.zip (encs x)).foldl (fun t (p, v) => t.setIfInBounds p v) a.tmps, defers := [] } W)
    (hbody : ∀ (l k : Nat) (x : α) (a' : Act) (W : World), w.heap.size ≤ l → (∃ r, W.heap[l]? = some (.loop r)) → A k x a' W → body.wpIn (Fence.wide.inRound l) (n - 1 - 1) P (leaves J X k x W) a' W)
    (hdone : ∀ (D : Nat) (W : World), w.heap.size ≤ D → I N W → W.heap[D]? = some (.deferred (some [])) → Q .normal { a with defers := { target := .collected D, args := #[] } :: a.defers } W)
    (hstop : ∀ (D : Nat) (W : World), w.heap.size ≤ D → X W → W.heap[D]? = some (.deferred (some [])) → Code.ret.wpIn Fence.wide n P Q { a with defers := { target := .collected D, args := #[] } :: a.defers } W) :
    (Code.rangeFunc g ps assign body).wpIn Fence.wide n P Q a w := by
  refine wpIn_rangeFunc fun fn hfn => ?_
  let rec_ : LoopState → Option Code → Loop := fun st pe => { state := st, pending := pe, fn := fn, tmps := a.tmps, params := ps, assign := assign, body := body, defers := w.heap.size }
  let W1 : World := (w.alloc (.deferred (some []))).alloc (.loop (rec_ .ready none))
  have hL1 : W1.heap[w.heap.size + 1]? = some (.loop (rec_ .ready none)) := by
    have := World.alloc_heap_new (w.alloc (.deferred (some []))) (.loop (rec_ .ready none)); rwa [World.size_alloc] at this
  have hD1 : W1.heap[w.heap.size]? = some (.deferred (some [])) := (Below.heap_alloc _ _ _ (by simp)).trans (World.alloc_heap_new w _)
  refine ⟨w.heap.size + 1, [{ target := .collected w.heap.size, args := #[] }], W1, { target := .fn (.func gf) lb, args := #[.func (.yield (w.heap.size + 1)) #[] #[]] }, W1, gf,
    #[.func (.yield (w.heap.size + 1)) #[] #[]] ++ lb, W1, run_enterLoop_outer _ _ _ _ _, ?_, fun f' hf' => trivial, ?_, fun h => (by cases h), ?_⟩
  · simp only [resolve, hg]
    simp [go_sem]
  · simp [invoke, go_sem, eg]
  · refine (hseq (w.heap.size + 1) (fun W => W.heap[w.heap.size + 1]? = some (.loop (rec_ .ready none)) ∧ W.heap[w.heap.size]? = some (.deferred (some [])))
      (fun W => W.heap[w.heap.size + 1]? = some (.loop (rec_ .done (some .ret))) ∧ W.heap[w.heap.size]? = some (.deferred (some []))) W1
      (fun A B hk h => ⟨hk.same _ _ h.1 rfl, hk.same _ _ h.2 rfl⟩) (fun A B hk h => ⟨hk.same _ _ h.1 rfl, hk.same _ _ h.2 rfl⟩) ?_ ((hI 0).alloc _ ((hI 0).alloc _ h0)) ⟨hL1, hD1⟩).mono ?_
    · rintro k x W0 hy0 ⟨hl0, hd0⟩
      have hy := run_yield (P := P) (args := encs x) hl0 (hps x)
      refine ⟨fn, _, assign, body, hy, roundIn_of_wpIn hfn (hassign _ k x W0 _ hy0 fun a' W hkw hax => ⟨_, run_beginRound (hkw.same _ _ hl0 rfl) rfl, ?_⟩)⟩
      have hl := hkw.same _ _ hl0 rfl
      have hd := hkw.same _ _ hd0 rfl
      have hlt : w.heap.size + 1 < W.heap.size := (Array.getElem?_eq_some_iff.1 hl).1
      have hl2 : (W.putObj (w.heap.size + 1) (.loop { rec_ .ready none with state := .busy })).heap[w.heap.size + 1]? = some (.loop { rec_ .ready none with state := .busy }) := World.putObj_heap_same hlt
      have hd2 : (W.putObj (w.heap.size + 1) (.loop { rec_ .ready none with state := .busy })).heap[w.heap.size]? = some (.deferred (some [])) := (World.putObj_heap_other (by omega)).trans hd
      refine wpIn_mono (hbody _ k x a' _ (by omega) ⟨_, hl2⟩ ((hA k x a').putObj _ hax (by omega) hl rfl)) ?_
      rintro e a3 W3 hp
      cases e with
      | normal =>
        obtain ⟨hk3, hj3⟩ := hp
        have hl3 := hk3.same _ _ hl2 rfl
        exact ⟨_, _, run_endRound (P := P) none hl3, .inl ⟨rfl, (hJ k x).putObj _ hj3 (by omega) hl3 rfl, World.putObj_heap_same (Array.getElem?_eq_some_iff.1 hl3).1, (World.putObj_heap_other (by omega)).trans (hk3.same _ _ hd2 rfl)⟩⟩
      | ret =>
        obtain ⟨hk3, hj3⟩ := hp
        have hl3 := hk3.same _ _ hl2 rfl
        exact ⟨_, _, run_endRound (P := P) (some .ret) hl3, .inr ⟨rfl, hX.putObj _ hj3 (by omega) hl3 rfl, World.putObj_heap_same (Array.getElem?_eq_some_iff.1 hl3).1, (World.putObj_heap_other (by omega)).trans (hk3.same _ _ hd2 rfl)⟩⟩
      | exit id => exact hp.elim
      | goto t => exact hp.elim
      | panic ch => exact hp.elim
      | outgrown => exact hp.elim
    · rintro e W2 ⟨⟨v, rfl⟩, (⟨hi, hl, hd⟩ | ⟨hi, hl, hd⟩)⟩
      · exact ⟨none, _, run_endLoop (P := P) hl (by simp [rec_]), hdone _ _ (Nat.le_refl _) ((hI N).putObj _ hi (by omega) hl rfl) ((World.putObj_heap_other (by omega)).trans hd)⟩
      · exact ⟨some .ret, _, run_endLoop (P := P) hl (by simp [rec_]), hstop _ _ (Nat.le_refl _) (hX.putObj _ hi (by omega) hl rfl) ((World.putObj_heap_other (by omega)).trans hd)⟩
/-- The same within a round of loop l₀. -/
theorem wpIn_range_leaveN {α : Type} {l₀ : Nat} {r₀ : Loop} {g : Operand} {ps : Array Tmp} {assign body : Code} {Q : Exit → Act → World → Prop} {a : Act} {w : World} {n : Nat}
    {gf : Nat} {lb : Array Value} (hl₀ : w.heap[l₀]? = some (.loop r₀)) (hg : a.eval g = .func (.func gf) #[] lb) (eg : ∀ args w, (callFunc gf args).run P w = .ok (.enter gf args) w)
    {encs : α → Array Value} {I : Nat → World → Prop} {Y J : Nat → α → World → Prop} {X : World → Prop} {N : Nat} (hseq : RoundsV P (n - 1) gf lb encs I Y J X N) (hps : ∀ x, (encs x).size = ps.size)
    (A : Nat → α → Act → World → Prop)
    (hI : ∀ k, Steady w.heap.size (I k)) (hA : ∀ k x a', Steady w.heap.size (A k x a')) (hJ : ∀ k x, Steady w.heap.size (J k x)) (hX : Steady w.heap.size X) (h0 : I 0 w)
    (hassign : ∀ (l k : Nat) (x : α) (W : World) (K : Act → World → Prop), Y k x W → (∀ a' W', KeepsOthers W W' → A k x a' W' → K a' W') →
      assign.wpIn (Fence.wide.inRound l) (n - 1 - 1) P (Exit.then K (fun _ _ _ => False)) { tmps := (ps.zip (encs x)).foldl (fun t (p, v) => t.setIfInBounds p v) a.tmps, defers := [] } W)
    (hbody : ∀ (l k : Nat) (x : α) (a' : Act) (W : World), w.heap.size ≤ l → (∃ r, W.heap[l]? = some (.loop r)) → A k x a' W → body.wpIn (Fence.wide.inRound l) (n - 1 - 1) P (leaves J X k x W) a' W)
    (hdone : ∀ (W : World), I N W → Q .normal a W)
    (hstop : ∀ (W : World), X W → Code.ret.wpIn (Fence.wide.inRound l₀) n P Q a W) :
    (Code.rangeFunc g ps assign body).wpIn (Fence.wide.inRound l₀) n P Q a w := by
  refine wpIn_rangeFunc fun fn hfn => ?_
  let rec_ : LoopState → Option Code → Loop := fun st pe => { state := st, pending := pe, fn := fn, tmps := a.tmps, params := ps, assign := assign, body := body, defers := r₀.defers }
  let W1 : World := w.alloc (.loop (rec_ .ready none))
  have hL1 : W1.heap[w.heap.size]? = some (.loop (rec_ .ready none)) := World.alloc_heap_new w _
  refine ⟨w.heap.size, [], W1, { target := .fn (.func gf) lb, args := #[.func (.yield w.heap.size) #[] #[]] }, W1, gf,
    #[.func (.yield w.heap.size) #[] #[]] ++ lb, W1, run_enterLoop_inner hl₀ _ _ _ _ _, ?_, fun f' hf' => trivial, ?_, fun h => (by cases h), ?_⟩
  · simp only [resolve, hg]
    simp [go_sem]
  · simp [invoke, go_sem, eg]
  · refine (CallsIn.inRound l₀ (hseq w.heap.size (fun W => W.heap[w.heap.size]? = some (.loop (rec_ .ready none)))
      (fun W => W.heap[w.heap.size]? = some (.loop (rec_ .done (some .ret)))) W1
      (fun A B hk h => hk.same _ _ h rfl) (fun A B hk h => hk.same _ _ h rfl) ?_ ((hI 0).alloc _ h0) hL1)).mono ?_
    · rintro k x W0 hy0 hl0
      have hy := run_yield (P := P) (args := encs x) hl0 (hps x)
      refine ⟨fn, _, assign, body, hy, roundIn_of_wpIn hfn (hassign _ k x W0 _ hy0 fun a' W hkw hax => ⟨_, run_beginRound (hkw.same _ _ hl0 rfl) rfl, ?_⟩)⟩
      have hl := hkw.same _ _ hl0 rfl
      have hlt : w.heap.size < W.heap.size := (Array.getElem?_eq_some_iff.1 hl).1
      have hl2 : (W.putObj w.heap.size (.loop { rec_ .ready none with state := .busy })).heap[w.heap.size]? = some (.loop { rec_ .ready none with state := .busy }) := World.putObj_heap_same hlt
      refine wpIn_mono (hbody _ k x a' _ (Nat.le_refl _) ⟨_, hl2⟩ ((hA k x a').putObj _ hax (Nat.le_refl _) hl rfl)) ?_
      rintro e a3 W3 hp
      cases e with
      | normal =>
        obtain ⟨hk3, hj3⟩ := hp
        have hl3 := hk3.same _ _ hl2 rfl
        exact ⟨_, _, run_endRound (P := P) none hl3, .inl ⟨rfl, (hJ k x).putObj _ hj3 (Nat.le_refl _) hl3 rfl, World.putObj_heap_same (Array.getElem?_eq_some_iff.1 hl3).1⟩⟩
      | ret =>
        obtain ⟨hk3, hj3⟩ := hp
        have hl3 := hk3.same _ _ hl2 rfl
        exact ⟨_, _, run_endRound (P := P) (some .ret) hl3, .inr ⟨rfl, hX.putObj _ hj3 (Nat.le_refl _) hl3 rfl, World.putObj_heap_same (Array.getElem?_eq_some_iff.1 hl3).1⟩⟩
      | exit id => exact hp.elim
      | goto t => exact hp.elim
      | panic ch => exact hp.elim
      | outgrown => exact hp.elim
    · rintro e W2 ⟨⟨v, rfl⟩, (⟨hi, hl⟩ | ⟨hi, hl⟩)⟩
      · exact ⟨none, _, run_endLoop (P := P) hl (by simp [rec_]), hdone _ ((hI N).putObj _ hi (Nat.le_refl _) hl rfl)⟩
      · exact ⟨some .ret, _, run_endLoop (P := P) hl (by simp [rec_]), hstop _ (hX.putObj _ hi (Nat.le_refl _) hl rfl)⟩
end
theorem Ext.steadyV (w : World) {B : Nat} (hB : w.heap.size ≤ B) : Steady B (Ext w) := fun W W' row hi hg hr => Below.grown hi hg hi.size_le (fun k e => Nat.le_trans hB (hr k e).1)
theorem KeepsOthers.steady (w : World) {B : Nat} (hB : w.heap.size ≤ B) : Steady B (KeepsOthers w) := fun W W' row hi hg hr =>
  ⟨Nat.le_trans hi.size hg.size, fun k o hk hc => by
    have h1 := hi.same k o hk hc
    refine (hg.block k (Array.getElem?_eq_some_iff.1 h1).1 fun e => ?_).trans h1
    have h2 := (hr k e.symm).1
    have h3 := (Array.getElem?_eq_some_iff.1 hk).1
    omega⟩
end Go.Proofs.YtnjcifppkijanaaGreatDoor
namespace Go.Proofs.YtnjcifppkijanaaGreatDoor
open Go Go.RowKit Go.Shelf
attribute [local go_sem] Oper.semAt_some

set_option maxHeartbeats 1000000 in
set_option maxRecDepth 100000 in
theorem near1_any (d1 d2 : ByteArray) (A1 A2 : Option Addr) (n1 c1 n2 c2 : Nat) (w : World) (h1 : d1.size ≤ 1000000) (h2 : d2.size ≤ 1000000) :
    Calls Tryz.prog 126 #[.agg #[.string d1, .slice A1 n1 c1], .agg #[.string d2, .slice A2 n2 c2]] w (Ret (.int .i64 (Lib.compareInt d2.size d1.size)) w) := by
  have hx := Ext.refl w
  have HX1 := Lib.hid ((hx.alloc (.cells #[.string d1, .slice A1 n1 c1] 32)).alloc (.cells #[.string d2, .slice A2 n2 c2] 32))
  obtain ⟨hcr, hfr, hlr⟩ := (Blk.alloc (Blk.new' (w := w) (g := w.heap.size) (cs := #[.string d1, .slice A1 n1 c1]) (t := 32) rfl) (.cells #[.string d2, .slice A2 n2 c2] 32)).all
  obtain ⟨hcs, hfs, hls⟩ := (Blk.new' (w := w.alloc (.cells #[.string d1, .slice A1 n1 c1] 32)) (g := w.heap.size + 1) (cs := #[.string d2, .slice A2 n2 c2]) (t := 32) (by simp)).all
  go_enter Tryz.func126, Tryz.ntmps126
  go_wp2_with fail
  refine (Tryz.cmp_Compare_int _ _ _).mono ?_
  rintro e w1 ⟨rfl, rfl⟩
  go_wp2_with fail
  go_ret
  exact ⟨rfl, HX1.out⟩
set_option maxHeartbeats 1000000 in
set_option maxRecDepth 100000 in
theorem holds_any (r : Ig.Ru) (dir p : ByteArray) (d : Bool) (w : World) (hd : dir.size ≤ 1000000) (hp : p.size ≤ 200) (hgl : Glob w) :
    Calls Tryz.prog 103 #[.func (.func 104) #[.agg #[.bool r.neg, .bool r.dirOnly, .bool r.anch, .string r.glob, .string dir]] #[], .agg #[.string p, .bool d]] w (Ret (.bool (Ig.fitsR (Ig.L dir) (Ig.L p) d r)) w) := by
  have hx := Ext.refl w
  have HX1 := Lib.hid (hx.alloc (.cells #[.string p, .bool d] 98))
  obtain ⟨hcr, hfr, hlr⟩ := (Blk.new' (w := w) (g := w.heap.size) (cs := #[.string p, .bool d]) (t := 98) rfl).all
  have HF := Lib.hid (pfits_any r dir p d _ hd hp (hgl.ext HX1.out))
  generalize Ig.fitsR (Ig.L dir) (Ig.L p) d r = R at HF ⊢
  clear hgl
  go_enter Tryz.func103, Tryz.ntmps103
  go_wp2_with fail
  refine HF.out.mono ?_
  rintro e w1 ⟨rfl, hx1⟩
  have HX2 := Lib.hid (HX1.out.trans hx1)
  clear hcr hfr hlr hx1 HX1
  go_wp2_with fail
  go_ret
  exact ⟨rfl, HX2.out⟩
set_option maxHeartbeats 400000 in
theorem bwdu_same (A : Option Addr) (n c : Nat) (w : World) :
    Calls Tryz.prog 102 #[.slice A n c] w fun e w' => e = .returned (.func (.func 130) #[] #[.pointer (some ⟨w.heap.size, 0, none⟩)]) ∧ w.alloc (.cells #[.slice A n c] 23) = w' := by
  go_enter Tryz.func102, Tryz.ntmps102
  go_wp2
  go_ret
  simp
end Go.Proofs.YtnjcifppkijanaaGreatDoor
namespace Go.Proofs.YtnjcifppkijanaaGreatDoor
open Go Go.RowKit Go.Shelf
attribute [local go_sem] Oper.semAt_some

set_option maxHeartbeats 8000000 in
set_option maxRecDepth 100000 in
theorem bwdu1_gives (n0 : Nat) (hn0 : 3 ≤ n0) (z : Nat) (A : Option Addr) (n c : Nat) (l : List Ig.Ru) (hn : l.length = n) (hb : n ≤ 1000000000) (w0 : World) (hvs : Rus w0 All A l) (I : Nat → World → Prop) (X : World → Prop)
    (hbox : ∀ k W, I k W → Blk W z 23 #[.slice A n c] ∧ Ext w0 W) (hext : ∀ k W W', I k W → Ext W W' → I k W') :
    RoundsV Tryz.prog n0 130 #[.pointer (some ⟨z, 0, none⟩)] (fun x : Nat × Ig.Ru => #[.int .i64 x.1, .agg #[.bool x.2.neg, .bool x.2.dirOnly, .bool x.2.anch, .string x.2.glob]]) I (fun k x W => I k W ∧ x.1 + (k + 1) = n ∧ l[x.1]? = some x.2) (fun k x W => I (k + 1) W) X n := by
  intro l' T Tx W hT hTx hY h0 hT0
  have HY := Lib.hid hY
  have HB := Lib.hid hbox
  have HVS := Lib.hid hvs
  have HE := Lib.hid hext
  have H0 := Lib.hid h0
  have HT0 := Lib.hid hT0
  have HTK := Lib.hid hT
  have HN := Lib.hid hn
  have hb0 := (hbox 0 W h0).1
  have hc0 := hb0.cell
  have hl0 := hb0.lt
  clear hY hT hTx h0 hT0 hbox hext hn hb0 hvs
  refine callsIn_of_wp Tryz.func130 rfl trivial ?_ rfl
  simp only [Tryz.ntmps130, List.size_toArray, List.length_cons, List.length_nil, Nat.reduceAdd, Nat.reduceSub, Array.replicate_succ, Array.replicate_zero, List.push_toArray, List.append_toArray, List.nil_append, List.cons_append]
  gi_wp2
  clear hc0 hl0
  gi_loopw [3] (fun u wr => ∃ i k : Nat, i + k = n ∧ u = .int .i64 ((i : Int) - 1) ∧ Hid (I k wr) ∧ Hid (T wr)) (fun u wr => (intOf u + 1).toNat)
  case atStart => exact ⟨n, 0, by omega, rfl, H0, HT0⟩
  case round =>
    clear H0 HT0
    obtain ⟨i, k, hk, rfl, HI, HT⟩ := hrel
    obtain ⟨hbz, hx⟩ := HB.out k wr HI.out
    have hcz := hbz.cell
    have hlz := hbz.lt
    clear hbz
    cases i with
    | zero =>
      have hkn : k = n := by omega
      subst hkn
      clear hx
      gi_wp2
      go_end0
      exact ⟨⟨_, rfl⟩, .inl ⟨HI.out, HT.out⟩⟩
    | succ i =>
      have e9 : (((i + 1 : Nat) : Int) - 1) = (i : Int) := by omega
      rw [e9]
      clear e9
      have hil : i < l.length := by rw [HN.out]; omega
      have hin : i < n := by omega
      have e1 : l[i]? = some (l[i]'hil) := List.getElem?_eq_getElem hil
      obtain ⟨b, o, cs, rfl, hbl, _, _, hr, hv⟩ := HVS.out.get e1
      generalize l[i]'hil = v at e1 hv
      obtain ⟨fn, tmps, assign, body, hy, hR⟩ := HY.out k (i, v) wr ⟨HI.out, by omega, e1⟩ HT.out
      obtain rfl : cs = _ := hv
      have c0 : w0.cell? ⟨b, o + i * 4, none⟩ = _ := hr 0 _ rfl
      have c1 : w0.cell? ⟨b, o + i * 4 + 1, none⟩ = _ := hr 1 _ rfl
      have c2 : w0.cell? ⟨b, o + i * 4 + 2, none⟩ = _ := hr 2 _ rfl
      have c3 : w0.cell? ⟨b, o + i * 4 + 3, none⟩ = _ := hr 3 _ rfl
      rw [← hx.cell (p := ⟨b, _, none⟩) hbl] at c0 c1 c2 c3
      have hbl := Nat.lt_of_lt_of_le hbl hx.size_le
      have HR := Lib.hid hR
      clear hR e1 HI HT hil hr hx
      gi_wp2
      refine ⟨fun _ => (by omega), HR.out.mono ?_⟩
      rintro e W4 (⟨rfl, hJ, hT4⟩ | ⟨rfl, hX4, hTx4⟩)
      · have HJ := Lib.hid hJ
        have HT4 := Lib.hid hT4
        clear hJ hT4 HR c0 c1 c2 c3 hbl hcz hlz
        gi_wp2
        go_roundw
        case rel => exact ⟨i, k + 1, by omega, rfl, HJ, HT4⟩
        case measure => simp [intOf]
      · have HE := Lib.hid (⟨hX4, hTx4⟩ : _ ∧ _)
        clear hX4 hTx4 HR c0 c1 c2 c3 hbl hcz hlz
        gi_wp2
        refine bodyPost_ret (results_none rfl _ _ _) rfl ?_
        exact ⟨⟨_, rfl⟩, .inr HE.out⟩


set_option maxHeartbeats 8000000 in
set_option maxRecDepth 100000 in
theorem near2_gives (n0 : Nat) (hn0 : 3 ≤ n0) (z zt : Nat) (A : Option Addr) (n c : Nat) (l : List Ig.Fi) (p : ByteArray) (d : Bool) (hn : l.length = n) (hb : n ≤ 1000000000) (hd : ∀ f ∈ l, f.dir.size ≤ 1000000) (w0 : World) (hvs : Fis w0 All A l) (I : Nat → World → Prop) (X : World → Prop)
    (hbox : ∀ k W, I k W → Blk W z 29 #[.slice A n c] ∧ Blk W zt 98 #[.string p, .bool d] ∧ Ext w0 W) (hext : ∀ k W W', I k W → Ext W W' → I k W')
    (hskip : ∀ k W f, I k W → l[k]? = some f → (Ig.restV f.dir p).2 = false → I (k + 1) W) :
    RoundsV Tryz.prog n0 128 #[.pointer (some ⟨z, 0, none⟩), .pointer (some ⟨zt, 0, none⟩)] (fun x : Ig.Fi × List Value => #[.agg x.2.toArray]) I (fun k x W => I k W ∧ l[k]? = some x.1 ∧ FiR w0 All x.2 x.1 ∧ (Ig.restV x.1.dir p).2 = true) (fun k x W => I (k + 1) W) X n := by
  intro l' T Tx W hT hTx hY h0 hT0
  have HY := Lib.hid hY
  have HB := Lib.hid hbox
  have HVS := Lib.hid hvs
  have HE := Lib.hid hext
  have HSK := Lib.hid hskip
  have H0 := Lib.hid h0
  have HT0 := Lib.hid hT0
  have HTK := Lib.hid hT
  have HN := Lib.hid hn
  have HD := Lib.hid hd
  have hb0 := (hbox 0 W h0).1
  have hc0 := hb0.cell
  have hl0 := hb0.lt
  clear hY hT hTx h0 hT0 hbox hext hskip hn hb0 hvs hd
  refine callsIn_of_wp Tryz.func128 rfl trivial ?_ rfl
  simp only [Tryz.ntmps128, List.size_toArray, List.length_cons, List.length_nil, Nat.reduceAdd, Nat.reduceSub, Array.replicate_succ, Array.replicate_zero, List.push_toArray, List.append_toArray, List.nil_append, List.cons_append]
  gi_wp2
  clear hc0 hl0
  gi_loopw [10] (fun u wr => ∃ k : Nat, k ≤ n ∧ u = .int .i64 (k : Int) ∧ Hid (I k wr) ∧ Hid (T wr)) (fun u wr => n - (intOf u).toNat)
  case atStart => exact ⟨0, Nat.zero_le _, rfl, H0, HT0⟩
  case round =>
    clear H0 HT0
    obtain ⟨k, hk, rfl, HI, HT⟩ := hrel
    by_cases hlt : k < n
    · have hkl : k < l.length := by rw [HN.out]; exact hlt
      have e1 : l[k]? = some (l[k]'hkl) := List.getElem?_eq_getElem hkl
      have hds := HD.out _ (List.getElem_mem hkl)
      obtain ⟨b, o, cs, rfl, hbl, _, _, hr, hv⟩ := HVS.out.get e1
      generalize l[k]'hkl = f at e1 hv hds
      have HV := Lib.hid hv
      have E1 := Lib.hid e1
      obtain ⟨A', n', m', rfl, _, _, _⟩ := hv
      obtain ⟨hbz, hbt, hx⟩ := HB.out k wr HI.out
      have c0 : wr.cell? ⟨b, o + k * 2, none⟩ = _ := (hx.cell (p := ⟨b, _, none⟩) hbl).trans (hr 0 _ rfl)
      have c1 : wr.cell? ⟨b, o + k * 2 + 1, none⟩ = _ := (hx.cell (p := ⟨b, _, none⟩) hbl).trans (hr 1 _ rfl)
      have hblr := Nat.lt_of_lt_of_le hbl hx.size_le
      have HX1 := Lib.hid ((Ext.refl wr).alloc (.cells #[.string f.dir, .slice A' n' m'] 32))
      have HBF := Lib.hid (Blk.new' (w := wr) (g := wr.heap.size) (cs := #[.string f.dir, .slice A' n' m']) (t := 32) rfl)
      obtain ⟨hcr, hfr, hlr⟩ := HBF.out.all
      obtain ⟨hct, hft, hlt'⟩ := (Blk.ext HX1.out hbt).all
      have HRS : Hid (∀ W, Calls Tryz.prog 129 #[.agg #[.string p, .bool d], .string f.dir] W (Ret (.tuple #[.string (Ig.restV f.dir p).1, .bool (Ig.restV f.dir p).2]) W)) := Lib.hid fun W => rest_any p d f.dir W hds
      obtain ⟨rs, hrs⟩ : ∃ z, z = (Ig.restV f.dir p).1 := ⟨_, rfl⟩
      obtain ⟨ok, hok⟩ : ∃ z, z = (Ig.restV f.dir p).2 := ⟨_, rfl⟩
      rw [← hrs, ← hok] at HRS
      have HOK := Lib.hid hok
      clear hrs hok e1 hkl hr hx hbz hds
      gi_wp2
      refine ⟨trivial, fun _ => (by omega), ?_⟩
      refine (callsIn_wide.2 (HRS.out _)).mono ?_
      rintro e W2 ⟨rfl, hx2⟩
      have hxx := HX1.out.trans hx2
      have HI2 := Lib.hid (HE.out _ _ _ HI.out hxx)
      have HT2 := Lib.hid (HTK.out _ _ hxx.keeps HT.out)
      have HB2 := Lib.hid (Blk.ext hx2 HBF.out)
      clear hcr hfr hlr hct hft hlt' hbt c0 c1 hblr hbl HI HT hxx hx2 HX1 HBF HRS
      obtain ⟨hcr, hfr, hlr⟩ := HB2.out.all
      cases ok with
      | false =>
        have HN2 := Lib.hid (HSK.out _ _ _ HI2.out E1.out HOK.out.symm)
        gi_wp2
        refine ⟨(fun _ h => nomatch h), ?_⟩
        gi_wp2
        go_roundw
        case rel => exact ⟨k + 1, by omega, rfl, HN2, HT2⟩
        case measure => simp [intOf]; omega
      | true =>
        obtain ⟨fn, tmps, assign, body, hy, hR⟩ := HY.out k (f, [.string f.dir, .slice A' n' m']) W2 ⟨HI2.out, E1.out, HV.out, HOK.out.symm⟩ HT2.out
        have HR := Lib.hid hR
        clear hR HI2 HT2
        gi_wp2
        refine ⟨fun _ => (by omega), HR.out.mono ?_⟩
        rintro e W4 (⟨rfl, hJ, hT4⟩ | ⟨rfl, hX4, hTx4⟩)
        · have HJ := Lib.hid hJ
          have HT4 := Lib.hid hT4
          clear hJ hT4 HR hcr hfr hlr hy
          gi_wp2
          go_roundw
          case rel => exact ⟨k + 1, by omega, rfl, HJ, HT4⟩
          case measure => simp [intOf]; omega
        · have HE := Lib.hid (⟨hX4, hTx4⟩ : _ ∧ _)
          clear hX4 hTx4 HR hcr hfr hlr hy
          gi_wp2
          refine bodyPost_ret (results_none rfl _ _ _) rfl ?_
          exact ⟨⟨_, rfl⟩, .inr HE.out⟩
    · obtain rfl : k = n := by omega
      gi_wp2
      go_end0
      exact ⟨⟨_, rfl⟩, .inl ⟨HI.out, HT.out⟩⟩
end Go.Proofs.YtnjcifppkijanaaGreatDoor
namespace Go.Proofs.YtnjcifppkijanaaGreatDoor
open Go Go.RowKit Go.Shelf
attribute [local go_sem] Oper.semAt_some


theorem fiInfo : ∃ i z, Tryz.prog.info? 32 = some i ∧ i.zero = some z ∧ i.size = 2 ∧ i.bytes = 40 ∧ z.cells.size = 2 := by
  have h : (Tryz.prog.info? 32).map (fun i => (i.zero.map (·.cells.size), i.size, i.bytes)) = some (some 2, 2, 40) := by kernel_rfl
  cases hi : Tryz.prog.info? 32 with
  | none => rw [hi] at h; cases h
  | some i =>
    rw [hi] at h
    simp only [Option.map_some, Option.some.injEq, Prod.mk.injEq] at h
    obtain ⟨h1, h2, h3⟩ := h
    cases hz : i.zero with
    | none => rw [hz] at h1; cases h1
    | some z => exact ⟨i, z, rfl, hz, h2, h3, by rw [hz] at h1; simpa using h1⟩
theorem FiR.one {w : World} {F : Nat → Prop} {c : List Value} {f : Ig.Fi} (h : FiR w F c f) : ∀ u ∈ c, Value.oneCell' u = true := by
  obtain ⟨A, n, m, rfl, -⟩ := h
  intro u hu
  simp at hu
  rcases hu with rfl | rfl <;> rfl
section
variable {α : Type} {k : Nat} {R : Reads α} {t : TypeId} {w0 w w' : World} {base : Nat} {F : Nat → Prop} {v : Value} {l : List α}
theorem OwnW.turned (h : OwnW k R t w0 w base F v l) (ht : Turned w w') : OwnW k R t w0 w' base F v l := by
  obtain ⟨cs, h1, h2, ⟨h3, h5⟩, h4⟩ := h
  refine ⟨cs, h1, h2, ⟨h3, ?_⟩, h4⟩
  rcases h5 with h5 | ⟨g, cap, cur, e, hb, hg, r⟩
  · exact .inl h5
  · exact .inr ⟨g, cap, cur, e, hb, Blk.turned (Blk.mk hg) ht, r⟩
theorem wpListIn_append_w {P : Program} {FF : Fence} {n : Nat} {ops : Array Oper} {Q : Exit → Act → World → Prop} {by_ : Nat} (ho1 : ∀ {w F c x}, R w F c x → ∀ u ∈ c, Value.oneCell' u = true) (w0 w : World) {rest : List Oper} {o : Oper} {a : Act} (hgd : o.guard = none) (s x : Operand) (t e : TypeId) (i : TypeInfo) (z : Value)
    (ho : o.op = .call { callee := .builtin .append, args := #[s, x], argTypes := #[t, t] }) (ht : P.underlying t = some (.slice e)) (hi : P.info? e = some i) (hz : i.zero = some z) (hsz : i.size = k) (hby : i.bytes = by_) (hzk : z.cells.size = k) (hk : 0 < k)
    (base : Nat) {F : Nat → Prop} (v : Value) (l : List α) (hs : a.eval s = v) (h : OwnW k R e w0 w base F v l) (b c : Nat) (cells : List Value) (y : α) (hx : a.eval x = .slice (some ⟨b, 0, none⟩) 1 c) (hr : w.rangeAt b 0 cells) (hlen : cells.length = k) (hy : R w0 F cells y)
    (hn : l.length + 1 ≤ maxLen) (hbig : (l.length + 1) * by_ ≤ 140737488355328) (hbase : base ≤ w.heap.size)
    (hK : ∀ g cap w', OwnW k R e w0 w' base F (.slice (some ⟨g, 0, none⟩) (l.length + 1) cap) (l ++ [y]) → w.grownBy w' v.ownBlock → wpListIn FF n P ops Q rest (a.put o.dst (.slice (some ⟨g, 0, none⟩) (l.length + 1) cap)) w') : wpListIn FF n P ops Q (o :: rest) a w := by
  obtain ⟨cs, h1, h2, h3, h4⟩ := h
  refine wpListIn_append_own w hgd s x t ho base e i z k by_ ht hi hz hsz hby hzk hk v l.length cs.flatten hs h3 ⟨b, 0, none⟩ 1 c cells hx (by rw [hlen, Nat.one_mul]) (fun j u hu => ?_) (fun u hu => ho1 hy u hu) hn hbig hbase (fun v' w' hown hgrow _ => ?_)
  · rw [Addr.add_mid]
    exact hr j u hu
  · obtain ⟨g, cap, rfl⟩ := ownsRow_succ hown
    refine hK g cap w' ⟨cs ++ [cells], by simp [h1], fun d hd => ?_, ?_, fun j d q hd hq => ?_⟩ hgrow
    · rcases List.mem_append.1 hd with hd | hd
      · exact h2 d hd
      · obtain rfl : d = cells := by simpa using hd
        exact hlen
    · rw [List.length_append, List.flatten_append]
      simpa using hown
    · rcases Nat.lt_or_ge j cs.length with hj | hj
      · rw [List.getElem?_append_left hj] at hd
        rw [List.getElem?_append_left (by omega)] at hq
        exact h4 j d q hd hq
      · rw [List.getElem?_append_right hj] at hd
        rw [List.getElem?_append_right (by omega), ← h1] at hq
        have hj0 : j - cs.length = 0 := by
          have := (List.getElem?_eq_some_iff.1 hd).1
          simpa using this
        rw [hj0] at hd hq
        obtain rfl : cells = d := by simpa using hd
        obtain rfl : y = q := by simpa using hq
        exact hy
end
set_option maxHeartbeats 400000 in
theorem values_same (A : Option Addr) (n c : Nat) (w : World) :
    Calls Tryz.prog 125 #[.slice A n c] w fun e w' => e = .returned (.func (.func 144) #[] #[.pointer (some ⟨w.heap.size, 0, none⟩)]) ∧ w.alloc (.cells #[.slice A n c] 29) = w' := by
  go_enter Tryz.func125, Tryz.ntmps125
  go_wp2
  go_ret
  simp
set_option maxHeartbeats 8000000 in
set_option maxRecDepth 100000 in
theorem values1_gives (n0 : Nat) (hn0 : 3 ≤ n0) (z : Nat) (A : Option Addr) (n c : Nat) (l : List Ig.Fi) (hn : l.length = n) (hb : n ≤ 1000000000) (w0 : World) (hvs : Fis w0 All A l) (I : Nat → World → Prop) (X : World → Prop)
    (hbox : ∀ k W, I k W → Blk W z 29 #[.slice A n c] ∧ Ext w0 W) (hext : ∀ k W W', I k W → Ext W W' → I k W') :
    RoundsV Tryz.prog n0 144 #[.pointer (some ⟨z, 0, none⟩)] (fun x : Ig.Fi × List Value => #[.agg x.2.toArray]) I (fun k x W => I k W ∧ l[k]? = some x.1 ∧ FiR w0 All x.2 x.1) (fun k x W => I (k + 1) W) X n := by
  intro l' T Tx W hT hTx hY h0 hT0
  have HY := Lib.hid hY
  have HB := Lib.hid hbox
  have HVS := Lib.hid hvs
  have HE := Lib.hid hext
  have H0 := Lib.hid h0
  have HT0 := Lib.hid hT0
  have HTK := Lib.hid hT
  have HN := Lib.hid hn
  have hb0 := (hbox 0 W h0).1
  have hc0 := hb0.cell
  have hl0 := hb0.lt
  clear hY hT hTx h0 hT0 hbox hext hn hb0 hvs
  refine callsIn_of_wp Tryz.func144 rfl trivial ?_ rfl
  simp only [Tryz.ntmps144, List.size_toArray, List.length_cons, List.length_nil, Nat.reduceAdd, Nat.reduceSub, Array.replicate_succ, Array.replicate_zero, List.push_toArray, List.append_toArray, List.nil_append, List.cons_append]
  gi_wp2
  clear hc0 hl0
  gi_loopw [7] (fun u wr => ∃ k : Nat, k ≤ n ∧ u = .int .i64 (k : Int) ∧ Hid (I k wr) ∧ Hid (T wr)) (fun u wr => n - (intOf u).toNat)
  case atStart => exact ⟨0, Nat.zero_le _, rfl, H0, HT0⟩
  case round =>
    clear H0 HT0
    obtain ⟨k, hk, rfl, HI, HT⟩ := hrel
    by_cases hlt : k < n
    · have hkl : k < l.length := by rw [HN.out]; exact hlt
      have e1 : l[k]? = some (l[k]'hkl) := List.getElem?_eq_getElem hkl
      obtain ⟨b, o, cs, rfl, hbl, _, _, hr, hv⟩ := HVS.out.get e1
      generalize l[k]'hkl = f at e1 hv
      have HV := Lib.hid hv
      have E1 := Lib.hid e1
      obtain ⟨A', n', m', rfl, _, _, _⟩ := hv
      obtain ⟨hbz, hx⟩ := HB.out k wr HI.out
      have c0 : wr.cell? ⟨b, o + k * 2, none⟩ = _ := (hx.cell (p := ⟨b, _, none⟩) hbl).trans (hr 0 _ rfl)
      have c1 : wr.cell? ⟨b, o + k * 2 + 1, none⟩ = _ := (hx.cell (p := ⟨b, _, none⟩) hbl).trans (hr 1 _ rfl)
      have hblr := Nat.lt_of_lt_of_le hbl hx.size_le
      have HX1 := Lib.hid ((Ext.refl wr).alloc (.cells #[.string f.dir, .slice A' n' m'] 32))
      obtain ⟨hcr, hfr, hlr⟩ := (Blk.new' (w := wr) (g := wr.heap.size) (cs := #[.string f.dir, .slice A' n' m']) (t := 32) rfl).all
      obtain ⟨fn, tmps, assign, body, hy, hR⟩ := HY.out k (f, [.string f.dir, .slice A' n' m']) _ ⟨HE.out _ _ _ HI.out HX1.out, E1.out, HV.out⟩ (HTK.out _ _ HX1.out.keeps HT.out)
      have HR := Lib.hid hR
      clear hR e1 hkl hr hx hbz HI HT
      gi_wp2
      refine ⟨fun _ => (by omega), HR.out.mono ?_⟩
      rintro e W4 (⟨rfl, hJ, hT4⟩ | ⟨rfl, hX4, hTx4⟩)
      · have HJ := Lib.hid hJ
        have HT4 := Lib.hid hT4
        clear hJ hT4 HR hcr hfr hlr hy c0 c1
        gi_wp2
        go_roundw
        case rel => exact ⟨k + 1, by omega, rfl, HJ, HT4⟩
        case measure => simp [intOf]; omega
      · have HE := Lib.hid (⟨hX4, hTx4⟩ : _ ∧ _)
        clear hX4 hTx4 HR hcr hfr hlr hy c0 c1
        gi_wp2
        refine bodyPost_ret (results_none rfl _ _ _) rfl ?_
        exact ⟨⟨_, rfl⟩, .inr HE.out⟩
    · obtain rfl : k = n := by omega
      gi_wp2
      go_end0
      exact ⟨⟨_, rfl⟩, .inl ⟨HI.out, HT.out⟩⟩
/-- Between two rounds of the collecting. -/
def Coll (w : World) (l : List Ig.Fi) (k : Nat) (W : World) : Prop :=
  ∃ v, Blk W w.heap.size 29 #[v] ∧ OwnW 2 FiR 32 w W (w.heap.size + 1) All v (l.take k) ∧ Ext w W
theorem Coll.into {w : World} {l : List Ig.Fi} {k : Nat} {W W' : World} (h : Coll w l k W) (hx : Ext W W') : Coll w l k W' := let ⟨v, h1, h2, h3⟩ := h; ⟨v, h1.ext hx, h2.ext hx, h3.trans hx⟩
theorem Coll.steady {w : World} {l : List Ig.Fi} {B : Nat} (hB : w.heap.size ≤ B) (k : Nat) : Steady B (Coll w l k) := fun W W' row ⟨v, h1, h2, h3⟩ hg hr => by
  have ht : Turned W W' := ⟨row, hg, fun r e => (hr r e).2⟩
  exact ⟨v, h1.turned ht, h2.turned ht, Ext.steadyV w hB W W' row h3 hg hr⟩
set_option maxHeartbeats 16000000 in
set_option maxRecDepth 100000 in
theorem appendseq_in (n0 : Nat) (hn0 : 9 ≤ n0) (z : Nat) (A : Option Addr) (n c : Nat) (l : List Ig.Fi) (w : World) (hz : Blk w z 29 #[.slice A n c]) (hn : l.length = n) (hb : n ≤ 1000000) (hvs : Fis w All A l) :
    CallsIn Fence.wide n0 Tryz.prog 154 #[.slice none 0 0, .func (.func 144) #[] #[.pointer (some ⟨z, 0, none⟩)]] w (fun e w' => ∃ v, e = .returned v ∧ OwnW 2 FiR 32 w w' (w.heap.size + 1) All v l ∧ Ext w w') := by
  have HN := Lib.hid hn
  have HGV := Lib.hid (fun n1 (h1 : 3 ≤ n1) => values1_gives n1 h1 z A n c l hn (by omega) w hvs (Coll w l) (fun _ => False) (fun k W h => let ⟨v, h1, h2, h3⟩ := h; ⟨hz.ext h3, h3⟩) (fun k W W' h hx => h.into hx))
  have HC0 : Hid (Coll w l 0 (w.alloc (.cells #[.slice none 0 0] 29))) := Lib.hid ⟨_, Blk.new' rfl, OwnW.nil _ _ _ _ _ _ _, (Ext.refl w).alloc _⟩
  clear hn hvs hz
  refine callsIn_of_wp_marks Tryz.func154 rfl trivial ?_ rfl
  simp only [Tryz.ntmps154, List.size_toArray, List.length_cons, List.length_nil, Nat.reduceAdd, Nat.reduceSub, Array.replicate_succ, Array.replicate_zero, List.push_toArray, List.append_toArray, List.nil_append, List.cons_append]
  gi_wp2
  refine wpIn_range_leaveH (gf := 144) (lb := #[.pointer (some ⟨z, 0, none⟩)]) rfl (enters_of Tryz.func144 (by kernel_rfl) rfl) (encs := fun x : Ig.Fi × List Value => #[.agg x.2.toArray]) (HGV.out (n0 - 1) (by omega)) (fun _ => rfl)
    (fun k x a' W => ∃ g, Coll w l k W ∧ l[k]? = some x.1 ∧ FiR w All x.2 x.1 ∧ Blk W g 32 x.2.toArray ∧ g ≠ w.heap.size ∧ a' = { tmps := #[.slice none 0 0, .func (.func 144) #[] #[.pointer (some ⟨z, 0, none⟩)], .pointer (some ⟨w.heap.size, 0, none⟩), undef, .slice none 0 0, .pointer (some ⟨g, 0, none⟩), .func (.func 144) #[] #[.pointer (some ⟨z, 0, none⟩)], .agg x.2.toArray, undef, undef, undef, undef, undef], defers := [] })
    (fun k => Coll.steady (by simp) k) ?stA (fun k x => Coll.steady (by simp) (k + 1)) (fun _ _ _ h _ _ => h) HC0.out ?assign ?body ?done ?stop
  case stA =>
    rintro k x a' W W' row ⟨g, h1, h2, h3, h4, h5, h6⟩ hg hr
    exact ⟨g, Coll.steady (by simp) k W W' row h1 hg hr, h2, h3, h4.turned ⟨row, hg, fun r e => (hr r e).2⟩, h5, h6⟩
  case stop =>
    intro D W hD hX hK
    exact hX.elim
  case assign =>
    rintro l' k ⟨x1, cs⟩ W K ⟨hA, hx1, hf⟩ hK
    have HA := Lib.hid hA
    have HK := Lib.hid hK
    have HF := Lib.hid hf
    have HX1 := Lib.hid hx1
    obtain ⟨A', n', m', e, _, _, _⟩ := hf
    dsimp only at e
    subst e
    clear hA hK HGV HC0 hx1
    gi_wp2
    exact HK.out _ _ ((Ext.refl W).alloc _).keeps ⟨_, HA.out.into ((Ext.refl W).alloc _), HX1.out, HF.out, Blk.new' rfl, (by have := HA.out; obtain ⟨v, h1, _⟩ := this; have := h1.lt; omega), rfl⟩
  case body =>
    rintro l' k ⟨x1, cs⟩ a' W - - ⟨g, hL, hx1, hf, hbg, hne, rfl⟩
    clear HGV HC0
    dsimp only at hx1 hf hbg
    obtain ⟨v, hv, how, hx⟩ := hL
    have hkl := (List.getElem?_eq_some_iff.1 hx1).1
    have hlen : (l.take k).length = k := by rw [List.length_take]; omega
    have hkn : k < n := by rw [← HN.out]; exact hkl
    obtain ⟨i0, z0, hi0, hz0, hs0, hb0, hc0⟩ := fiInfo
    have HF := Lib.hid hf
    obtain ⟨A', n', m', rfl, _, _, _⟩ := hf
    have HSN : Hid (l.take (k + 1) = l.take k ++ [x1]) := Lib.hid (take_snoc hx1)
    have HOW := Lib.hid how
    have HV := Lib.hid hv
    have HX := Lib.hid hx
    have HLE := Lib.hid hlen
    have HMI : Hid (min k l.length = k) := Lib.hid (by omega)
    obtain ⟨hcv, hfv, hlv⟩ := hv.all
    obtain ⟨hcg, hfg, hlg⟩ := hbg.all
    have hwW : w.heap.size + 1 ≤ W.heap.size := hlv
    clear hv how hx hbg hx1 hkl hlen
    gi_wp2_with (gi_at_builtin; refine wpListIn_append_w (k := 2) (R := FiR) FiR.one w _ rfl (.tmp 8) (.tmp 10) 29 32 i0 z0 rfl Tryz.underlying29 hi0 hz0 hs0 hb0 hc0 (by decide) (w.heap.size + 1) (F := All) v (l.take k) rfl (HOW.out.ext ((Ext.refl W).alloc (.cells #[.string x1.dir, .slice A' n' m'] 32))) W.heap.size 1 [.string x1.dir, .slice A' n' m'] x1 rfl ?_ rfl HF.out ?_ ?_ ?_ ?_)
    focus
      exact Blk.range (Blk.new' (w := W) (g := W.heap.size) (cs := #[.string x1.dir, .slice A' n' m']) (t := 32) rfl) 0 [.string x1.dir, .slice A' n' m'] (fun j hj => by simp)
    focus
      rw [HLE.out]; unfold maxLen; omega
    focus
      rw [HLE.out]; omega
    focus
      simp; omega
    intro g2 cap w2 how2 hgrow
    rw [HMI.out] at how2 ⊢
    have HE := HOW.out.ext ((Ext.refl W).alloc (.cells #[.string x1.dir, .slice A' n' m'] 32))
    have hv2 : Blk w2 w.heap.size 29 #[v] := (hgrow.block w.heap.size (by simp; omega) (fun e => by have := (HE.block e.symm).1; omega)).trans ((HV.out.alloc _).eq)
    have hk2 : KeepsOthers W w2 := ((Ext.refl W).alloc _).keeps.trans (KeepsOthers.of_grownBy hgrow fun j o ej hj => by
      obtain ⟨_, cs, hb⟩ := HE.block ej
      rw [hb.eq] at hj
      cases hj
      rfl)
    have hx2 : Ext w w2 := Below.grown (HX.out.alloc _) hgrow (HX.out.alloc _).size_le (fun j e => by have := (HE.block e).1; omega)
    have HZ : Hid (KeepsOthers W (w2.setCell ⟨w.heap.size, 0, none⟩ (.slice (some ⟨g2, 0, none⟩) (k + 1) cap)) ∧ Coll w l (k + 1) (w2.setCell ⟨w.heap.size, 0, none⟩ (.slice (some ⟨g2, 0, none⟩) (k + 1) cap))) := Lib.hid
      ⟨hk2.trans (KeepsOthers.setCell _ _ _), .slice (some ⟨g2, 0, none⟩) (k + 1) cap, Blk.conv (hv2.set_ 0 (.slice (some ⟨g2, 0, none⟩) (k + 1) cap)) (by simp), by rw [HSN.out]; exact how2.kept (grownBy_setCell' _ _ _) (fun b e => by cases e; omega), Ext.setCell (p := ⟨w.heap.size, 0, none⟩) hx2 (Nat.le_refl _) _⟩
    obtain ⟨hcv2, hfv2, hlv2⟩ := hv2.all
    clear hcv hfv hlv hcg hfg hlg HE hk2 hx2 hv2 how2 hgrow
    gi_wp2
    exact HZ.out
  case done =>
    intro D W hD hI hK
    obtain ⟨v, hv, how, hx⟩ := hI
    rw [← HN.out, List.take_length] at how
    have hD2 : w.heap.size ≤ D := by simp at hD; omega
    have ht : Turned W (W.putObj D (.deferred none)) := ⟨some D, grownBy_putObj' W D _, fun r e => by cases e; exact ⟨_, hK, rfl⟩⟩
    have HO := Lib.hid (how.turned ht)
    have HX := Lib.hid (hx.putObj hD2 (.deferred none))
    have HK := Lib.hid hK
    obtain ⟨hcv, hfv, hlv⟩ := hv.all
    clear hv how hx hK HGV HC0 ht
    gi_wp2
    refine ⟨by simp, .inl ⟨_, _, rfl, run_takeDeferred HK.out, ?_⟩⟩
    refine ⟨_, results_tmp rfl _ _ _, ?_⟩
    exact ⟨v, rfl, HO.out, HX.out⟩
theorem appendseq_any (z : Nat) (A : Option Addr) (n c : Nat) (l : List Ig.Fi) (w : World) (hz : Blk w z 29 #[.slice A n c]) (hn : l.length = n) (hb : n ≤ 1000000) (hvs : Fis w All A l) :
    Calls Tryz.prog 154 #[.slice none 0 0, .func (.func 144) #[] #[.pointer (some ⟨z, 0, none⟩)]] w (fun e w' => ∃ v, e = .returned v ∧ OwnW 2 FiR 32 w w' (w.heap.size + 1) All v l ∧ Ext w w') :=
  callsIn_wide.1 (appendseq_in 9 (Nat.le_refl _) z A n c l w hz hn hb hvs)
theorem collect_any (z : Nat) (A : Option Addr) (n c : Nat) (l : List Ig.Fi) (w : World) (hz : Blk w z 29 #[.slice A n c]) (hn : l.length = n) (hb : n ≤ 1000000) (hvs : Fis w All A l) :
    Calls Tryz.prog 142 #[.func (.func 144) #[] #[.pointer (some ⟨z, 0, none⟩)]] w (fun e w' => ∃ v, e = .returned v ∧ OwnW 2 FiR 32 w w' (w.heap.size + 1) All v l ∧ Ext w w') := by
  have HA := Lib.hid (appendseq_any z A n c l w hz hn hb hvs)
  clear hz hn hvs
  go_enter Tryz.func142, Tryz.ntmps142
  go_wp2_with fail
  refine HA.out.mono ?_
  rintro e w1 ⟨v, rfl, hO, hx⟩
  have HO := Lib.hid hO
  have HX := Lib.hid hx
  clear hO hx HA
  go_wp2_with fail
  go_ret
  exact ⟨v, rfl, HO.out, HX.out⟩
end Go.Proofs.YtnjcifppkijanaaGreatDoor
