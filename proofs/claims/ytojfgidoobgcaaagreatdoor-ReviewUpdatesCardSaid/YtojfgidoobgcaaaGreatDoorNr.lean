/- What the base texts had been rid of. -/
import Derived.Test.YtojfgidoobgcaaaGreatDoorL
import Derived.Test.YtojfgidoobgcaaaGreatDoorHeld
import Derived.Test.YtojfgidoobgcaaaGreatDoorMf
import Derived.Test.YtojfgidoobgcaaaGreatDoorNc
import Derived.Below
import Derived.BigQuiet
import Derived.Deep.Quiet
import Derived.Lib.Hide
import Derived.StillTail
import Derived.WalkKit
import Derived.WalkLawsBesides
import Derived.WalkSpells
set_option linter.unusedSimpArgs false
set_option linter.unusedVariables false
namespace Go.Proofs.YtojfgidoobgcaaaGreatDoor
open Go Go.RowKit

section
variable {P : Program} {ops : Array Oper} {md : Region.Mode} {C : World → Prop}

/-- Exactly f operations come up, each below n and quiet; then L holds. -/
def HeadQ (P : Program) (md : Region.Mode) (ops : Array Oper) (C : World → Prop) (n : Nat) (L : Array Bool → Act → Prop) : Nat → Array Bool → Act → Prop
  | 0, listed, a => L listed a
  | f + 1, listed, a => Region.ready md ops listed ≠ [] ∧ ∀ i ∈ Region.ready md ops listed, i < n ∧ qOp P ops C i (HeadQ P md ops C n L f (listed.setIfInBounds i true)) a

theorem any_of_headQ {n g : Nat} {L : Array Bool → Act → Prop} {Q : Exit → Act → World → Prop} (hL : ∀ listed a w, C w → L listed a → wpAny P md ops Q g listed a w) :
    ∀ (f : Nat) (listed : Array Bool) (a : Act) (w : World), C w → HeadQ P md ops C n L f listed a → wpAny P md ops Q (g + f) listed a w := by
  intro f
  induction f with
  | zero => intro listed a w hw h; exact hL _ _ _ hw h
  | succ f ih =>
    intro listed a w hw h
    exact ⟨fun h0 => (h.1 h0).elim, fun i hi => wpOp_of_qOp hw (fun a' w' hw' h' => ih _ a' w' hw' h') (h.2 i hi).2⟩

/-- While something of the head has not come up, only the head may come up. -/
theorem headQ_only {n i : Nat} {listed : Array Bool} (hs : Region.sinkB md ops n = true) (hc : Region.chainB md ops n = true) (hn : n < ops.size) (inv : HeadInv md ops n listed)
    (hin : i < n) (hun : listed.getD i true = false) {j : Nat} (hj : j ∈ Region.ready md ops listed) : j < n := by
  refine Nat.lt_of_not_le fun h => ?_
  exact tail_waits hs hc hn inv _ i rfl hin hun j h hj

theorem headQ_first {n i : Nat} {oi : Oper} {v : Value} {L : Array Bool → Act → Prop} (hi : ops[i]? = some oi) (hsel : ∀ (j : Nat) (o : Oper) cs b, ops[j]? = some o → o.op ≠ .select cs b)
    (hs : Region.sinkB md ops n = true) (hc : Region.chainB md ops n = true) (hn : n < ops.size) (hin : i < n)
    (hL : ∀ listed a, L listed a → ∀ j ∈ Region.ready md ops listed, n ≤ j) (f : Nat) :
    ∀ (listed : Array Bool) (a : Act), HeadInv md ops n listed →
      (∀ j oj, ops[j]? = some oj → j ≠ i → listed.getD j true = false → (∀ e ∈ oj.after, Region.binds md e = true → e.on ≠ i) → oi.apart ops oj = true) →
      i ∈ Region.ready md ops listed → YieldsIn P ops C oi v a →
      HeadQ P md ops C n L f (listed.setIfInBounds i true) (a.put oi.dst v) → HeadQ P md ops C n L (f + 1) listed a := by
  induction f with
  | zero =>
    intro listed a inv _ hr hy H
    have only := fun j (hj : j ∈ Region.ready md ops listed) => headQ_only hs hc hn inv hin (mem_ready.1 hr).1 hj
    refine ⟨List.ne_nil_of_mem hr, fun j hj => ⟨only j hj, ?_⟩⟩
    rcases Nat.decEq j i with hne | rfl
    · have h1 := hL _ _ H j (ready_mono hj hne)
      have h2 := only j hj
      omega
    · exact hy.qOp hi H
  | succ f ih =>
    intro listed a inv apart hr hy H
    have only := fun j (hj : j ∈ Region.ready md ops listed) => headQ_only hs hc hn inv hin (mem_ready.1 hr).1 hj
    refine ⟨List.ne_nil_of_mem hr, fun j hj => ⟨only j hj, ?_⟩⟩
    rcases Nat.decEq j i with hne | rfl
    · have hun := (mem_ready.1 hr).1
      obtain ⟨hjun, oj, hoj, hall⟩ := mem_ready.1 hj
      have hnot : ∀ e ∈ oj.after, Region.binds md e = true → e.on ≠ i := by
        intro e he hb heq
        have h1 := hall e he hb
        rw [heq, getD_both hun] at h1
        cases h1
      have step := qOp_put hoj (apart j oj hoj hne hjun hnot) (fun cs b => hsel i oi cs b hi) (fun cs b => hsel j oj cs b hoj) hy (H.2 j (ready_mono hj hne)).2
      refine qOp_mono (fun a' h3 => ?_) step
      refine ih _ a' (inv.set hj (only j hj)) ?_ (ready_mono hr (Ne.symm hne)) h3.1 ?_
      · intro k ok hk hki hku hkn
        refine apart k ok hk hki ?_ hkn
        rcases Nat.decEq j k with hjk | rfl
        · rwa [getD_set_ne true hjk] at hku
        · exact hjun
      · rw [Array.setIfInBounds_comm _ _ hne]
        exact h3.2
    · exact hy.qOp hi H

theorem headQ_lex {n g : Nat} {Q : Act → Prop} (hsel : Region.noSelect ops = true) (hs : Region.sinkB md ops n = true) (hc : Region.chainB md ops n = true) (hn : n < ops.size) (l : List Oper) :
    ∀ (k : Nat) (listed : Array Bool) (a : Act), (∀ j, j < l.length → l[j]? = ops[k + j]?) → k + l.length = n → HeadInv md ops n listed →
    Region.lexHead md ops g l.length k listed = true → wpQuiet P ops C Q l a →
    HeadQ P md ops C n (fun listed' a' => Region.seqB md ops g n listed' = true ∧ Q a') l.length listed a := by
  induction l with
  | nil =>
    intro k listed a _ hk _ hB h
    obtain rfl : k = n := by simpa using hk
    exact ⟨by simpa [Region.lexHead] using hB, h⟩
  | cons o l ih =>
    intro k listed a hl hk inv hB h
    have h0 : ops[k]? = some o := by simpa using (hl 0 (by simp)).symm
    simp only [List.length_cons] at hk
    simp only [List.length_cons, Region.lexHead, Bool.and_eq_true] at hB
    have hr : k ∈ Region.ready md ops listed := by simpa using hB.1.1
    have hq : qOp P ops C k (wpQuiet P ops C Q l) a := by unfold qOp; simp only [h0]; exact h
    obtain ⟨v, hy, hK⟩ := yieldsIn_of_qOp h0 hq
    refine headQ_first h0 (Region.noSelect_spec hsel) hs hc hn (by omega) (fun _ _ hL => seqB_ready hL.1) l.length listed a inv (Region.free_spec h0 hB.1.2) hr hy ?_
    refine ih (k + 1) _ _ (fun j hj => ?_) (by omega) (inv.set hr (by omega)) hB.2 hK
    have := hl (j + 1) (by simp; omega)
    simpa [Nat.add_assoc, Nat.add_comm 1 j] using this

/-- **One walk of the text's order**: the first n operations quiet in the class; the others, which come one after the other, as an ordinary list, from every world of the class. -/
theorem wp_region_quiet_tail {id : Nat} {Q : Exit → Act → World → Prop} {a : Act} {w : World} {l : List Oper} (n : Nat) (C : World → Prop) (hm : P.follows .mixedOrders = true)
    (hB : Region.lexTailB .any l.toArray n = true) (hC : C { w with drawn := w.drawn + 1 })
    (h : wpQuiet P l.toArray C (fun a' => ∀ w', C w' → wpList P l.toArray Q (l.drop n) a' w') (l.take n) a) : (Code.region id l.toArray true).wp P Q a w := by
  simp only [Region.lexTailB, Bool.and_eq_true, decide_eq_true_eq] at hB
  obtain ⟨⟨⟨⟨hsel, hn⟩, hs⟩, hc⟩, hlex⟩ := hB
  have hnl : n < l.length := by simpa using hn
  have htake : (l.take n).length = n := by rw [List.length_take]; omega
  have hdrop : (l.drop n).length = l.toArray.size - n := by simp
  have inv0 : HeadInv .any l.toArray n (Array.replicate l.toArray.size false) := by
    refine ⟨by simp, fun j oj _ hl => ?_, fun t _ ht => getD_in (by simpa using ht) (getD_replicate_false _ _)⟩
    rw [getD_replicate_false] at hl
    cases hl
  have H := headQ_lex (P := P) (md := .any) (C := C) (g := l.toArray.size - n) hsel hs hc hn (l.take n) 0 _ a
    (fun j hj => by rw [htake] at hj; simp [hj]) (by simpa using htake) inv0 (by rw [htake]; exact hlex) h
  refine wp_region_any hm ?_
  have key := any_of_headQ (Q := Q) (g := l.toArray.size - n) (fun listed a' w' hw' hL => by
    have := wpAny_of_seq (md := .any) (Q' := Q) (l.drop n) n listed a' w' (fun j => by simp [List.getElem?_drop]) (by rw [hdrop]; exact hL.1) (hL.2 w' hw')
    rwa [hdrop] at this) _ _ _ _ hC H
  rw [htake, show l.toArray.size - n + n = l.toArray.size by omega] at key
  exact key

/-- The same where every operation is quiet. -/
theorem wp_region_quiet_all {id : Nat} {Q : Exit → Act → World → Prop} {a : Act} {w : World} {l : List Oper} (C : World → Prop) (hm : P.follows .mixedOrders = true)
    (hB : Region.lexB .any l.toArray = true) (hC : C { w with drawn := w.drawn + 1 })
    (h : wpQuiet P l.toArray C (fun a' => ∀ w', C w' → Q .normal a' w') l a) : (Code.region id l.toArray true).wp P Q a w :=
  wp_region_quiet (C := C) hm hB hC (by simpa using h)

end

theorem Ext.cellAt {w w' : World} (h : Ext w w') (b : Nat) (hb : b < w.heap.size) : ∀ o, w'.cell? ⟨b, o, none⟩ = w.cell? ⟨b, o, none⟩ := fun o => h.cell (p := ⟨b, o, none⟩) hb
theorem Ext.frozenAt {w w' : World} (h : Ext w w') (b : Nat) (hb : b < w.heap.size) : ∀ o, w'.frozen? ⟨b, o, none⟩ = w.frozen? ⟨b, o, none⟩ := fun o => h.frozen (p := ⟨b, o, none⟩) hb

section
variable {w w' : World} {g : Nat} {t : TypeId} {cs : Array Value}
end

/-- One operation of the quiet walk, its value found on the way. -/
theorem quiet_at {P : Program} {o : Oper} {a : Act} {C : World → Prop} {K : Act → Prop} {v : Value} (h1 : ∀ w, C w → Oper.quietUpon P C w v ((execOp a.eval o).run P w)) (h2 : K (a.put o.dst v)) : o.quiet P a C K := ⟨v, h1, h2⟩
theorem wp_region_ext {P : Program} {id : Nat} {Q : Exit → Act → World → Prop} {a : Act} {w : World} {l : List Oper} (hm : P.follows .mixedOrders = true)
    (hB : Region.lexB .any l.toArray = true) (h : wpQuiet P l.toArray (Ext w) (fun a' => ∀ w', Ext w w' → Q .normal a' w') l a) : (Code.region id l.toArray true).wp P Q a w :=
  wp_region_quiet_all (Ext w) hm hB (Ext.drew w) h
theorem wp_region_ext_tail {P : Program} {id : Nat} {Q : Exit → Act → World → Prop} {a : Act} {w : World} {l : List Oper} (n : Nat) (hm : P.follows .mixedOrders = true)
    (hB : Region.lexTailB .any l.toArray n = true) (h : wpQuiet P l.toArray (Ext w) (fun a' => ∀ w', Ext w w' → wpList P l.toArray Q (l.drop n) a' w') (l.take n) a) : (Code.region id l.toArray true).wp P Q a w :=
  wp_region_quiet_tail n (Ext w) hm hB (Ext.drew w) h
/-- What a call owes in the quiet walk. -/
theorem quiet_call {P : Program} {f : FuncId} {args : Array Value} {w w' : World} {v : Value} {R : Ending → World → Prop} (hw : Ext w w') (h : Calls P f args w' R) (hR : ∀ e w'', R e w'' → e = .returned v ∧ Ext w' w'') :
    Calls P f args w' fun e w'' => e = .returned v ∧ Ext w w'' := h.mono fun e w'' hh => ⟨(hR e w'' hh).1, hw.trans (hR e w'' hh).2⟩

/-- A call in the class: the callee's contract, from whatever world of the class. -/
theorem calls_ext {P : Program} {f : FuncId} {args : Array Value} {w w' : World} {v : Value} (hw : Ext w w') (h : Calls P f args w' fun e w'' => e = .returned v ∧ Ext w' w'') :
    Calls P f args w' fun e w'' => e = .returned v ∧ Ext w w'' := h.mono fun _ _ ⟨he, hx⟩ => ⟨he, hw.trans hx⟩
open Go.RowKit

/-- What a later world keeps, as rules of the walk. -/
theorem bcell {W w1 : World} (hb : Ext W w1) : (∀ b o, b < W.heap.size → w1.cell? ⟨b, o, none⟩ = W.cell? ⟨b, o, none⟩) ∧ (∀ b o, b < W.heap.size → w1.frozen? ⟨b, o, none⟩ = W.frozen? ⟨b, o, none⟩) :=
  ⟨fun b o h => hb.cell (p := ⟨b, o, none⟩) h, fun b o h => hb.frozen (p := ⟨b, o, none⟩) h⟩

theorem Ret.bcell {v : Value} {w w' : World} {e : Ending} (h : Ret v w e w') : e = .returned v ∧ Ext w w' := h

def Hv.shift (h : Hv) (d : Int) : Hv := { h with at_ := h.at_ + d }
def Hv.growth (h : Hv) : Int := (h.n2 : Int) - h.n1

end Go.Proofs.YtojfgidoobgcaaaGreatDoor
