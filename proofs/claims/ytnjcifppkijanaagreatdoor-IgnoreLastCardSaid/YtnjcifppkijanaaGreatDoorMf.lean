/- Two patches of the same tree merged; operations taken first. No condition. -/
import Derived.Test.YtnjcifppkijanaaGreatDoorW
import Derived.Test.YtnjcifppkijanaaGreatDoorHeld
import Derived.Test.YtnjcifppkijanaaGreatDoorAp
set_option linter.unusedSimpArgs false
set_option linter.unusedVariables false
namespace Go.Proofs.YtnjcifppkijanaaGreatDoor
open Go.RowKit
attribute [local go_sem ↓] Go.wp_at_zero Go.wp_at_succ

section
variable {P : Program} {ops : Array Oper} {Q : Exit → Act → World → Prop} {md : Region.Mode} {S : World → Prop}
/-- An operation that yields whatever the world. -/
theorem take_free {i : Nat} {oi : Oper} {v : Value} {fuel : Nat} {listed : Array Bool} {a : Act} {w : World} {d : Tmp} (hi : ops[i]? = some oi) (hd : oi.dst = some d) (hw : Region.wanted oi (yielded ops a.tmps) = true)
    (hs : Region.noSelect ops = true) (hf : Region.free md ops listed i = true) (hr : (Region.ready md ops listed).contains i = true)
    (hy : ∀ w, (execOp a.eval oi).run P w = .ok (.value v) w) (hS : S w)
    (h : wpAnyH P md ops (NoPanic Q) S fuel (listed.setIfInBounds i true) (a.put (some d) v) w) : wpAnyH P md ops (NoPanic Q) S (fuel + 1) listed a w :=
  take_any hi hd hs hf hr (.inl ⟨hw, fun w _ => hy w⟩) hS h
end

end Go.Proofs.YtnjcifppkijanaaGreatDoor
