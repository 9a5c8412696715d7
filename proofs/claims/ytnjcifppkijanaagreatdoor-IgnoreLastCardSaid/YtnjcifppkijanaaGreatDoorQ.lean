/- Walks: two patches are equal. -/
import Derived.Test.YtnjcifppkijanaaGreatDoorN
import Derived.Test.YtnjcifppkijanaaGreatDoorBase
import Derived.Says
import Derived.Deep.Cut
import Derived.Deep.Quiet
import Derived.BigQuiet
set_option linter.unusedSimpArgs false
set_option linter.unusedVariables false
namespace Go.Proofs.YtnjcifppkijanaaGreatDoor
open Go.RowKit

/-- Two patches are equal, field by field. -/
def Qp.same (a b : Qp) : Bool :=
  a.kind == b.kind && (Qm.eqB a.path b.path && (Qm.eqB a.to_ b.to_ && (a.ty == b.ty && (a.at_ == b.at_ && (decide (a.old = b.old) && (decide (a.new = b.new) &&
    (a.off == b.off && (Qm.eqB a.so b.so && (Qm.eqB a.sn b.sn && (a.om == b.om && a.nm == b.nm))))))))))
theorem Qp.same_iff {a b : Qp} : a.same b = true ↔ a = b := by
  unfold Qp.same
  simp only [Bool.and_eq_true, beq_iff_eq, Qm.eqB_iff, decide_eq_true_eq]
  constructor
  · rintro ⟨h1, h2, h3, h4, h5, h6, h7, h8, h9, h10, h11, h12⟩
    cases a
    cases b
    simp_all
  · rintro rfl
    simp

end Go.Proofs.YtnjcifppkijanaaGreatDoor
