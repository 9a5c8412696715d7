/- Paths under moves, in plain Lean: two moves that have been exchanged act on every path as before. No program. New paths under moves; the functions of the model as moves of paths. Plain Lean, no program. Patches exchanged: what the exchange does to the paths. Plain Lean. Patches exchanged: paths and places. Plain Lean. Three patches brought into the opposite order in both ways: the results are equal. Plain Lean. Patches that touch nothing in common; the inverse of a valid patch. Plain Lean. -/
import Derived.Test.YtnjcifppkijanaaGreatDoorModel
import Derived.Test.YtnjcifppkijanaaGreatDoorPa
import Derived.Test.YtnjcifppkijanaaGreatDoorV
set_option linter.unusedSimpArgs false
set_option linter.unusedVariables false
namespace Go.Proofs.YtnjcifppkijanaaGreatDoor
open Go.RowKit Go.Proofs.YtnjcifppkijanaaGreatDoor.Pa

end Go.Proofs.YtnjcifppkijanaaGreatDoor
namespace Go.Proofs.YtnjcifppkijanaaGreatDoor
open Go.RowKit Go.Proofs.YtnjcifppkijanaaGreatDoor.Pa

/-- Two edits at one file exchanged: their places. -/
def Cross (p l1 l2 q m1 m2 q' p' : Int) : Prop := (p + l2 < q ∧ q' = q - (l2 - l1) ∧ p' = p) ∨ (q + m1 < p ∧ ¬ p + l2 < q ∧ q' = q ∧ p' = p + (m2 - m1))
end Go.Proofs.YtnjcifppkijanaaGreatDoor
namespace Go.Proofs.YtnjcifppkijanaaGreatDoor
open Go.RowKit Go.Proofs.YtnjcifppkijanaaGreatDoor.Pa

/-- The places of three edits. -/
theorem places {P Q R : Prop} {A B C a1 b1 c1 a2 b2 c2 x1 y1 x2 z1 y2 z2 : Int} {l1 l2 m1 m2 n1 n2 : Nat} (t1 : P → Q → R) (t2 : P → R → Q) (t3 : Q → R → P)
    (e1 : P → Cross A l1 l2 B m1 m2 b1 a1) (f1 : ¬ P → b1 = B ∧ a1 = A) (e2 : Q → Cross a1 l1 l2 C n1 n2 c1 a2) (f2 : ¬ Q → c1 = C ∧ a2 = a1) (e3 : R → Cross b1 m1 m2 c1 n1 n2 c2 b2) (f3 : ¬ R → c2 = c1 ∧ b2 = b1)
    (e4 : R → Cross B m1 m2 C n1 n2 x1 y1) (f4 : ¬ R → x1 = C ∧ y1 = B) (e5 : Q → Cross A l1 l2 x1 n1 n2 x2 z1) (f5 : ¬ Q → x2 = x1 ∧ z1 = A) (e6 : P → Cross z1 l1 l2 y1 m1 m2 y2 z2) (f6 : ¬ P → y2 = y1 ∧ z2 = z1) :
    c2 = x2 ∧ b2 = y2 ∧ a2 = z2 := by
  by_cases p : P <;> by_cases q : Q <;> by_cases r : R
  · have e1 := e1 p
    have e2 := e2 q
    have e3 := e3 r
    have e4 := e4 r
    have e5 := e5 q
    have e6 := e6 p
    unfold Cross at e1 e2 e3 e4 e5 e6
    rcases e1 with e1 | e1 <;> rcases e4 with e4 | e4 <;> rcases e2 with e2 | e2 <;> rcases e3 with e3 | e3 <;> rcases e5 with e5 | e5 <;> rcases e6 with e6 | e6 <;> omega
  · exact (r (t1 p q)).elim
  · exact (q (t2 p r)).elim
  · have e1 := e1 p
    have e6 := e6 p
    have f2 := f2 q
    have f3 := f3 r
    have f4 := f4 r
    have f5 := f5 q
    unfold Cross at e1 e6
    omega
  · exact (p (t3 q r)).elim
  · have e2 := e2 q
    have e5 := e5 q
    have f1 := f1 p
    have f3 := f3 r
    have f4 := f4 r
    have f6 := f6 p
    unfold Cross at e2 e5
    omega
  · have e3 := e3 r
    have e4 := e4 r
    have f1 := f1 p
    have f2 := f2 q
    have f5 := f5 q
    have f6 := f6 p
    unfold Cross at e3 e4
    omega
  · have f1 := f1 p
    have f2 := f2 q
    have f3 := f3 r
    have f4 := f4 r
    have f5 := f5 q
    have f6 := f6 p
    omega

end Go.Proofs.YtnjcifppkijanaaGreatDoor
namespace Go.Proofs.YtnjcifppkijanaaGreatDoor
open Go.RowKit Go.Proofs.YtnjcifppkijanaaGreatDoor.Pa

/-- The paths that a patch touches. -/
def Tc (q : Qp) (s : ByteArray) : Prop := s = q.path ∨ (q.kind = 5 ∧ s = q.to_)
/-! ### The inverse -/
end Go.Proofs.YtnjcifppkijanaaGreatDoor
