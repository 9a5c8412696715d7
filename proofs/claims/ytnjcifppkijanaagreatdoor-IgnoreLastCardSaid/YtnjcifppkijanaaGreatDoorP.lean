/- Walks: the tests of an exchange. -/
import Derived.Test.YtnjcifppkijanaaGreatDoorN
import Derived.Test.YtnjcifppkijanaaGreatDoorBase
import Derived.Test.YtnjcifppkijanaaGreatDoorShelf
set_option linter.unusedSimpArgs false
set_option linter.unusedVariables false
namespace Go.Proofs.YtnjcifppkijanaaGreatDoor
open Go.RowKit

def Qm.xmoves (ak : Int) (at_ : ByteArray) (bk : Int) (bp : ByteArray) : Bool := ak != 5 || (bk != 5 || !Qm.eqB at_ bp)

def Qm.xempty (bk ak : Int) (ap cp : ByteArray) : Bool := bk != 4 || (!Qm.frees ak || !Qm.below ap cp)

def Qm.news (k : Int) (p t : ByteArray) (k' : Int) (p' t' : ByteArray) : Bool :=
  !(Qm.newPath k p t).2 || (!(Qm.newPath k' p' t').2 || !Qm.eqB (Qm.newPath k p t).1 (Qm.newPath k' p' t').1)

def Qm.xfree (a b c d : Pv) : Bool :=
  !((Qm.newPath c.kind c.path c.to_).2 && Qm.frees a.kind && Qm.eqB (Qm.newPath c.kind c.path c.to_).1 a.path) &&
    (Qm.news a.kind a.path a.to_ b.kind b.path b.to_ && Qm.news d.kind d.path d.to_ c.kind c.path c.to_)

end Go.Proofs.YtnjcifppkijanaaGreatDoor
