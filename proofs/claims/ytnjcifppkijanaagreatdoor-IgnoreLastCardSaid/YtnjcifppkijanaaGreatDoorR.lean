/- Walks: two changes of bytes exchanged. -/
import Derived.Test.YtnjcifppkijanaaGreatDoorP
set_option linter.unusedSimpArgs false
set_option linter.unusedVariables false
namespace Go.Proofs.YtnjcifppkijanaaGreatDoor
open Go.RowKit

/-- What the exchange of two changes of bytes makes of the results. -/
def Pv.xbytes (a b c d : Pv) : Pv × Pv × Bool :=
  if a.off + a.sn.size < b.off then ({ c with off := b.off - ((a.sn.size : Int) - a.so.size) }, d, true)
  else if b.off + b.so.size < a.off then (c, { d with off := a.off + b.sn.size - b.so.size }, true)
  else (c, d, false)
theorem Ext.grown {w w' : World} (h : Ext w w') (r : Option Nat) : w.grownBy w' r := ⟨h.os, h.tape, h.output, h.size, fun k hk _ => h.block k hk⟩
end Go.Proofs.YtnjcifppkijanaaGreatDoor
