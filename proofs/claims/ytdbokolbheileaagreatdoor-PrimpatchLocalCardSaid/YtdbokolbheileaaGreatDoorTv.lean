/- What Apply computes on plain trees, in plain Lean. No program. -/
import Derived.Test.YtdbokolbheileaaGreatDoorTm
import Derived.Test.YtdbokolbheileaaGreatDoorN
set_option linter.unusedSimpArgs false
set_option linter.unusedVariables false
namespace Go.Proofs.YtdbokolbheileaaGreatDoor
open Go Go.RowKit

namespace Qm
/-- The bytes of the text with some lines. -/
def joinL : List ByteArray → List UInt8
  | [] => []
  | x :: l => x.data.toList ++ 10 :: joinL l
def joinOf (l : List ByteArray) : ByteArray := ⟨(joinL l).toArray⟩
def joinScan : List ByteArray → Int
  | [] => 0
  | x :: l => if 1000 < x.size then 4 else if validLine x = false then 3 else joinScan l
/-- lines.Join: its error. -/
def joinErr (l : List ByteArray) : Int := if 2000 < l.length then 4 else if joinScan l ≠ 0 then joinScan l else if 65536 < (joinL l).length then 4 else 0
/-- One hunk at some lines: the error, the lines. -/
def hunkErr (at_ : Int) (old a : List ByteArray) : Int := if a.length < at_.toNat + old.length then 2 else if (a.drop at_.toNat).take old.length ≠ old then 15 else 0
def hunkOf (at_ : Int) (old new a : List ByteArray) : List ByteArray := a.take at_.toNat ++ new ++ a.drop (at_.toNat + old.length)
end Qm

/-- What an adding patch adds. -/
def Pv.file (p : Pv) : Pf := ⟨p.path, if p.kind = 3 then 4 else p.ty, p.nm, p.sn⟩
/-- What a removing patch removes. -/
def Pv.gone (p : Pv) : Pf := ⟨p.path, if p.kind = 4 then 4 else p.ty, p.om, p.so⟩
/-- A file whose mode is changed. -/
def Pv.chmod (p : Pv) (f : Pf) : Pf × Int := ({ f with mode := p.nm }, if f.ty = 4 then 8 else if f.mode ≠ p.om then 15 else 0)
/-- The data of a file whose bytes are replaced. -/
def Pv.splice (p : Pv) (f : Pf) : ByteArray × Int :=
  if f.ty ≠ 2 ∧ f.ty ≠ 3 then (⟨#[]⟩, 8)
  else if f.data.size < p.off.toNat then (⟨#[]⟩, 2)
  else if Lib.hasPrefix (f.data.extract p.off.toNat f.data.size).data.toList p.so.data.toList = false then (⟨#[]⟩, 15)
  else if 65536 < (f.data.extract 0 p.off.toNat ++ p.sn ++ f.data.extract (p.off.toNat + p.so.size) f.data.size).size then (⟨#[]⟩, 4)
  else (f.data.extract 0 p.off.toNat ++ p.sn ++ f.data.extract (p.off.toNat + p.so.size) f.data.size, 0)
/-- The data of a file whose lines are replaced. -/
def Pv.relines (p : Pv) (o n : List ByteArray) (f : Pf) : ByteArray × Int :=
  if f.ty ≠ 1 then (⟨#[]⟩, 8)
  else if Qm.splitErr f.data ≠ 0 then (⟨#[]⟩, Qm.splitErr f.data)
  else if Qm.hunkErr p.at_ o (Qm.linesOf f.data) ≠ 0 then (⟨#[]⟩, Qm.hunkErr p.at_ o (Qm.linesOf f.data))
  else if Qm.joinErr (Qm.hunkOf p.at_ o n (Qm.linesOf f.data)) ≠ 0 then (⟨#[]⟩, 4)
  else (Qm.joinOf (Qm.hunkOf p.at_ o n (Qm.linesOf f.data)), 0)

namespace Tr
/-- A file or a directory added. -/
def add (l : List Pf) (f : Pf) : List Pf × Int := if room l f.path ≠ 0 then ([], room l f.path) else if 200 ≤ l.length then ([], 4) else (putIn f l, 0)
/-- A file or a directory removed. -/
def remove (l : List Pf) (f : Pf) : List Pf × Int :=
  match find l f.path with
  | none => ([], 7)
  | some g => if g.ty ≠ f.ty then ([], 8) else if g.mode ≠ f.mode ∨ Qm.eqB g.data f.data = false then ([], 15)
    else if l.any (fun x => Qm.below x.path f.path) = true then ([], 15) else (l.filter (fun x => !Qm.eqB x.path f.path), 0)
/-- What an edit makes of a tree. -/
def edit (l : List Pf) (s : ByteArray) (h : Pf → Pf × Int) : List Pf × Int :=
  match find l s with
  | none => ([], 7)
  | some f => if (h f).2 ≠ 0 then ([], (h f).2) else (putIn (h f).1 l, 0)
end Tr
/-- What an editing patch makes of a file. -/
def Qp.edits (q : Qp) (f : Pf) : Pf × Int :=
  if q.kind = 6 then ({ f with data := ((q.pv none 0 none 0).relines q.old q.new f).1 }, ((q.pv none 0 none 0).relines q.old q.new f).2)
  else if q.kind = 7 then ({ f with data := ((q.pv none 0 none 0).splice f).1 }, ((q.pv none 0 none 0).splice f).2)
  else (q.pv none 0 none 0).chmod f
/-- primpatch.Apply. -/
def Tr.apply (l : List Pf) (q : Qp) : List Pf × Int :=
  if Tr.checkTree l ≠ 0 then ([], Tr.checkTree l)
  else if q.check ≠ 0 then ([], q.check)
  else if q.kind = 1 ∨ q.kind = 3 then Tr.add l (q.pv none 0 none 0).file
  else if q.kind = 2 ∨ q.kind = 4 then Tr.remove l (q.pv none 0 none 0).gone
  else if q.kind = 5 then Tr.move l q.path q.to_
  else Tr.edit l q.path q.edits
end Go.Proofs.YtdbokolbheileaaGreatDoor
