/-
  DERIVED: THE SHELF's CONTRACTS AT THIS DUMP, IN PLAIN WORDS (tools/lay-plain.mjs out of 'YtojfgidoobgcaaaGreatDoorScLay.lean', which tools/lay-shelf.mjs wrote): THE SAME DECLARATIONS UNDER THE SAME NAMES: 'import', 'namespace', 'open', 'def', 'theorem' AND NOTHING ELSE: no command of the shelf's: FOR A HAND-IN. Each laying: the table of numbers ('.._ren') and one theorem, a field a fact of the dump's own or the kernel's comparison; each contract: ONE APPLICATION.
-/
import Derived.Shelf.SlGeneric
import Derived.Ground.SlgnProg
import Derived.Shelf.SlicesE.Clone
import Derived.Ground.SlgfProg
import Derived.Shelf.SlicesQ.IndexFunc
import Derived.Test.YtojfgidoobgcaaaGreatDoorProg
namespace Go.Proofs
open Go.Shelf
def Tryz.laysCloneV_ren : Go.Shelf.Ren := ⟨fun | 41 => 20 | n => n, fun | 22 => 26 | 23 => 39 | 4 => 4 | n => n, fun | n => n⟩
theorem Tryz.laysCloneV : Go.Proofs.SlLaysE0.n41 Tryz.prog Tryz.laysCloneV_ren := {
  mixed := by kernel_rfl
  f41 := ⟨Tryz.f20.name, by decide, Tryz.func20.trans (congrArg some (by kernel_rfl))⟩
  t4 := Tryz.underlying4
  a4 := Tryz.isAgg4
  z4 := Tryz.sizeOf4
  v4 := Tryz.zeroValue4
  t22 := Tryz.underlying26
  a22 := Tryz.isAgg26
  z22 := Tryz.sizeOf26
  v22 := Tryz.zeroValue26 }
def Tryz.laysCloneR_ren : Go.Shelf.Ren := ⟨fun | 41 => 68 | n => n, fun | 22 => 22 | 23 => 28 | 4 => 4 | n => n, fun | n => n⟩
theorem Tryz.laysCloneR : Go.Proofs.SlLaysE0.n41 Tryz.prog Tryz.laysCloneR_ren := {
  mixed := by kernel_rfl
  f41 := ⟨Tryz.f68.name, by decide, Tryz.func68.trans (congrArg some (by kernel_rfl))⟩
  t4 := Tryz.underlying4
  a4 := Tryz.isAgg4
  z4 := Tryz.sizeOf4
  v4 := Tryz.zeroValue4
  t22 := Tryz.underlying22
  a22 := Tryz.isAgg22
  z22 := Tryz.sizeOf22
  v22 := Tryz.zeroValue22 }
def Tryz.laysIndexR_ren : Go.Shelf.Ren := ⟨fun | 6 => 88 | n => n, fun | 22 => 22 | 23 => 28 | 25 => 40 | 3 => 3 | 0 => 0 | 4 => 4 | n => n, fun | n => n⟩
theorem Tryz.laysIndexR : Go.Proofs.SlLaysH0.n6 Tryz.prog Tryz.laysIndexR_ren := {
  mixed := by kernel_rfl
  f6 := ⟨Tryz.f88.name, by decide, Tryz.func88.trans (congrArg some (by kernel_rfl))⟩
  t0 := Tryz.underlying0
  a0 := Tryz.isAgg0
  z0 := Tryz.sizeOf0
  v0 := Tryz.zeroValue0
  t3 := Tryz.underlying3
  a3 := Tryz.isAgg3
  z3 := Tryz.sizeOf3
  v3 := Tryz.zeroValue3
  t4 := Tryz.underlying4
  a4 := Tryz.isAgg4
  z4 := Tryz.sizeOf4
  v4 := Tryz.zeroValue4
  t22 := Tryz.underlying22
  a22 := Tryz.isAgg22
  z22 := Tryz.sizeOf22
  v22 := Tryz.zeroValue22
  t25 := Tryz.underlying40
  a25 := Tryz.isAgg40
  z25 := Tryz.sizeOf40
  v25 := Tryz.zeroValue40 }
def Tryz.laysIndexV_ren : Go.Shelf.Ren := ⟨fun | 6 => 62 | n => n, fun | 22 => 26 | 23 => 39 | 25 => 64 | 3 => 3 | 0 => 0 | 4 => 4 | n => n, fun | n => n⟩
theorem Tryz.laysIndexV : Go.Proofs.SlLaysH0.n6 Tryz.prog Tryz.laysIndexV_ren := {
  mixed := by kernel_rfl
  f6 := ⟨Tryz.f62.name, by decide, Tryz.func62.trans (congrArg some (by kernel_rfl))⟩
  t0 := Tryz.underlying0
  a0 := Tryz.isAgg0
  z0 := Tryz.sizeOf0
  v0 := Tryz.zeroValue0
  t3 := Tryz.underlying3
  a3 := Tryz.isAgg3
  z3 := Tryz.sizeOf3
  v3 := Tryz.zeroValue3
  t4 := Tryz.underlying4
  a4 := Tryz.isAgg4
  z4 := Tryz.sizeOf4
  v4 := Tryz.zeroValue4
  t22 := Tryz.underlying26
  a22 := Tryz.isAgg26
  z22 := Tryz.sizeOf26
  v22 := Tryz.zeroValue26
  t25 := Tryz.underlying64
  a25 := Tryz.isAgg64
  z25 := Tryz.sizeOf64
  v25 := Tryz.zeroValue64 }
def Tryz.laysIndexA_ren : Go.Shelf.Ren := ⟨fun | 6 => 83 | n => n, fun | 22 => 55 | 23 => 49 | 25 => 50 | 3 => 3 | 0 => 0 | 4 => 4 | n => n, fun | n => n⟩
theorem Tryz.laysIndexA : Go.Proofs.SlLaysH0.n6 Tryz.prog Tryz.laysIndexA_ren := {
  mixed := by kernel_rfl
  f6 := ⟨Tryz.f83.name, by decide, Tryz.func83.trans (congrArg some (by kernel_rfl))⟩
  t0 := Tryz.underlying0
  a0 := Tryz.isAgg0
  z0 := Tryz.sizeOf0
  v0 := Tryz.zeroValue0
  t3 := Tryz.underlying3
  a3 := Tryz.isAgg3
  z3 := Tryz.sizeOf3
  v3 := Tryz.zeroValue3
  t4 := Tryz.underlying4
  a4 := Tryz.isAgg4
  z4 := Tryz.sizeOf4
  v4 := Tryz.zeroValue4
  t22 := Tryz.underlying55
  a22 := Tryz.isAgg55
  z22 := Tryz.sizeOf55
  v22 := Tryz.zeroValue55
  t25 := Tryz.underlying50
  a25 := Tryz.isAgg50
  z25 := Tryz.sizeOf50
  v25 := Tryz.zeroValue50 }
end Go.Proofs
