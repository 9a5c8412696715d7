/-
  DERIVED: THE SHELF's CONTRACTS AT THIS DUMP, IN PLAIN WORDS (tools/lay-plain.mjs out of 'YtojfgidoobgcaaaGreatDoorSdLay.lean', which tools/lay-shelf.mjs wrote): THE SAME DECLARATIONS UNDER THE SAME NAMES: 'import', 'namespace', 'open', 'def', 'theorem' AND NOTHING ELSE: no command of the shelf's: FOR A HAND-IN. Each laying: the table of numbers ('.._ren') and one theorem, a field a fact of the dump's own or the kernel's comparison; each contract: ONE APPLICATION.
-/
import Derived.Shelf.SlGeneric
import Derived.Ground.SlgfProg
import Derived.Shelf.SlicesE.DeleteFunc
import Derived.Ground.SlsoProg
import Derived.Shelf.SlSorted.IsSorted
import Derived.Test.YtojfgidoobgcaaaGreatDoorProg
namespace Go.Proofs
open Go.Shelf
def Tryz.laysDel_ren : Go.Shelf.Ren := ⟨fun | 10 => 22 | 6 => 48 | n => n, fun | 22 => 30 | 23 => 9 | 25 => 42 | 3 => 3 | 4 => 4 | 0 => 0 | n => n, fun | n => n⟩
theorem Tryz.laysDel : Go.Proofs.SlLaysH.n10 Tryz.prog Tryz.laysDel_ren := {
  mixed := by kernel_rfl
  f6 := ⟨Tryz.f48.name, by decide, Tryz.func48.trans (congrArg some (by kernel_rfl))⟩
  f10 := ⟨Tryz.f22.name, by decide, Tryz.func22.trans (congrArg some (by kernel_rfl))⟩
  t0 := Tryz.underlying0
  a0 := Tryz.isAgg0
  z0 := Tryz.sizeOf0
  v0 := Tryz.zeroValue0
  t3 := Tryz.underlying3
  a3 := Tryz.isAgg3
  z3 := Tryz.sizeOf3
  v3 := Tryz.zeroValue3
  t4 := Tryz.underlying4
  a4 := Tryz.isAgg4
  z4 := Tryz.sizeOf4
  v4 := Tryz.zeroValue4
  t22 := Tryz.underlying30
  a22 := Tryz.isAgg30
  z22 := Tryz.sizeOf30
  v22 := Tryz.zeroValue30
  a23 := Tryz.isAgg9
  z23 := Tryz.sizeOf9
  t25 := Tryz.underlying42
  a25 := Tryz.isAgg42
  z25 := Tryz.sizeOf42
  v25 := Tryz.zeroValue42 }
def Tryz.laysSorted_ren : Go.Shelf.Ren := ⟨fun | 11 => 24 | 19 => 49 | 25 => 78 | n => n, fun | 25 => 30 | 27 => 9 | 4 => 4 | 3 => 3 | 0 => 0 | n => n, fun | n => n⟩
theorem Tryz.laysSorted : Go.Proofs.SlLaysO.n11 Tryz.prog Tryz.laysSorted_ren := {
  mixed := by kernel_rfl
  f11 := ⟨Tryz.f24.name, by decide, Tryz.func24.trans (congrArg some (by kernel_rfl))⟩
  f19 := ⟨Tryz.f49.name, by decide, Tryz.func49.trans (congrArg some (by kernel_rfl))⟩
  f25 := ⟨Tryz.f78.name, by decide, Tryz.func78.trans (congrArg some (by kernel_rfl))⟩
  t0 := Tryz.underlying0
  a0 := Tryz.isAgg0
  z0 := Tryz.sizeOf0
  v0 := Tryz.zeroValue0
  t3 := Tryz.underlying3
  a3 := Tryz.isAgg3
  z3 := Tryz.sizeOf3
  v3 := Tryz.zeroValue3
  t4 := Tryz.underlying4
  a4 := Tryz.isAgg4
  z4 := Tryz.sizeOf4
  v4 := Tryz.zeroValue4
  t25 := Tryz.underlying30
  a25 := Tryz.isAgg30
  z25 := Tryz.sizeOf30
  v25 := Tryz.zeroValue30
  t27 := Tryz.underlying9
  a27 := Tryz.isAgg9
  z27 := Tryz.sizeOf9
  v27 := Tryz.zeroValue9 }
end Go.Proofs
