/-
  DERIVED: THE SHELF's CONTRACTS AT THIS DUMP, IN PLAIN WORDS (tools/lay-plain.mjs out of 'YtfmgnaigcibcaaaGreatDoorSoLay.lean', which tools/lay-shelf.mjs wrote): THE SAME DECLARATIONS UNDER THE SAME NAMES: 'import', 'namespace', 'open', 'def', 'theorem' AND NOTHING ELSE: no command of the shelf's: FOR A HAND-IN. Each laying: the table of numbers ('.._ren') and one theorem, a field a fact of the dump's own or the kernel's comparison; each contract: ONE APPLICATION.
-/
import Derived.Shelf.SlGeneric
import Derived.Ground.SlsfProg
import Derived.Shelf.SlSortCmp.NoneTotal
import Derived.Shelf.Small.Bits
import Derived.Ground.SlgnProg
import Derived.Shelf.SlicesE.Clone
import Derived.Ground.SlgfProg
import Derived.Shelf.SlicesQ.IndexFunc
import Derived.Test.YtfmgnaigcibcaaaGreatDoorProg
namespace Go.Proofs
open Go.Shelf
def Tryz.laysSort_ren : Go.Shelf.Ren := ⟨fun | 14 => 210 | 20 => 212 | 21 => 213 | 22 => 214 | 23 => 215 | 24 => 216 | 25 => 217 | 26 => 218 | 27 => 219 | 46 => 222 | 47 => 223 | 48 => 224 | 49 => 225 | 50 => 226 | 15 => 211 | 57 => 227 | 28 => 220 | 29 => 221 | n => n, fun | 24 => 61 | 22 => 22 | 3 => 3 | 25 => 193 | 4 => 4 | 0 => 0 | 46 => 208 | 45 => 207 | 50 => 191 | 66 => 216 | 39 => 165 | 55 => 215 | 70 => 220 | 76 => 222 | 77 => 223 | 53 => 170 | 5 => 5 | 9 => 9 | n => n, fun | n => n⟩
theorem Tryz.laysSort : Go.Proofs.SlLaysF0.n14 Tryz.prog Tryz.laysSort_ren := {
  mixed := by kernel_rfl
  f14 := ⟨Tryz.f210.name, by decide, Tryz.func210.trans (congrArg some (by kernel_rfl))⟩
  f15 := Tryz.func211.trans (congrArg some (by kernel_rfl))
  f20 := ⟨Tryz.f212.name, by decide, Tryz.func212.trans (congrArg some (by kernel_rfl))⟩
  f21 := ⟨Tryz.f213.name, by decide, Tryz.func213.trans (congrArg some (by kernel_rfl))⟩
  f22 := ⟨Tryz.f214.name, by decide, Tryz.func214.trans (congrArg some (by kernel_rfl))⟩
  f23 := ⟨Tryz.f215.name, by decide, Tryz.func215.trans (congrArg some (by kernel_rfl))⟩
  f24 := ⟨Tryz.f216.name, by decide, Tryz.func216.trans (congrArg some (by kernel_rfl))⟩
  f25 := ⟨Tryz.f217.name, by decide, Tryz.func217.trans (congrArg some (by kernel_rfl))⟩
  f26 := ⟨Tryz.f218.name, by decide, Tryz.func218.trans (congrArg some (by kernel_rfl))⟩
  f27 := ⟨Tryz.f219.name, by decide, Tryz.func219.trans (congrArg some (by kernel_rfl))⟩
  f28 := Tryz.func220.trans (congrArg some (by kernel_rfl))
  f29 := Tryz.func221.trans (congrArg some (by kernel_rfl))
  f46 := ⟨Tryz.f222.name, by decide, Tryz.func222.trans (congrArg some (by kernel_rfl))⟩
  f47 := Tryz.func223.trans (congrArg some (by kernel_rfl))
  f48 := Tryz.func224.trans (congrArg some (by kernel_rfl))
  f49 := ⟨Tryz.f225.name, by decide, Tryz.func225.trans (congrArg some (by kernel_rfl))⟩
  f50 := ⟨Tryz.f226.name, by decide, Tryz.func226.trans (congrArg some (by kernel_rfl))⟩
  f57 := ⟨Tryz.f227.name, by decide, Tryz.func227.trans (congrArg some (by kernel_rfl))⟩
  t0 := Tryz.underlying0
  a0 := Tryz.isAgg0
  z0 := Tryz.sizeOf0
  v0 := Tryz.zeroValue0
  t3 := Tryz.underlying3
  a3 := Tryz.isAgg3
  z3 := Tryz.sizeOf3
  v3 := Tryz.zeroValue3
  t4 := Tryz.underlying4
  a4 := Tryz.isAgg4
  z4 := Tryz.sizeOf4
  v4 := Tryz.zeroValue4
  t5 := Tryz.underlying5
  a5 := Tryz.isAgg5
  z5 := Tryz.sizeOf5
  v5 := Tryz.zeroValue5
  t9 := Tryz.underlying9
  a9 := Tryz.isAgg9
  z9 := Tryz.sizeOf9
  v9 := Tryz.zeroValue9
  t22 := Tryz.underlying22
  a22 := Tryz.isAgg22
  z22 := Tryz.sizeOf22
  v22 := Tryz.zeroValue22
  t25 := Tryz.underlying193
  a25 := Tryz.isAgg193
  z25 := Tryz.sizeOf193
  v25 := Tryz.zeroValue193
  t39 := Tryz.underlying165
  a39 := Tryz.isAgg165
  z39 := Tryz.sizeOf165
  v39 := Tryz.zeroValue165
  t45 := Tryz.underlying207
  a45 := Tryz.isAgg207
  z45 := Tryz.sizeOf207
  v45 := Tryz.zeroValue207
  t46 := Tryz.underlying208
  a46 := Tryz.isAgg208
  z46 := Tryz.sizeOf208
  v46 := Tryz.zeroValue208
  t50 := Tryz.underlying191
  a50 := Tryz.isAgg191
  z50 := Tryz.sizeOf191
  v50 := Tryz.zeroValue191
  t53 := Tryz.underlying170
  a53 := Tryz.isAgg170
  z53 := Tryz.sizeOf170
  v53 := Tryz.zeroValue170
  t55 := Tryz.underlying215
  a55 := Tryz.isAgg215
  z55 := Tryz.sizeOf215
  v55 := Tryz.zeroValue215
  t66 := Tryz.underlying216
  a66 := Tryz.isAgg216
  z66 := Tryz.sizeOf216
  v66 := Tryz.zeroValue216
  t70 := Tryz.underlying220
  a70 := Tryz.isAgg220
  z70 := Tryz.sizeOf220
  v70 := Tryz.zeroValue220
  t76 := Tryz.underlying222
  a76 := Tryz.isAgg222
  z76 := Tryz.sizeOf222
  v76 := Tryz.zeroValue222
  t77 := Tryz.underlying223
  a77 := Tryz.isAgg223
  z77 := Tryz.sizeOf223
  v77 := Tryz.zeroValue223 }
def Tryz.laysLen_ren : Go.Shelf.Ren := ⟨fun | 125 => 211 | 128 => 220 | 129 => 221 | n => n, fun | 46 => 165 | 3 => 3 | 51 => 170 | 53 => 215 | 4 => 4 | 5 => 5 | 9 => 9 | n => n, fun | n => n⟩
theorem Tryz.laysLen : Go.Proofs.Lays.n125 Tryz.prog Tryz.laysLen_ren := {
  mixed := by kernel_rfl
  f125 := Tryz.func211.trans (congrArg some (by kernel_rfl))
  f128 := Tryz.func220.trans (congrArg some (by kernel_rfl))
  f129 := Tryz.func221.trans (congrArg some (by kernel_rfl))
  t3 := Tryz.underlying3
  a3 := Tryz.isAgg3
  z3 := Tryz.sizeOf3
  v3 := Tryz.zeroValue3
  t4 := Tryz.underlying4
  a4 := Tryz.isAgg4
  z4 := Tryz.sizeOf4
  v4 := Tryz.zeroValue4
  t5 := Tryz.underlying5
  a5 := Tryz.isAgg5
  z5 := Tryz.sizeOf5
  v5 := Tryz.zeroValue5
  t9 := Tryz.underlying9
  a9 := Tryz.isAgg9
  z9 := Tryz.sizeOf9
  v9 := Tryz.zeroValue9
  t46 := Tryz.underlying165
  a46 := Tryz.isAgg165
  z46 := Tryz.sizeOf165
  v46 := Tryz.zeroValue165
  t51 := Tryz.underlying170
  a51 := Tryz.isAgg170
  z51 := Tryz.sizeOf170
  v51 := Tryz.zeroValue170
  t53 := Tryz.underlying215
  a53 := Tryz.isAgg215
  z53 := Tryz.sizeOf215
  v53 := Tryz.zeroValue215 }
def Tryz.laysClone_ren : Go.Shelf.Ren := ⟨fun | 41 => 185 | n => n, fun | 22 => 23 | 23 => 61 | 4 => 4 | n => n, fun | n => n⟩
theorem Tryz.laysClone : Go.Proofs.SlLaysE0.n41 Tryz.prog Tryz.laysClone_ren := {
  mixed := by kernel_rfl
  f41 := ⟨Tryz.f185.name, by decide, Tryz.func185.trans (congrArg some (by kernel_rfl))⟩
  t4 := Tryz.underlying4
  a4 := Tryz.isAgg4
  z4 := Tryz.sizeOf4
  v4 := Tryz.zeroValue4
  t22 := Tryz.underlying23
  a22 := Tryz.isAgg23
  z22 := Tryz.sizeOf23
  v22 := Tryz.zeroValue23 }
def Tryz.laysIndex_ren : Go.Shelf.Ren := ⟨fun | 6 => 192 | n => n, fun | 22 => 23 | 23 => 61 | 25 => 190 | 3 => 3 | 0 => 0 | 4 => 4 | n => n, fun | n => n⟩
theorem Tryz.laysIndex : Go.Proofs.SlLaysH0.n6 Tryz.prog Tryz.laysIndex_ren := {
  mixed := by kernel_rfl
  f6 := ⟨Tryz.f192.name, by decide, Tryz.func192.trans (congrArg some (by kernel_rfl))⟩
  t0 := Tryz.underlying0
  a0 := Tryz.isAgg0
  z0 := Tryz.sizeOf0
  v0 := Tryz.zeroValue0
  t3 := Tryz.underlying3
  a3 := Tryz.isAgg3
  z3 := Tryz.sizeOf3
  v3 := Tryz.zeroValue3
  t4 := Tryz.underlying4
  a4 := Tryz.isAgg4
  z4 := Tryz.sizeOf4
  v4 := Tryz.zeroValue4
  t22 := Tryz.underlying23
  a22 := Tryz.isAgg23
  z22 := Tryz.sizeOf23
  v22 := Tryz.zeroValue23
  t25 := Tryz.underlying190
  a25 := Tryz.isAgg190
  z25 := Tryz.sizeOf190
  v25 := Tryz.zeroValue190 }
end Go.Proofs
