/-
  DERIVED: THE SHELF's CONTRACTS AT THIS DUMP, IN PLAIN WORDS (tools/lay-plain.mjs out of 'TrydSort.lean', which tools/lay-shelf.mjs wrote): THE SAME DECLARATIONS UNDER THE SAME NAMES: 'import', 'namespace', 'open', 'def', 'theorem' AND NOTHING ELSE: no command of the shelf's: FOR A HAND-IN. Each laying: the table of numbers ('.._ren') and one theorem, a field a fact of the dump's own or the kernel's comparison; each contract: ONE APPLICATION.
-/
import Derived.Shelf.SlGeneric
import Derived.Ground.SlgmProg
import Derived.Ground.SlgnProg
import Derived.Shelf.SortM.Plain
import Derived.Shelf.SortM.SortNone
import Derived.Shelf.SlicesG.CompactI
import Derived.Shelf.SlicesG.SearchI
import Derived.Shelf.SlicesG.Delete
import Derived.Test.YtfcaebceklhbkaaDoorProg
namespace Go.Proofs
open Go.Shelf
def Tryd.lsort_ren : Go.Shelf.Ren := ⟨fun | 5 => 39 | 8 => 56 | 7 => 55 | 19 => 74 | 20 => 75 | 10 => 65 | 11 => 66 | 12 => 67 | 13 => 68 | 14 => 69 | 15 => 70 | 16 => 71 | 17 => 72 | 18 => 73 | 30 => 83 | 31 => 84 | 32 => 85 | 33 => 86 | 34 => 87 | 35 => 88 | 40 => 93 | n => n, fun | 23 => 22 | 25 => 2 | 3 => 3 | 32 => 119 | 22 => 22 | 0 => 0 | 44 => 137 | 46 => 139 | 4 => 4 | 36 => 130 | 35 => 129 | 41 => 109 | 5 => 5 | 9 => 9 | 53 => 152 | 57 => 156 | 63 => 159 | 64 => 160 | n => n, fun | n => n⟩
theorem Tryd.lsort : Go.Proofs.SlLaysM.n5 Tryd.prog Tryd.lsort_ren := {
  mixed := by kernel_rfl
  f5 := ⟨Tryd.f39.name, by decide, Tryd.func39.trans (congrArg some (by kernel_rfl))⟩
  f7 := ⟨Tryd.f55.name, by decide, Tryd.func55.trans (congrArg some (by kernel_rfl))⟩
  f8 := Tryd.func56.trans (congrArg some (by kernel_rfl))
  f10 := ⟨Tryd.f65.name, by decide, Tryd.func65.trans (congrArg some (by kernel_rfl))⟩
  f11 := ⟨Tryd.f66.name, by decide, Tryd.func66.trans (congrArg some (by kernel_rfl))⟩
  f12 := ⟨Tryd.f67.name, by decide, Tryd.func67.trans (congrArg some (by kernel_rfl))⟩
  f13 := ⟨Tryd.f68.name, by decide, Tryd.func68.trans (congrArg some (by kernel_rfl))⟩
  f14 := ⟨Tryd.f69.name, by decide, Tryd.func69.trans (congrArg some (by kernel_rfl))⟩
  f15 := ⟨Tryd.f70.name, by decide, Tryd.func70.trans (congrArg some (by kernel_rfl))⟩
  f16 := ⟨Tryd.f71.name, by decide, Tryd.func71.trans (congrArg some (by kernel_rfl))⟩
  f17 := ⟨Tryd.f72.name, by decide, Tryd.func72.trans (congrArg some (by kernel_rfl))⟩
  f18 := ⟨Tryd.f73.name, by decide, Tryd.func73.trans (congrArg some (by kernel_rfl))⟩
  f19 := Tryd.func74.trans (congrArg some (by kernel_rfl))
  f20 := Tryd.func75.trans (congrArg some (by kernel_rfl))
  f30 := ⟨Tryd.f83.name, by decide, Tryd.func83.trans (congrArg some (by kernel_rfl))⟩
  f31 := Tryd.func84.trans (congrArg some (by kernel_rfl))
  f32 := Tryd.func85.trans (congrArg some (by kernel_rfl))
  f33 := ⟨Tryd.f86.name, by decide, Tryd.func86.trans (congrArg some (by kernel_rfl))⟩
  f34 := ⟨Tryd.f87.name, by decide, Tryd.func87.trans (congrArg some (by kernel_rfl))⟩
  f35 := ⟨Tryd.f88.name, by decide, Tryd.func88.trans (congrArg some (by kernel_rfl))⟩
  f40 := ⟨Tryd.f93.name, by decide, Tryd.func93.trans (congrArg some (by kernel_rfl))⟩
  t0 := Tryd.underlying0
  a0 := Tryd.isAgg0
  z0 := Tryd.sizeOf0
  v0 := Tryd.zeroValue0
  t3 := Tryd.underlying3
  a3 := Tryd.isAgg3
  z3 := Tryd.sizeOf3
  v3 := Tryd.zeroValue3
  t4 := Tryd.underlying4
  a4 := Tryd.isAgg4
  z4 := Tryd.sizeOf4
  v4 := Tryd.zeroValue4
  t5 := Tryd.underlying5
  a5 := Tryd.isAgg5
  z5 := Tryd.sizeOf5
  v5 := Tryd.zeroValue5
  t9 := Tryd.underlying9
  a9 := Tryd.isAgg9
  z9 := Tryd.sizeOf9
  v9 := Tryd.zeroValue9
  t22 := Tryd.underlying22
  a22 := Tryd.isAgg22
  z22 := Tryd.sizeOf22
  v22 := Tryd.zeroValue22
  t23 := Tryd.underlying22
  a23 := Tryd.isAgg22
  z23 := Tryd.sizeOf22
  v23 := Tryd.zeroValue22
  t25 := Tryd.underlying2
  a25 := Tryd.isAgg2
  z25 := Tryd.sizeOf2
  v25 := Tryd.zeroValue2
  t32 := Tryd.underlying119
  a32 := Tryd.isAgg119
  z32 := Tryd.sizeOf119
  v32 := Tryd.zeroValue119
  t35 := Tryd.underlying129
  a35 := Tryd.isAgg129
  z35 := Tryd.sizeOf129
  v35 := Tryd.zeroValue129
  t36 := Tryd.underlying130
  a36 := Tryd.isAgg130
  z36 := Tryd.sizeOf130
  v36 := Tryd.zeroValue130
  t41 := Tryd.underlying109
  a41 := Tryd.isAgg109
  z41 := Tryd.sizeOf109
  v41 := Tryd.zeroValue109
  t44 := Tryd.underlying137
  a44 := Tryd.isAgg137
  z44 := Tryd.sizeOf137
  v44 := Tryd.zeroValue137
  t46 := Tryd.underlying139
  a46 := Tryd.isAgg139
  z46 := Tryd.sizeOf139
  v46 := Tryd.zeroValue139
  t53 := Tryd.underlying152
  a53 := Tryd.isAgg152
  z53 := Tryd.sizeOf152
  v53 := Tryd.zeroValue152
  t57 := Tryd.underlying156
  a57 := Tryd.isAgg156
  z57 := Tryd.sizeOf156
  v57 := Tryd.zeroValue156
  t63 := Tryd.underlying159
  a63 := Tryd.isAgg159
  z63 := Tryd.sizeOf159
  v63 := Tryd.zeroValue159
  t64 := Tryd.underlying160
  a64 := Tryd.isAgg160
  z64 := Tryd.sizeOf160
  v64 := Tryd.zeroValue160 }
def Tryd.lcompact_ren : Go.Shelf.Ren := ⟨fun | 43 => 41 | n => n, fun | 22 => 22 | 23 => 2 | 3 => 3 | 4 => 4 | 0 => 0 | n => n, fun | n => n⟩
theorem Tryd.lcompact : Go.Proofs.SlLaysN.n43 Tryd.prog Tryd.lcompact_ren := {
  mixed := by kernel_rfl
  f43 := ⟨Tryd.f41.name, by decide, Tryd.func41.trans (congrArg some (by kernel_rfl))⟩
  t0 := Tryd.underlying0
  a0 := Tryd.isAgg0
  z0 := Tryd.sizeOf0
  v0 := Tryd.zeroValue0
  t3 := Tryd.underlying3
  a3 := Tryd.isAgg3
  z3 := Tryd.sizeOf3
  v3 := Tryd.zeroValue3
  t4 := Tryd.underlying4
  a4 := Tryd.isAgg4
  z4 := Tryd.sizeOf4
  v4 := Tryd.zeroValue4
  t22 := Tryd.underlying22
  a22 := Tryd.isAgg22
  z22 := Tryd.sizeOf22
  v22 := Tryd.zeroValue22
  t23 := Tryd.underlying2
  a23 := Tryd.isAgg2
  z23 := Tryd.sizeOf2
  v23 := Tryd.zeroValue2
  i23 := by kernel_rfl }
def Tryd.lsearch_ren : Go.Shelf.Ren := ⟨fun | 49 => 57 | 59 => 71 | 60 => 76 | 68 => 88 | n => n, fun | 22 => 22 | 23 => 2 | 3 => 3 | 4 => 4 | 51 => 119 | 0 => 0 | n => n, fun | n => n⟩
theorem Tryd.lsearch : Go.Proofs.SlLaysN.n49 Tryd.prog Tryd.lsearch_ren := {
  mixed := by kernel_rfl
  f49 := ⟨Tryd.f57.name, by decide, Tryd.func57.trans (congrArg some (by kernel_rfl))⟩
  f59 := ⟨Tryd.f71.name, by decide, Tryd.func71.trans (congrArg some (by kernel_rfl))⟩
  f60 := ⟨Tryd.f76.name, by decide, Tryd.func76.trans (congrArg some (by kernel_rfl))⟩
  f68 := ⟨Tryd.f88.name, by decide, Tryd.func88.trans (congrArg some (by kernel_rfl))⟩
  t0 := Tryd.underlying0
  a0 := Tryd.isAgg0
  z0 := Tryd.sizeOf0
  v0 := Tryd.zeroValue0
  t3 := Tryd.underlying3
  a3 := Tryd.isAgg3
  z3 := Tryd.sizeOf3
  v3 := Tryd.zeroValue3
  t4 := Tryd.underlying4
  a4 := Tryd.isAgg4
  z4 := Tryd.sizeOf4
  v4 := Tryd.zeroValue4
  t22 := Tryd.underlying22
  a22 := Tryd.isAgg22
  z22 := Tryd.sizeOf22
  v22 := Tryd.zeroValue22
  t23 := Tryd.underlying2
  a23 := Tryd.isAgg2
  z23 := Tryd.sizeOf2
  v23 := Tryd.zeroValue2
  t51 := Tryd.underlying119
  a51 := Tryd.isAgg119
  z51 := Tryd.sizeOf119
  v51 := Tryd.zeroValue119 }
def Tryd.ldelete_ren : Go.Shelf.Ren := ⟨fun | 45 => 59 | n => n, fun | 22 => 22 | 23 => 2 | 3 => 3 | 4 => 4 | 0 => 0 | n => n, fun | n => n⟩
theorem Tryd.ldelete : Go.Proofs.SlLaysN.n45 Tryd.prog Tryd.ldelete_ren := {
  mixed := by kernel_rfl
  f45 := ⟨Tryd.f59.name, by decide, Tryd.func59.trans (congrArg some (by kernel_rfl))⟩
  t0 := Tryd.underlying0
  a0 := Tryd.isAgg0
  z0 := Tryd.sizeOf0
  v0 := Tryd.zeroValue0
  t3 := Tryd.underlying3
  a3 := Tryd.isAgg3
  z3 := Tryd.sizeOf3
  v3 := Tryd.zeroValue3
  t4 := Tryd.underlying4
  a4 := Tryd.isAgg4
  z4 := Tryd.sizeOf4
  v4 := Tryd.zeroValue4
  t22 := Tryd.underlying22
  a22 := Tryd.isAgg22
  z22 := Tryd.sizeOf22
  v22 := Tryd.zeroValue22
  t23 := Tryd.underlying2
  a23 := Tryd.isAgg2
  z23 := Tryd.sizeOf2
  v23 := Tryd.zeroValue2
  i23 := by kernel_rfl }
end Go.Proofs
