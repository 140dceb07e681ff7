/-
  DERIVED: THE SHELF's CONTRACTS AT THIS DUMP, IN PLAIN WORDS (tools/lay-plain.mjs out of 'YtcbfbefpbjmglaaGreatDoorIterL.lean', which tools/lay-shelf.mjs wrote): THE SAME DECLARATIONS UNDER THE SAME NAMES: 'import', 'namespace', 'open', 'def', 'theorem' AND NOTHING ELSE: no command of the shelf's: FOR A HAND-IN. Each laying: the table of numbers ('.._ren') and one theorem, a field a fact of the dump's own or the kernel's comparison; each contract: ONE APPLICATION.
-/
import Derived.Shelf.SlGeneric
import Derived.Shelf.SlIter.Nil
import Derived.Shelf.SortM.Plain
import Derived.Shelf.SortM.SortNone
import Derived.Ground.GgzProg
import Derived.Ground.SlgmProg
import Derived.Test.YtcbfbefpbjmglaaGreatDoorProg
namespace Go.Proofs
open Go.Shelf
def Tryz.keys29_ren : Go.Shelf.Ren := ⟨fun | 7 => 29 | 10 => 44 | n => n, fun | 23 => 51 | 26 => 9 | 3 => 33 | 28 => 70 | 0 => 0 | 27 => 69 | 33 => 78 | 4 => 4 | n => n, fun | n => n⟩
theorem Tryz.keys29 : Go.Proofs.SlLaysZ.n7 Tryz.prog Tryz.keys29_ren := {
  mixed := by kernel_rfl
  f7 := ⟨Tryz.f29.name, by decide, Tryz.func29.trans (congrArg some (by kernel_rfl))⟩
  f10 := ⟨Tryz.f44.name, by decide, Tryz.func44.trans (congrArg some (by kernel_rfl))⟩
  t0 := Tryz.underlying0
  a0 := Tryz.isAgg0
  z0 := Tryz.sizeOf0
  v0 := Tryz.zeroValue0
  t4 := Tryz.underlying4
  a4 := Tryz.isAgg4
  z4 := Tryz.sizeOf4
  v4 := Tryz.zeroValue4
  t23 := Tryz.underlying51
  a23 := Tryz.isAgg51
  z23 := Tryz.sizeOf51
  v23 := Tryz.zeroValue51
  t26 := Tryz.underlying9
  a26 := Tryz.isAgg9
  z26 := Tryz.sizeOf9
  v26 := Tryz.zeroValue9
  t27 := Tryz.underlying69
  a27 := Tryz.isAgg69
  z27 := Tryz.sizeOf69
  v27 := Tryz.zeroValue69
  t28 := Tryz.underlying70
  a28 := Tryz.isAgg70
  z28 := Tryz.sizeOf70
  v28 := Tryz.zeroValue70
  t33 := Tryz.underlying78
  a33 := Tryz.isAgg78
  z33 := Tryz.sizeOf78
  v33 := Tryz.zeroValue78 }
def Tryz.sorted28_ren : Go.Shelf.Ren := ⟨fun | 6 => 28 | 8 => 42 | 9 => 43 | 11 => 60 | 13 => 62 | 12 => 61 | 23 => 89 | 24 => 90 | 14 => 80 | 15 => 81 | 16 => 82 | 17 => 83 | 18 => 84 | 19 => 85 | 20 => 86 | 21 => 87 | 22 => 88 | 25 => 98 | 26 => 99 | 27 => 100 | 28 => 101 | 29 => 102 | 30 => 103 | 31 => 108 | n => n, fun | 26 => 9 | 28 => 70 | 24 => 30 | 0 => 0 | 3 => 3 | 37 => 115 | 48 => 135 | 50 => 137 | 4 => 4 | 40 => 128 | 39 => 127 | 45 => 132 | 5 => 5 | 9 => 9 | 51 => 145 | 55 => 149 | 57 => 152 | 58 => 108 | 33 => 78 | n => n, fun | n => n⟩
theorem Tryz.sorted28 : Go.Proofs.SlLaysZ.n6 Tryz.prog Tryz.sorted28_ren := {
  mixed := by kernel_rfl
  f6 := ⟨Tryz.f28.name, by decide, Tryz.func28.trans (congrArg some (by kernel_rfl))⟩
  f8 := ⟨Tryz.f42.name, by decide, Tryz.func42.trans (congrArg some (by kernel_rfl))⟩
  f11 := ⟨Tryz.f60.name, by decide, Tryz.func60.trans (congrArg some (by kernel_rfl))⟩
  t0 := Tryz.underlying0
  a0 := Tryz.isAgg0
  z0 := Tryz.sizeOf0
  v0 := Tryz.zeroValue0
  t24 := Tryz.underlying30
  a24 := Tryz.isAgg30
  z24 := Tryz.sizeOf30
  v24 := Tryz.zeroValue30
  t26 := Tryz.underlying9
  a26 := Tryz.isAgg9
  z26 := Tryz.sizeOf9
  v26 := Tryz.zeroValue9
  t28 := Tryz.underlying70
  a28 := Tryz.isAgg70
  z28 := Tryz.sizeOf70
  v28 := Tryz.zeroValue70
  i26 := by kernel_rfl }
def Tryz.sort43_ren : Go.Shelf.Ren := ⟨fun | 6 => 43 | 8 => 62 | 9 => 61 | 19 => 89 | 20 => 90 | 21 => 80 | 22 => 81 | 23 => 82 | 24 => 83 | 25 => 84 | 26 => 85 | 27 => 86 | 28 => 87 | 29 => 88 | 36 => 98 | 31 => 99 | 32 => 100 | 37 => 101 | 38 => 102 | 39 => 103 | 41 => 108 | n => n, fun | 27 => 30 | 29 => 9 | 3 => 3 | 32 => 115 | 26 => 30 | 0 => 0 | 44 => 135 | 46 => 137 | 4 => 4 | 36 => 128 | 35 => 127 | 41 => 132 | 5 => 5 | 9 => 9 | 53 => 145 | 57 => 149 | 63 => 152 | 64 => 108 | n => n, fun | n => n⟩
theorem Tryz.sort43 : Go.Proofs.SlLaysM.n6 Tryz.prog Tryz.sort43_ren := {
  mixed := by kernel_rfl
  f6 := ⟨Tryz.f43.name, by decide, Tryz.func43.trans (congrArg some (by kernel_rfl))⟩
  f8 := Tryz.func62.trans (congrArg some (by kernel_rfl))
  f9 := ⟨Tryz.f61.name, by decide, Tryz.func61.trans (congrArg some (by kernel_rfl))⟩
  f19 := Tryz.func89.trans (congrArg some (by kernel_rfl))
  f20 := Tryz.func90.trans (congrArg some (by kernel_rfl))
  f21 := ⟨Tryz.f80.name, by decide, Tryz.func80.trans (congrArg some (by kernel_rfl))⟩
  f22 := ⟨Tryz.f81.name, by decide, Tryz.func81.trans (congrArg some (by kernel_rfl))⟩
  f23 := ⟨Tryz.f82.name, by decide, Tryz.func82.trans (congrArg some (by kernel_rfl))⟩
  f24 := ⟨Tryz.f83.name, by decide, Tryz.func83.trans (congrArg some (by kernel_rfl))⟩
  f25 := ⟨Tryz.f84.name, by decide, Tryz.func84.trans (congrArg some (by kernel_rfl))⟩
  f26 := ⟨Tryz.f85.name, by decide, Tryz.func85.trans (congrArg some (by kernel_rfl))⟩
  f27 := ⟨Tryz.f86.name, by decide, Tryz.func86.trans (congrArg some (by kernel_rfl))⟩
  f28 := ⟨Tryz.f87.name, by decide, Tryz.func87.trans (congrArg some (by kernel_rfl))⟩
  f29 := ⟨Tryz.f88.name, by decide, Tryz.func88.trans (congrArg some (by kernel_rfl))⟩
  f31 := Tryz.func99.trans (congrArg some (by kernel_rfl))
  f32 := Tryz.func100.trans (congrArg some (by kernel_rfl))
  f36 := ⟨Tryz.f98.name, by decide, Tryz.func98.trans (congrArg some (by kernel_rfl))⟩
  f37 := ⟨Tryz.f101.name, by decide, Tryz.func101.trans (congrArg some (by kernel_rfl))⟩
  f38 := ⟨Tryz.f102.name, by decide, Tryz.func102.trans (congrArg some (by kernel_rfl))⟩
  f39 := ⟨Tryz.f103.name, by decide, Tryz.func103.trans (congrArg some (by kernel_rfl))⟩
  f41 := ⟨Tryz.f108.name, by decide, Tryz.func108.trans (congrArg some (by kernel_rfl))⟩
  t0 := Tryz.underlying0
  a0 := Tryz.isAgg0
  z0 := Tryz.sizeOf0
  v0 := Tryz.zeroValue0
  t3 := Tryz.underlying3
  a3 := Tryz.isAgg3
  z3 := Tryz.sizeOf3
  v3 := Tryz.zeroValue3
  t4 := Tryz.underlying4
  a4 := Tryz.isAgg4
  z4 := Tryz.sizeOf4
  v4 := Tryz.zeroValue4
  t5 := Tryz.underlying5
  a5 := Tryz.isAgg5
  z5 := Tryz.sizeOf5
  v5 := Tryz.zeroValue5
  t9 := Tryz.underlying9
  a9 := Tryz.isAgg9
  z9 := Tryz.sizeOf9
  v9 := Tryz.zeroValue9
  t26 := Tryz.underlying30
  a26 := Tryz.isAgg30
  z26 := Tryz.sizeOf30
  v26 := Tryz.zeroValue30
  t27 := Tryz.underlying30
  a27 := Tryz.isAgg30
  z27 := Tryz.sizeOf30
  v27 := Tryz.zeroValue30
  t29 := Tryz.underlying9
  a29 := Tryz.isAgg9
  z29 := Tryz.sizeOf9
  v29 := Tryz.zeroValue9
  t32 := Tryz.underlying115
  a32 := Tryz.isAgg115
  z32 := Tryz.sizeOf115
  v32 := Tryz.zeroValue115
  t35 := Tryz.underlying127
  a35 := Tryz.isAgg127
  z35 := Tryz.sizeOf127
  v35 := Tryz.zeroValue127
  t36 := Tryz.underlying128
  a36 := Tryz.isAgg128
  z36 := Tryz.sizeOf128
  v36 := Tryz.zeroValue128
  t41 := Tryz.underlying132
  a41 := Tryz.isAgg132
  z41 := Tryz.sizeOf132
  v41 := Tryz.zeroValue132
  t44 := Tryz.underlying135
  a44 := Tryz.isAgg135
  z44 := Tryz.sizeOf135
  v44 := Tryz.zeroValue135
  t46 := Tryz.underlying137
  a46 := Tryz.isAgg137
  z46 := Tryz.sizeOf137
  v46 := Tryz.zeroValue137
  t53 := Tryz.underlying145
  a53 := Tryz.isAgg145
  z53 := Tryz.sizeOf145
  v53 := Tryz.zeroValue145
  t57 := Tryz.underlying149
  a57 := Tryz.isAgg149
  z57 := Tryz.sizeOf149
  v57 := Tryz.zeroValue149
  t63 := Tryz.underlying152
  a63 := Tryz.isAgg152
  z63 := Tryz.sizeOf152
  v63 := Tryz.zeroValue152
  t64 := Tryz.underlying108
  a64 := Tryz.isAgg108
  z64 := Tryz.sizeOf108
  v64 := Tryz.zeroValue108 }
end Go.Proofs
