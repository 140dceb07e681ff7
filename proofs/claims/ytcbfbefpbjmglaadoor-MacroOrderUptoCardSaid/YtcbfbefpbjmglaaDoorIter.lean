/-
  DERIVED: THE SHELF's CONTRACTS AT THIS DUMP, IN PLAIN WORDS (tools/lay-plain.mjs out of 'YtcbfbefpbjmglaaDoorIterL.lean', which tools/lay-shelf.mjs wrote): THE SAME DECLARATIONS UNDER THE SAME NAMES: 'import', 'namespace', 'open', 'def', 'theorem' AND NOTHING ELSE: no command of the shelf's: FOR A HAND-IN. Each laying: the table of numbers ('.._ren') and one theorem, a field a fact of the dump's own or the kernel's comparison; each contract: ONE APPLICATION.
-/
import Derived.Shelf.SlGeneric
import Derived.Shelf.SlIter.Nil
import Derived.Shelf.SortM.Plain
import Derived.Shelf.SortM.SortNone
import Derived.Ground.GgzProg
import Derived.Ground.SlgmProg
import Derived.Test.YtcbfbefpbjmglaaDoorProg
namespace Go.Proofs
open Go.Shelf
def Tryd.keys45_ren : Go.Shelf.Ren := ⟨fun | 7 => 45 | 10 => 64 | n => n, fun | 23 => 68 | 26 => 9 | 3 => 32 | 28 => 74 | 0 => 0 | 27 => 73 | 33 => 36 | 4 => 4 | n => n, fun | n => n⟩
theorem Tryd.keys45 : Go.Proofs.SlLaysZ.n7 Tryd.prog Tryd.keys45_ren := {
  mixed := by kernel_rfl
  f7 := ⟨Tryd.f45.name, by decide, Tryd.func45.trans (congrArg some (by kernel_rfl))⟩
  f10 := ⟨Tryd.f64.name, by decide, Tryd.func64.trans (congrArg some (by kernel_rfl))⟩
  t0 := Tryd.underlying0
  a0 := Tryd.isAgg0
  z0 := Tryd.sizeOf0
  v0 := Tryd.zeroValue0
  t4 := Tryd.underlying4
  a4 := Tryd.isAgg4
  z4 := Tryd.sizeOf4
  v4 := Tryd.zeroValue4
  t23 := Tryd.underlying68
  a23 := Tryd.isAgg68
  z23 := Tryd.sizeOf68
  v23 := Tryd.zeroValue68
  t26 := Tryd.underlying9
  a26 := Tryd.isAgg9
  z26 := Tryd.sizeOf9
  v26 := Tryd.zeroValue9
  t27 := Tryd.underlying73
  a27 := Tryd.isAgg73
  z27 := Tryd.sizeOf73
  v27 := Tryd.zeroValue73
  t28 := Tryd.underlying74
  a28 := Tryd.isAgg74
  z28 := Tryd.sizeOf74
  v28 := Tryd.zeroValue74
  t33 := Tryd.underlying36
  a33 := Tryd.isAgg36
  z33 := Tryd.sizeOf36
  v33 := Tryd.zeroValue36 }
def Tryd.sorted44_ren : Go.Shelf.Ren := ⟨fun | 6 => 44 | 8 => 62 | 9 => 63 | 11 => 81 | 13 => 83 | 12 => 82 | 23 => 100 | 24 => 101 | 14 => 91 | 15 => 92 | 16 => 93 | 17 => 94 | 18 => 95 | 19 => 96 | 20 => 97 | 21 => 98 | 22 => 99 | 25 => 106 | 26 => 107 | 27 => 108 | 28 => 109 | 29 => 110 | 30 => 111 | 31 => 119 | n => n, fun | 26 => 9 | 28 => 74 | 24 => 30 | 0 => 0 | 3 => 3 | 37 => 118 | 48 => 135 | 50 => 137 | 4 => 4 | 40 => 128 | 39 => 127 | 45 => 132 | 5 => 5 | 9 => 9 | 51 => 139 | 55 => 143 | 57 => 146 | 58 => 78 | 33 => 36 | n => n, fun | n => n⟩
theorem Tryd.sorted44 : Go.Proofs.SlLaysZ.n6 Tryd.prog Tryd.sorted44_ren := {
  mixed := by kernel_rfl
  f6 := ⟨Tryd.f44.name, by decide, Tryd.func44.trans (congrArg some (by kernel_rfl))⟩
  f8 := ⟨Tryd.f62.name, by decide, Tryd.func62.trans (congrArg some (by kernel_rfl))⟩
  f11 := ⟨Tryd.f81.name, by decide, Tryd.func81.trans (congrArg some (by kernel_rfl))⟩
  t0 := Tryd.underlying0
  a0 := Tryd.isAgg0
  z0 := Tryd.sizeOf0
  v0 := Tryd.zeroValue0
  t24 := Tryd.underlying30
  a24 := Tryd.isAgg30
  z24 := Tryd.sizeOf30
  v24 := Tryd.zeroValue30
  t26 := Tryd.underlying9
  a26 := Tryd.isAgg9
  z26 := Tryd.sizeOf9
  v26 := Tryd.zeroValue9
  t28 := Tryd.underlying74
  a28 := Tryd.isAgg74
  z28 := Tryd.sizeOf74
  v28 := Tryd.zeroValue74
  i26 := by kernel_rfl }
def Tryd.sort63_ren : Go.Shelf.Ren := ⟨fun | 6 => 63 | 8 => 83 | 9 => 82 | 19 => 100 | 20 => 101 | 21 => 91 | 22 => 92 | 23 => 93 | 24 => 94 | 25 => 95 | 26 => 96 | 27 => 97 | 28 => 98 | 29 => 99 | 36 => 106 | 31 => 107 | 32 => 108 | 37 => 109 | 38 => 110 | 39 => 111 | 41 => 119 | n => n, fun | 27 => 30 | 29 => 9 | 3 => 3 | 32 => 118 | 26 => 30 | 0 => 0 | 44 => 135 | 46 => 137 | 4 => 4 | 36 => 128 | 35 => 127 | 41 => 132 | 5 => 5 | 9 => 9 | 53 => 139 | 57 => 143 | 63 => 146 | 64 => 78 | n => n, fun | n => n⟩
theorem Tryd.sort63 : Go.Proofs.SlLaysM.n6 Tryd.prog Tryd.sort63_ren := {
  mixed := by kernel_rfl
  f6 := ⟨Tryd.f63.name, by decide, Tryd.func63.trans (congrArg some (by kernel_rfl))⟩
  f8 := Tryd.func83.trans (congrArg some (by kernel_rfl))
  f9 := ⟨Tryd.f82.name, by decide, Tryd.func82.trans (congrArg some (by kernel_rfl))⟩
  f19 := Tryd.func100.trans (congrArg some (by kernel_rfl))
  f20 := Tryd.func101.trans (congrArg some (by kernel_rfl))
  f21 := ⟨Tryd.f91.name, by decide, Tryd.func91.trans (congrArg some (by kernel_rfl))⟩
  f22 := ⟨Tryd.f92.name, by decide, Tryd.func92.trans (congrArg some (by kernel_rfl))⟩
  f23 := ⟨Tryd.f93.name, by decide, Tryd.func93.trans (congrArg some (by kernel_rfl))⟩
  f24 := ⟨Tryd.f94.name, by decide, Tryd.func94.trans (congrArg some (by kernel_rfl))⟩
  f25 := ⟨Tryd.f95.name, by decide, Tryd.func95.trans (congrArg some (by kernel_rfl))⟩
  f26 := ⟨Tryd.f96.name, by decide, Tryd.func96.trans (congrArg some (by kernel_rfl))⟩
  f27 := ⟨Tryd.f97.name, by decide, Tryd.func97.trans (congrArg some (by kernel_rfl))⟩
  f28 := ⟨Tryd.f98.name, by decide, Tryd.func98.trans (congrArg some (by kernel_rfl))⟩
  f29 := ⟨Tryd.f99.name, by decide, Tryd.func99.trans (congrArg some (by kernel_rfl))⟩
  f31 := Tryd.func107.trans (congrArg some (by kernel_rfl))
  f32 := Tryd.func108.trans (congrArg some (by kernel_rfl))
  f36 := ⟨Tryd.f106.name, by decide, Tryd.func106.trans (congrArg some (by kernel_rfl))⟩
  f37 := ⟨Tryd.f109.name, by decide, Tryd.func109.trans (congrArg some (by kernel_rfl))⟩
  f38 := ⟨Tryd.f110.name, by decide, Tryd.func110.trans (congrArg some (by kernel_rfl))⟩
  f39 := ⟨Tryd.f111.name, by decide, Tryd.func111.trans (congrArg some (by kernel_rfl))⟩
  f41 := ⟨Tryd.f119.name, by decide, Tryd.func119.trans (congrArg some (by kernel_rfl))⟩
  t0 := Tryd.underlying0
  a0 := Tryd.isAgg0
  z0 := Tryd.sizeOf0
  v0 := Tryd.zeroValue0
  t3 := Tryd.underlying3
  a3 := Tryd.isAgg3
  z3 := Tryd.sizeOf3
  v3 := Tryd.zeroValue3
  t4 := Tryd.underlying4
  a4 := Tryd.isAgg4
  z4 := Tryd.sizeOf4
  v4 := Tryd.zeroValue4
  t5 := Tryd.underlying5
  a5 := Tryd.isAgg5
  z5 := Tryd.sizeOf5
  v5 := Tryd.zeroValue5
  t9 := Tryd.underlying9
  a9 := Tryd.isAgg9
  z9 := Tryd.sizeOf9
  v9 := Tryd.zeroValue9
  t26 := Tryd.underlying30
  a26 := Tryd.isAgg30
  z26 := Tryd.sizeOf30
  v26 := Tryd.zeroValue30
  t27 := Tryd.underlying30
  a27 := Tryd.isAgg30
  z27 := Tryd.sizeOf30
  v27 := Tryd.zeroValue30
  t29 := Tryd.underlying9
  a29 := Tryd.isAgg9
  z29 := Tryd.sizeOf9
  v29 := Tryd.zeroValue9
  t32 := Tryd.underlying118
  a32 := Tryd.isAgg118
  z32 := Tryd.sizeOf118
  v32 := Tryd.zeroValue118
  t35 := Tryd.underlying127
  a35 := Tryd.isAgg127
  z35 := Tryd.sizeOf127
  v35 := Tryd.zeroValue127
  t36 := Tryd.underlying128
  a36 := Tryd.isAgg128
  z36 := Tryd.sizeOf128
  v36 := Tryd.zeroValue128
  t41 := Tryd.underlying132
  a41 := Tryd.isAgg132
  z41 := Tryd.sizeOf132
  v41 := Tryd.zeroValue132
  t44 := Tryd.underlying135
  a44 := Tryd.isAgg135
  z44 := Tryd.sizeOf135
  v44 := Tryd.zeroValue135
  t46 := Tryd.underlying137
  a46 := Tryd.isAgg137
  z46 := Tryd.sizeOf137
  v46 := Tryd.zeroValue137
  t53 := Tryd.underlying139
  a53 := Tryd.isAgg139
  z53 := Tryd.sizeOf139
  v53 := Tryd.zeroValue139
  t57 := Tryd.underlying143
  a57 := Tryd.isAgg143
  z57 := Tryd.sizeOf143
  v57 := Tryd.zeroValue143
  t63 := Tryd.underlying146
  a63 := Tryd.isAgg146
  z63 := Tryd.sizeOf146
  v63 := Tryd.zeroValue146
  t64 := Tryd.underlying78
  a64 := Tryd.isAgg78
  z64 := Tryd.sizeOf78
  v64 := Tryd.zeroValue78 }
end Go.Proofs
