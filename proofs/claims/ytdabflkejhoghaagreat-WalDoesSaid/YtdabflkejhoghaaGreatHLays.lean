/-
  DERIVED: THE SHELF's CONTRACTS AT THIS DUMP, IN PLAIN WORDS (tools/lay-plain.mjs out of 'TryzLays.lean', which tools/lay-shelf.mjs wrote): THE SAME DECLARATIONS UNDER THE SAME NAMES: 'import', 'namespace', 'open', 'def', 'theorem' AND NOTHING ELSE: no command of the shelf's: FOR A HAND-IN. Each laying: the table of numbers ('.._ren') and one theorem, a field a fact of the dump's own or the kernel's comparison; each contract: ONE APPLICATION.
-/
import Derived.Shelf.Small.Bits
import Derived.Shelf.Strconv.Itoa0
import Derived.Shelf.Sort.Plain
import Derived.Shelf.Slices.In.SortNone
import Derived.Shelf.Bytes.SlClone
import Derived.Shelf.SlIter.Nil
import Derived.Shelf.SortM.Plain
import Derived.Shelf.SortM.SortNone
import Derived.Ground.GgzProg
import Derived.Ground.SlgmProg
import Derived.Ground.SlbCloneProg
import Derived.Ground.Names8Prog
import Derived.Shelf.Spec.SlicesGrow
import Derived.Ground.SlmcProg
import Derived.Test.YtdabflkejhoghaaGreatProg
namespace Go.Proofs
open Go.Shelf
def Tryz.keys55_ren : Go.Shelf.Ren := ⟨fun | 7 => 55 | 10 => 78 | n => n, fun | 23 => 54 | 26 => 9 | 3 => 93 | 28 => 100 | 0 => 0 | 27 => 99 | 33 => 79 | 4 => 4 | n => n, fun | n => n⟩
theorem Tryz.keys55 : Go.Proofs.SlLaysZ.n7 Tryz.prog Tryz.keys55_ren := {
  mixed := by kernel_rfl
  f7 := ⟨Tryz.f55.name, by decide, Tryz.func55.trans (congrArg some (by kernel_rfl))⟩
  f10 := ⟨Tryz.f78.name, by decide, Tryz.func78.trans (congrArg some (by kernel_rfl))⟩
  t0 := Tryz.underlying0
  a0 := Tryz.isAgg0
  z0 := Tryz.sizeOf0
  v0 := Tryz.zeroValue0
  t4 := Tryz.underlying4
  a4 := Tryz.isAgg4
  z4 := Tryz.sizeOf4
  v4 := Tryz.zeroValue4
  t23 := Tryz.underlying54
  a23 := Tryz.isAgg54
  z23 := Tryz.sizeOf54
  v23 := Tryz.zeroValue54
  t26 := Tryz.underlying9
  a26 := Tryz.isAgg9
  z26 := Tryz.sizeOf9
  v26 := Tryz.zeroValue9
  t27 := Tryz.underlying99
  a27 := Tryz.isAgg99
  z27 := Tryz.sizeOf99
  v27 := Tryz.zeroValue99
  t28 := Tryz.underlying100
  a28 := Tryz.isAgg100
  z28 := Tryz.sizeOf100
  v28 := Tryz.zeroValue100
  t33 := Tryz.underlying79
  a33 := Tryz.isAgg79
  z33 := Tryz.sizeOf79
  v33 := Tryz.zeroValue79 }
def Tryz.sorted54_ren : Go.Shelf.Ren := ⟨fun | 6 => 54 | 8 => 76 | 9 => 77 | 11 => 85 | 13 => 87 | 12 => 86 | 23 => 98 | 24 => 99 | 14 => 89 | 15 => 90 | 16 => 91 | 17 => 92 | 18 => 93 | 19 => 94 | 20 => 95 | 21 => 96 | 22 => 97 | 25 => 100 | 26 => 101 | 27 => 102 | 28 => 103 | 29 => 104 | 30 => 105 | 31 => 106 | n => n, fun | 26 => 9 | 28 => 100 | 24 => 69 | 0 => 0 | 3 => 3 | 37 => 128 | 48 => 115 | 50 => 33 | 4 => 4 | 40 => 132 | 39 => 131 | 45 => 136 | 5 => 5 | 9 => 9 | 51 => 140 | 55 => 143 | 57 => 145 | 58 => 146 | 33 => 79 | n => n, fun | n => n⟩
theorem Tryz.sorted54 : Go.Proofs.SlLaysZ.n6 Tryz.prog Tryz.sorted54_ren := {
  mixed := by kernel_rfl
  f6 := ⟨Tryz.f54.name, by decide, Tryz.func54.trans (congrArg some (by kernel_rfl))⟩
  f8 := ⟨Tryz.f76.name, by decide, Tryz.func76.trans (congrArg some (by kernel_rfl))⟩
  f11 := ⟨Tryz.f85.name, by decide, Tryz.func85.trans (congrArg some (by kernel_rfl))⟩
  t0 := Tryz.underlying0
  a0 := Tryz.isAgg0
  z0 := Tryz.sizeOf0
  v0 := Tryz.zeroValue0
  t24 := Tryz.underlying69
  a24 := Tryz.isAgg69
  z24 := Tryz.sizeOf69
  v24 := Tryz.zeroValue69
  t26 := Tryz.underlying9
  a26 := Tryz.isAgg9
  z26 := Tryz.sizeOf9
  v26 := Tryz.zeroValue9
  t28 := Tryz.underlying100
  a28 := Tryz.isAgg100
  z28 := Tryz.sizeOf100
  v28 := Tryz.zeroValue100
  i26 := by kernel_rfl }
def Tryz.sort77_ren : Go.Shelf.Ren := ⟨fun | 6 => 77 | 8 => 87 | 9 => 86 | 19 => 98 | 20 => 99 | 21 => 89 | 22 => 90 | 23 => 91 | 24 => 92 | 25 => 93 | 26 => 94 | 27 => 95 | 28 => 96 | 29 => 97 | 36 => 100 | 31 => 101 | 32 => 102 | 37 => 103 | 38 => 104 | 39 => 105 | 41 => 106 | n => n, fun | 27 => 69 | 29 => 9 | 3 => 3 | 32 => 128 | 26 => 69 | 0 => 0 | 44 => 115 | 46 => 33 | 4 => 4 | 36 => 132 | 35 => 131 | 41 => 136 | 5 => 5 | 9 => 9 | 53 => 140 | 57 => 143 | 63 => 145 | 64 => 146 | n => n, fun | n => n⟩
theorem Tryz.sort77 : Go.Proofs.SlLaysM.n6 Tryz.prog Tryz.sort77_ren := {
  mixed := by kernel_rfl
  f6 := ⟨Tryz.f77.name, by decide, Tryz.func77.trans (congrArg some (by kernel_rfl))⟩
  f8 := Tryz.func87.trans (congrArg some (by kernel_rfl))
  f9 := ⟨Tryz.f86.name, by decide, Tryz.func86.trans (congrArg some (by kernel_rfl))⟩
  f19 := Tryz.func98.trans (congrArg some (by kernel_rfl))
  f20 := Tryz.func99.trans (congrArg some (by kernel_rfl))
  f21 := ⟨Tryz.f89.name, by decide, Tryz.func89.trans (congrArg some (by kernel_rfl))⟩
  f22 := ⟨Tryz.f90.name, by decide, Tryz.func90.trans (congrArg some (by kernel_rfl))⟩
  f23 := ⟨Tryz.f91.name, by decide, Tryz.func91.trans (congrArg some (by kernel_rfl))⟩
  f24 := ⟨Tryz.f92.name, by decide, Tryz.func92.trans (congrArg some (by kernel_rfl))⟩
  f25 := ⟨Tryz.f93.name, by decide, Tryz.func93.trans (congrArg some (by kernel_rfl))⟩
  f26 := ⟨Tryz.f94.name, by decide, Tryz.func94.trans (congrArg some (by kernel_rfl))⟩
  f27 := ⟨Tryz.f95.name, by decide, Tryz.func95.trans (congrArg some (by kernel_rfl))⟩
  f28 := ⟨Tryz.f96.name, by decide, Tryz.func96.trans (congrArg some (by kernel_rfl))⟩
  f29 := ⟨Tryz.f97.name, by decide, Tryz.func97.trans (congrArg some (by kernel_rfl))⟩
  f31 := Tryz.func101.trans (congrArg some (by kernel_rfl))
  f32 := Tryz.func102.trans (congrArg some (by kernel_rfl))
  f36 := ⟨Tryz.f100.name, by decide, Tryz.func100.trans (congrArg some (by kernel_rfl))⟩
  f37 := ⟨Tryz.f103.name, by decide, Tryz.func103.trans (congrArg some (by kernel_rfl))⟩
  f38 := ⟨Tryz.f104.name, by decide, Tryz.func104.trans (congrArg some (by kernel_rfl))⟩
  f39 := ⟨Tryz.f105.name, by decide, Tryz.func105.trans (congrArg some (by kernel_rfl))⟩
  f41 := ⟨Tryz.f106.name, by decide, Tryz.func106.trans (congrArg some (by kernel_rfl))⟩
  t0 := Tryz.underlying0
  a0 := Tryz.isAgg0
  z0 := Tryz.sizeOf0
  v0 := Tryz.zeroValue0
  t3 := Tryz.underlying3
  a3 := Tryz.isAgg3
  z3 := Tryz.sizeOf3
  v3 := Tryz.zeroValue3
  t4 := Tryz.underlying4
  a4 := Tryz.isAgg4
  z4 := Tryz.sizeOf4
  v4 := Tryz.zeroValue4
  t5 := Tryz.underlying5
  a5 := Tryz.isAgg5
  z5 := Tryz.sizeOf5
  v5 := Tryz.zeroValue5
  t9 := Tryz.underlying9
  a9 := Tryz.isAgg9
  z9 := Tryz.sizeOf9
  v9 := Tryz.zeroValue9
  t26 := Tryz.underlying69
  a26 := Tryz.isAgg69
  z26 := Tryz.sizeOf69
  v26 := Tryz.zeroValue69
  t27 := Tryz.underlying69
  a27 := Tryz.isAgg69
  z27 := Tryz.sizeOf69
  v27 := Tryz.zeroValue69
  t29 := Tryz.underlying9
  a29 := Tryz.isAgg9
  z29 := Tryz.sizeOf9
  v29 := Tryz.zeroValue9
  t32 := Tryz.underlying128
  a32 := Tryz.isAgg128
  z32 := Tryz.sizeOf128
  v32 := Tryz.zeroValue128
  t35 := Tryz.underlying131
  a35 := Tryz.isAgg131
  z35 := Tryz.sizeOf131
  v35 := Tryz.zeroValue131
  t36 := Tryz.underlying132
  a36 := Tryz.isAgg132
  z36 := Tryz.sizeOf132
  v36 := Tryz.zeroValue132
  t41 := Tryz.underlying136
  a41 := Tryz.isAgg136
  z41 := Tryz.sizeOf136
  v41 := Tryz.zeroValue136
  t44 := Tryz.underlying115
  a44 := Tryz.isAgg115
  z44 := Tryz.sizeOf115
  v44 := Tryz.zeroValue115
  t46 := Tryz.underlying33
  a46 := Tryz.isAgg33
  z46 := Tryz.sizeOf33
  v46 := Tryz.zeroValue33
  t53 := Tryz.underlying140
  a53 := Tryz.isAgg140
  z53 := Tryz.sizeOf140
  v53 := Tryz.zeroValue140
  t57 := Tryz.underlying143
  a57 := Tryz.isAgg143
  z57 := Tryz.sizeOf143
  v57 := Tryz.zeroValue143
  t63 := Tryz.underlying145
  a63 := Tryz.isAgg145
  z63 := Tryz.sizeOf145
  v63 := Tryz.zeroValue145
  t64 := Tryz.underlying146
  a64 := Tryz.isAgg146
  z64 := Tryz.sizeOf146
  v64 := Tryz.zeroValue146 }
def Tryz.grow83_ren : Go.Shelf.Ren := ⟨fun | 4 => 83 | n => n, fun | 22 => 39 | 25 => 5 | 3 => 3 | 4 => 4 | 9 => 9 | 20 => 20 | 0 => 0 | n => n, fun | n => n⟩
theorem Tryz.grow83 : Go.Proofs.Lays8.n4 Tryz.prog Tryz.grow83_ren := {
  mixed := by kernel_rfl
  f4 := ⟨Tryz.f83.name, by decide, Tryz.func83.trans (congrArg some (by kernel_rfl))⟩
  t0 := Tryz.underlying0
  a0 := Tryz.isAgg0
  z0 := Tryz.sizeOf0
  v0 := Tryz.zeroValue0
  t3 := Tryz.underlying3
  a3 := Tryz.isAgg3
  z3 := Tryz.sizeOf3
  v3 := Tryz.zeroValue3
  t4 := Tryz.underlying4
  a4 := Tryz.isAgg4
  z4 := Tryz.sizeOf4
  v4 := Tryz.zeroValue4
  t9 := Tryz.underlying9
  a9 := Tryz.isAgg9
  z9 := Tryz.sizeOf9
  v9 := Tryz.zeroValue9
  t20 := Tryz.underlying20
  a20 := Tryz.isAgg20
  z20 := Tryz.sizeOf20
  v20 := Tryz.zeroValue20
  t22 := Tryz.underlying39
  a22 := Tryz.isAgg39
  z22 := Tryz.sizeOf39
  v22 := Tryz.zeroValue39 }
end Go.Proofs
