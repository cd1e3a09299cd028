/-
  DERIVED: THE SHELF's CONTRACTS AT THIS DUMP, IN PLAIN WORDS (tools/lay-plain.mjs out of 'TryLays.lean', which tools/lay-shelf.mjs wrote): THE SAME DECLARATIONS UNDER THE SAME NAMES: 'import', 'namespace', 'open', 'def', 'theorem' AND NOTHING ELSE: no command of the shelf's: FOR A HAND-IN. Each laying: the table of numbers ('.._ren') and one theorem, a field a fact of the dump's own or the kernel's comparison; each contract: ONE APPLICATION.
-/
import Derived.Shelf.Small.Bits
import Derived.Shelf.Strconv.Itoa0
import Derived.Shelf.Sort.Plain
import Derived.Shelf.Slices.In.SortNone
import Derived.Shelf.Bytes.SlClone
import Derived.Shelf.SlIter.Nil
import Derived.Shelf.SortM.Plain
import Derived.Shelf.SortM.SortNone
import Derived.Ground.GgzProg
import Derived.Ground.SlgmProg
import Derived.Ground.SlbCloneProg
import Derived.Ground.Names8Prog
import Derived.Shelf.Spec.SlicesGrow
import Derived.Shelf.SlMaps.Clone
import Derived.Ground.SlmcProg
import Derived.Test.YtdabflkejhoghaaProg
namespace Go.Proofs
open Go.Shelf
def Try.keys64_ren : Go.Shelf.Ren := ⟨fun | 7 => 64 | 10 => 90 | n => n, fun | 23 => 88 | 26 => 9 | 3 => 103 | 28 => 107 | 0 => 0 | 27 => 106 | 33 => 42 | 4 => 4 | n => n, fun | n => n⟩
theorem Try.keys64 : Go.Proofs.SlLaysZ.n7 Try.prog Try.keys64_ren := {
  mixed := by kernel_rfl
  f7 := ⟨Try.f64.name, by decide, Try.func64.trans (congrArg some (by kernel_rfl))⟩
  f10 := ⟨Try.f90.name, by decide, Try.func90.trans (congrArg some (by kernel_rfl))⟩
  t0 := Try.underlying0
  a0 := Try.isAgg0
  z0 := Try.sizeOf0
  v0 := Try.zeroValue0
  t4 := Try.underlying4
  a4 := Try.isAgg4
  z4 := Try.sizeOf4
  v4 := Try.zeroValue4
  t23 := Try.underlying88
  a23 := Try.isAgg88
  z23 := Try.sizeOf88
  v23 := Try.zeroValue88
  t26 := Try.underlying9
  a26 := Try.isAgg9
  z26 := Try.sizeOf9
  v26 := Try.zeroValue9
  t27 := Try.underlying106
  a27 := Try.isAgg106
  z27 := Try.sizeOf106
  v27 := Try.zeroValue106
  t28 := Try.underlying107
  a28 := Try.isAgg107
  z28 := Try.sizeOf107
  v28 := Try.zeroValue107
  t33 := Try.underlying42
  a33 := Try.isAgg42
  z33 := Try.sizeOf42
  v33 := Try.zeroValue42 }
def Try.sorted63_ren : Go.Shelf.Ren := ⟨fun | 6 => 63 | 8 => 88 | 9 => 89 | 11 => 102 | 13 => 104 | 12 => 103 | 23 => 115 | 24 => 116 | 14 => 106 | 15 => 107 | 16 => 108 | 17 => 109 | 18 => 110 | 19 => 111 | 20 => 112 | 21 => 113 | 22 => 114 | 25 => 117 | 26 => 118 | 27 => 119 | 28 => 120 | 29 => 121 | 30 => 122 | 31 => 123 | n => n, fun | 26 => 9 | 28 => 107 | 24 => 45 | 0 => 0 | 3 => 3 | 37 => 145 | 48 => 119 | 50 => 33 | 4 => 4 | 40 => 149 | 39 => 148 | 45 => 153 | 5 => 5 | 9 => 9 | 51 => 157 | 55 => 160 | 57 => 162 | 58 => 163 | 33 => 42 | n => n, fun | n => n⟩
theorem Try.sorted63 : Go.Proofs.SlLaysZ.n6 Try.prog Try.sorted63_ren := {
  mixed := by kernel_rfl
  f6 := ⟨Try.f63.name, by decide, Try.func63.trans (congrArg some (by kernel_rfl))⟩
  f8 := ⟨Try.f88.name, by decide, Try.func88.trans (congrArg some (by kernel_rfl))⟩
  f11 := ⟨Try.f102.name, by decide, Try.func102.trans (congrArg some (by kernel_rfl))⟩
  t0 := Try.underlying0
  a0 := Try.isAgg0
  z0 := Try.sizeOf0
  v0 := Try.zeroValue0
  t24 := Try.underlying45
  a24 := Try.isAgg45
  z24 := Try.sizeOf45
  v24 := Try.zeroValue45
  t26 := Try.underlying9
  a26 := Try.isAgg9
  z26 := Try.sizeOf9
  v26 := Try.zeroValue9
  t28 := Try.underlying107
  a28 := Try.isAgg107
  z28 := Try.sizeOf107
  v28 := Try.zeroValue107
  i26 := by kernel_rfl }
def Try.sort89_ren : Go.Shelf.Ren := ⟨fun | 6 => 89 | 8 => 104 | 9 => 103 | 19 => 115 | 20 => 116 | 21 => 106 | 22 => 107 | 23 => 108 | 24 => 109 | 25 => 110 | 26 => 111 | 27 => 112 | 28 => 113 | 29 => 114 | 36 => 117 | 31 => 118 | 32 => 119 | 37 => 120 | 38 => 121 | 39 => 122 | 41 => 123 | n => n, fun | 27 => 45 | 29 => 9 | 3 => 3 | 32 => 145 | 26 => 45 | 0 => 0 | 44 => 119 | 46 => 33 | 4 => 4 | 36 => 149 | 35 => 148 | 41 => 153 | 5 => 5 | 9 => 9 | 53 => 157 | 57 => 160 | 63 => 162 | 64 => 163 | n => n, fun | n => n⟩
theorem Try.sort89 : Go.Proofs.SlLaysM.n6 Try.prog Try.sort89_ren := {
  mixed := by kernel_rfl
  f6 := ⟨Try.f89.name, by decide, Try.func89.trans (congrArg some (by kernel_rfl))⟩
  f8 := Try.func104.trans (congrArg some (by kernel_rfl))
  f9 := ⟨Try.f103.name, by decide, Try.func103.trans (congrArg some (by kernel_rfl))⟩
  f19 := Try.func115.trans (congrArg some (by kernel_rfl))
  f20 := Try.func116.trans (congrArg some (by kernel_rfl))
  f21 := ⟨Try.f106.name, by decide, Try.func106.trans (congrArg some (by kernel_rfl))⟩
  f22 := ⟨Try.f107.name, by decide, Try.func107.trans (congrArg some (by kernel_rfl))⟩
  f23 := ⟨Try.f108.name, by decide, Try.func108.trans (congrArg some (by kernel_rfl))⟩
  f24 := ⟨Try.f109.name, by decide, Try.func109.trans (congrArg some (by kernel_rfl))⟩
  f25 := ⟨Try.f110.name, by decide, Try.func110.trans (congrArg some (by kernel_rfl))⟩
  f26 := ⟨Try.f111.name, by decide, Try.func111.trans (congrArg some (by kernel_rfl))⟩
  f27 := ⟨Try.f112.name, by decide, Try.func112.trans (congrArg some (by kernel_rfl))⟩
  f28 := ⟨Try.f113.name, by decide, Try.func113.trans (congrArg some (by kernel_rfl))⟩
  f29 := ⟨Try.f114.name, by decide, Try.func114.trans (congrArg some (by kernel_rfl))⟩
  f31 := Try.func118.trans (congrArg some (by kernel_rfl))
  f32 := Try.func119.trans (congrArg some (by kernel_rfl))
  f36 := ⟨Try.f117.name, by decide, Try.func117.trans (congrArg some (by kernel_rfl))⟩
  f37 := ⟨Try.f120.name, by decide, Try.func120.trans (congrArg some (by kernel_rfl))⟩
  f38 := ⟨Try.f121.name, by decide, Try.func121.trans (congrArg some (by kernel_rfl))⟩
  f39 := ⟨Try.f122.name, by decide, Try.func122.trans (congrArg some (by kernel_rfl))⟩
  f41 := ⟨Try.f123.name, by decide, Try.func123.trans (congrArg some (by kernel_rfl))⟩
  t0 := Try.underlying0
  a0 := Try.isAgg0
  z0 := Try.sizeOf0
  v0 := Try.zeroValue0
  t3 := Try.underlying3
  a3 := Try.isAgg3
  z3 := Try.sizeOf3
  v3 := Try.zeroValue3
  t4 := Try.underlying4
  a4 := Try.isAgg4
  z4 := Try.sizeOf4
  v4 := Try.zeroValue4
  t5 := Try.underlying5
  a5 := Try.isAgg5
  z5 := Try.sizeOf5
  v5 := Try.zeroValue5
  t9 := Try.underlying9
  a9 := Try.isAgg9
  z9 := Try.sizeOf9
  v9 := Try.zeroValue9
  t26 := Try.underlying45
  a26 := Try.isAgg45
  z26 := Try.sizeOf45
  v26 := Try.zeroValue45
  t27 := Try.underlying45
  a27 := Try.isAgg45
  z27 := Try.sizeOf45
  v27 := Try.zeroValue45
  t29 := Try.underlying9
  a29 := Try.isAgg9
  z29 := Try.sizeOf9
  v29 := Try.zeroValue9
  t32 := Try.underlying145
  a32 := Try.isAgg145
  z32 := Try.sizeOf145
  v32 := Try.zeroValue145
  t35 := Try.underlying148
  a35 := Try.isAgg148
  z35 := Try.sizeOf148
  v35 := Try.zeroValue148
  t36 := Try.underlying149
  a36 := Try.isAgg149
  z36 := Try.sizeOf149
  v36 := Try.zeroValue149
  t41 := Try.underlying153
  a41 := Try.isAgg153
  z41 := Try.sizeOf153
  v41 := Try.zeroValue153
  t44 := Try.underlying119
  a44 := Try.isAgg119
  z44 := Try.sizeOf119
  v44 := Try.zeroValue119
  t46 := Try.underlying33
  a46 := Try.isAgg33
  z46 := Try.sizeOf33
  v46 := Try.zeroValue33
  t53 := Try.underlying157
  a53 := Try.isAgg157
  z53 := Try.sizeOf157
  v53 := Try.zeroValue157
  t57 := Try.underlying160
  a57 := Try.isAgg160
  z57 := Try.sizeOf160
  v57 := Try.zeroValue160
  t63 := Try.underlying162
  a63 := Try.isAgg162
  z63 := Try.sizeOf162
  v63 := Try.zeroValue162
  t64 := Try.underlying163
  a64 := Try.isAgg163
  z64 := Try.sizeOf163
  v64 := Try.zeroValue163 }
def Try.grow87_ren : Go.Shelf.Ren := ⟨fun | 4 => 87 | n => n, fun | 22 => 22 | 25 => 5 | 3 => 3 | 4 => 4 | 9 => 9 | 20 => 20 | 0 => 0 | n => n, fun | n => n⟩
theorem Try.grow87 : Go.Proofs.Lays8.n4 Try.prog Try.grow87_ren := {
  mixed := by kernel_rfl
  f4 := ⟨Try.f87.name, by decide, Try.func87.trans (congrArg some (by kernel_rfl))⟩
  t0 := Try.underlying0
  a0 := Try.isAgg0
  z0 := Try.sizeOf0
  v0 := Try.zeroValue0
  t3 := Try.underlying3
  a3 := Try.isAgg3
  z3 := Try.sizeOf3
  v3 := Try.zeroValue3
  t4 := Try.underlying4
  a4 := Try.isAgg4
  z4 := Try.sizeOf4
  v4 := Try.zeroValue4
  t9 := Try.underlying9
  a9 := Try.isAgg9
  z9 := Try.sizeOf9
  v9 := Try.zeroValue9
  t20 := Try.underlying20
  a20 := Try.isAgg20
  z20 := Try.sizeOf20
  v20 := Try.zeroValue20
  t22 := Try.underlying22
  a22 := Try.isAgg22
  z22 := Try.sizeOf22
  v22 := Try.zeroValue22 }
def Try.mclone71_ren : Go.Shelf.Ren := ⟨fun | 5 => 71 | 7 => 92 | n => n, fun | 23 => 88 | 25 => 9 | 3 => 103 | 4 => 4 | 20 => 20 | n => n, fun | n => n⟩
theorem Try.mclone71 : Go.Proofs.SlLaysW.n5 Try.prog Try.mclone71_ren := {
  mixed := by kernel_rfl
  f5 := ⟨Try.f71.name, by decide, Try.func71.trans (congrArg some (by kernel_rfl))⟩
  f7 := Try.func92.trans (congrArg some (by kernel_rfl))
  t4 := Try.underlying4
  a4 := Try.isAgg4
  z4 := Try.sizeOf4
  v4 := Try.zeroValue4
  t20 := Try.underlying20
  a20 := Try.isAgg20
  z20 := Try.sizeOf20
  v20 := Try.zeroValue20
  t23 := Try.underlying88
  a23 := Try.isAgg88
  z23 := Try.sizeOf88
  v23 := Try.zeroValue88 }
end Go.Proofs
