/- The shelf's contracts that this seat's walks take, laid at this dump by the kit's tool. -/
import Derived.Shelf.Small.Bits
import Derived.Shelf.Small.Strs
import Derived.Shelf.Strconv.Itoa0
import Derived.Shelf.Strings.Search1
import Derived.Ground.Names2Prog
import Derived.Shelf.Slices.Clone
import Derived.Ground.SlgnProg
import Derived.Shelf.SlicesE.Clone
import Derived.Ground.SlgmProg
import Derived.Shelf.SortM.Plain
import Derived.Shelf.SortM.SortNone
import Derived.Shelf.SlIter.Nil
import Derived.Ground.GgzProg
import Derived.Test.YtjffagffjcbolaaProg
namespace Go.Proofs
open Go.Shelf
def Try.keysK_ren : Go.Shelf.Ren := ⟨fun | 7 => 32 | 10 => 46 | n => n, fun | 23 => 66 | 26 => 9 | 3 => 30 | 28 => 79 | 0 => 0 | 27 => 78 | 33 => 69 | 4 => 4 | n => n, fun | n => n⟩
theorem Try.keysK : Go.Proofs.SlLaysZ.n7 Try.prog Try.keysK_ren := {
  mixed := by kernel_rfl
  f7 := ⟨Try.f32.name, by decide, Try.func32.trans (congrArg some (by kernel_rfl))⟩
  f10 := ⟨Try.f46.name, by decide, Try.func46.trans (congrArg some (by kernel_rfl))⟩
  t0 := Try.underlying0
  a0 := Try.isAgg0
  z0 := Try.sizeOf0
  v0 := Try.zeroValue0
  t4 := Try.underlying4
  a4 := Try.isAgg4
  z4 := Try.sizeOf4
  v4 := Try.zeroValue4
  t23 := Try.underlying66
  a23 := Try.isAgg66
  z23 := Try.sizeOf66
  v23 := Try.zeroValue66
  t26 := Try.underlying9
  a26 := Try.isAgg9
  z26 := Try.sizeOf9
  v26 := Try.zeroValue9
  t27 := Try.underlying78
  a27 := Try.isAgg78
  z27 := Try.sizeOf78
  v27 := Try.zeroValue78
  t28 := Try.underlying79
  a28 := Try.isAgg79
  z28 := Try.sizeOf79
  v28 := Try.zeroValue79
  t33 := Try.underlying69
  a33 := Try.isAgg69
  z33 := Try.sizeOf69
  v33 := Try.zeroValue69 }
def Try.sortedK_ren : Go.Shelf.Ren := ⟨fun | 6 => 31 | 8 => 44 | 9 => 45 | 11 => 57 | 13 => 59 | 12 => 58 | 23 => 80 | 24 => 81 | 14 => 71 | 15 => 72 | 16 => 73 | 17 => 74 | 18 => 75 | 19 => 76 | 20 => 77 | 21 => 78 | 22 => 79 | 25 => 84 | 26 => 85 | 27 => 86 | 28 => 87 | 29 => 88 | 30 => 89 | 31 => 91 | n => n, fun | 26 => 9 | 28 => 79 | 24 => 42 | 0 => 0 | 3 => 3 | 37 => 59 | 48 => 115 | 50 => 117 | 4 => 4 | 40 => 107 | 39 => 106 | 45 => 112 | 5 => 5 | 9 => 9 | 51 => 120 | 55 => 124 | 57 => 126 | 58 => 127 | 33 => 69 | n => n, fun | n => n⟩
theorem Try.sortedK : Go.Proofs.SlLaysZ.n6 Try.prog Try.sortedK_ren := {
  mixed := by kernel_rfl
  f6 := ⟨Try.f31.name, by decide, Try.func31.trans (congrArg some (by kernel_rfl))⟩
  f8 := ⟨Try.f44.name, by decide, Try.func44.trans (congrArg some (by kernel_rfl))⟩
  f11 := ⟨Try.f57.name, by decide, Try.func57.trans (congrArg some (by kernel_rfl))⟩
  t0 := Try.underlying0
  a0 := Try.isAgg0
  z0 := Try.sizeOf0
  v0 := Try.zeroValue0
  t24 := Try.underlying42
  a24 := Try.isAgg42
  z24 := Try.sizeOf42
  v24 := Try.zeroValue42
  t26 := Try.underlying9
  a26 := Try.isAgg9
  z26 := Try.sizeOf9
  v26 := Try.zeroValue9
  t28 := Try.underlying79
  a28 := Try.isAgg79
  z28 := Try.sizeOf79
  v28 := Try.zeroValue79
  i26 := by kernel_rfl }
def Try.sortK_ren : Go.Shelf.Ren := ⟨fun | 6 => 45 | 8 => 59 | 9 => 58 | 19 => 80 | 20 => 81 | 21 => 71 | 22 => 72 | 23 => 73 | 24 => 74 | 25 => 75 | 26 => 76 | 27 => 77 | 28 => 78 | 29 => 79 | 36 => 84 | 31 => 85 | 32 => 86 | 37 => 87 | 38 => 88 | 39 => 89 | 41 => 91 | n => n, fun | 27 => 42 | 29 => 9 | 3 => 3 | 32 => 59 | 26 => 42 | 0 => 0 | 44 => 115 | 46 => 117 | 4 => 4 | 36 => 107 | 35 => 106 | 41 => 112 | 5 => 5 | 9 => 9 | 53 => 120 | 57 => 124 | 63 => 126 | 64 => 127 | n => n, fun | n => n⟩
theorem Try.sortK : Go.Proofs.SlLaysM.n6 Try.prog Try.sortK_ren := {
  mixed := by kernel_rfl
  f6 := ⟨Try.f45.name, by decide, Try.func45.trans (congrArg some (by kernel_rfl))⟩
  f8 := Try.func59.trans (congrArg some (by kernel_rfl))
  f9 := ⟨Try.f58.name, by decide, Try.func58.trans (congrArg some (by kernel_rfl))⟩
  f19 := Try.func80.trans (congrArg some (by kernel_rfl))
  f20 := Try.func81.trans (congrArg some (by kernel_rfl))
  f21 := ⟨Try.f71.name, by decide, Try.func71.trans (congrArg some (by kernel_rfl))⟩
  f22 := ⟨Try.f72.name, by decide, Try.func72.trans (congrArg some (by kernel_rfl))⟩
  f23 := ⟨Try.f73.name, by decide, Try.func73.trans (congrArg some (by kernel_rfl))⟩
  f24 := ⟨Try.f74.name, by decide, Try.func74.trans (congrArg some (by kernel_rfl))⟩
  f25 := ⟨Try.f75.name, by decide, Try.func75.trans (congrArg some (by kernel_rfl))⟩
  f26 := ⟨Try.f76.name, by decide, Try.func76.trans (congrArg some (by kernel_rfl))⟩
  f27 := ⟨Try.f77.name, by decide, Try.func77.trans (congrArg some (by kernel_rfl))⟩
  f28 := ⟨Try.f78.name, by decide, Try.func78.trans (congrArg some (by kernel_rfl))⟩
  f29 := ⟨Try.f79.name, by decide, Try.func79.trans (congrArg some (by kernel_rfl))⟩
  f31 := Try.func85.trans (congrArg some (by kernel_rfl))
  f32 := Try.func86.trans (congrArg some (by kernel_rfl))
  f36 := ⟨Try.f84.name, by decide, Try.func84.trans (congrArg some (by kernel_rfl))⟩
  f37 := ⟨Try.f87.name, by decide, Try.func87.trans (congrArg some (by kernel_rfl))⟩
  f38 := ⟨Try.f88.name, by decide, Try.func88.trans (congrArg some (by kernel_rfl))⟩
  f39 := ⟨Try.f89.name, by decide, Try.func89.trans (congrArg some (by kernel_rfl))⟩
  f41 := ⟨Try.f91.name, by decide, Try.func91.trans (congrArg some (by kernel_rfl))⟩
  t0 := Try.underlying0
  a0 := Try.isAgg0
  z0 := Try.sizeOf0
  v0 := Try.zeroValue0
  t3 := Try.underlying3
  a3 := Try.isAgg3
  z3 := Try.sizeOf3
  v3 := Try.zeroValue3
  t4 := Try.underlying4
  a4 := Try.isAgg4
  z4 := Try.sizeOf4
  v4 := Try.zeroValue4
  t5 := Try.underlying5
  a5 := Try.isAgg5
  z5 := Try.sizeOf5
  v5 := Try.zeroValue5
  t9 := Try.underlying9
  a9 := Try.isAgg9
  z9 := Try.sizeOf9
  v9 := Try.zeroValue9
  t26 := Try.underlying42
  a26 := Try.isAgg42
  z26 := Try.sizeOf42
  v26 := Try.zeroValue42
  t27 := Try.underlying42
  a27 := Try.isAgg42
  z27 := Try.sizeOf42
  v27 := Try.zeroValue42
  t29 := Try.underlying9
  a29 := Try.isAgg9
  z29 := Try.sizeOf9
  v29 := Try.zeroValue9
  t32 := Try.underlying59
  a32 := Try.isAgg59
  z32 := Try.sizeOf59
  v32 := Try.zeroValue59
  t35 := Try.underlying106
  a35 := Try.isAgg106
  z35 := Try.sizeOf106
  v35 := Try.zeroValue106
  t36 := Try.underlying107
  a36 := Try.isAgg107
  z36 := Try.sizeOf107
  v36 := Try.zeroValue107
  t41 := Try.underlying112
  a41 := Try.isAgg112
  z41 := Try.sizeOf112
  v41 := Try.zeroValue112
  t44 := Try.underlying115
  a44 := Try.isAgg115
  z44 := Try.sizeOf115
  v44 := Try.zeroValue115
  t46 := Try.underlying117
  a46 := Try.isAgg117
  z46 := Try.sizeOf117
  v46 := Try.zeroValue117
  t53 := Try.underlying120
  a53 := Try.isAgg120
  z53 := Try.sizeOf120
  v53 := Try.zeroValue120
  t57 := Try.underlying124
  a57 := Try.isAgg124
  z57 := Try.sizeOf124
  v57 := Try.zeroValue124
  t63 := Try.underlying126
  a63 := Try.isAgg126
  z63 := Try.sizeOf126
  v63 := Try.zeroValue126
  t64 := Try.underlying127
  a64 := Try.isAgg127
  z64 := Try.sizeOf127
  v64 := Try.zeroValue127 }
end Go.Proofs
