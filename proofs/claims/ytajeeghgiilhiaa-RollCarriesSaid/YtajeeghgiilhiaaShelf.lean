/- Contracts of the library's functions at this program: laid by program off the shelf, in plain words. -/
import Derived.Shelf.Bits.Mul64
import Derived.Shelf.SlIter.Sorted
import Derived.Shelf.SortM.Plain
import Derived.Shelf.SortM.SortNone
import Derived.Ground.GgzProg
import Derived.Ground.SlgmProg
import Derived.Test.YtajeeghgiilhiaaProg
namespace Go.Proofs
open Go.Shelf
def Try.lays104_ren : Go.Shelf.Ren := ⟨fun | 264 => 60 | n => n, fun | 53 => 101 | 46 => 95 | n => n, fun | n => n⟩
theorem Try.lays104 : Go.Proofs.Lays.n264 Try.prog Try.lays104_ren := {
  mixed := by kernel_rfl
  f264 := Try.func60.trans (congrArg some (by kernel_rfl))
  t46 := Try.underlying95
  a46 := Try.isAgg95
  z46 := Try.sizeOf95
  v46 := Try.zeroValue95
  t53 := Try.underlying101
  a53 := Try.isAgg101
  z53 := Try.sizeOf101
  v53 := Try.zeroValue101 }
open Go.RowKit Go.Lib in
theorem Try.bits_Mul64 (x y : Nat) (hx : x < 18446744073709551616) (hy : y < 18446744073709551616) (w : World) :
    Calls Try.prog 60 #[.int .u64 x, .int .u64 y] w fun e w' => e = .returned (.tuple #[.int .u64 ((x * y / 18446744073709551616 : Nat) : Int), .int .u64 ((x * y % 18446744073709551616 : Nat) : Int)]) ∧ w' = w := Any.bits_Mul64 Try.lays104 x y hx hy w
def Try.sorted31_ren : Go.Shelf.Ren := ⟨fun | 6 => 31 | 8 => 52 | 9 => 36 | 11 => 69 | 13 => 57 | 12 => 56 | 23 => 78 | 24 => 79 | 14 => 70 | 15 => 71 | 16 => 72 | 17 => 73 | 18 => 74 | 19 => 75 | 20 => 54 | 21 => 76 | 22 => 77 | 25 => 89 | 26 => 90 | 27 => 91 | 28 => 92 | 29 => 93 | 30 => 59 | 31 => 98 | n => n, fun | 26 => 9 | 28 => 69 | 24 => 34 | 0 => 0 | 3 => 3 | 37 => 95 | 48 => 118 | 50 => 101 | 4 => 4 | 40 => 112 | 39 => 111 | 45 => 73 | 5 => 5 | 9 => 9 | 51 => 125 | 55 => 129 | 57 => 133 | 58 => 134 | 33 => 94 | n => n, fun | n => n⟩
theorem Try.sorted31 : Go.Proofs.SlLaysZ.n6 Try.prog Try.sorted31_ren := {
  mixed := by kernel_rfl
  f6 := ⟨Try.f31.name, by decide, Try.func31.trans (congrArg some (by kernel_rfl))⟩
  f8 := ⟨Try.f52.name, by decide, Try.func52.trans (congrArg some (by kernel_rfl))⟩
  f11 := ⟨Try.f69.name, by decide, Try.func69.trans (congrArg some (by kernel_rfl))⟩
  t0 := Try.underlying0
  a0 := Try.isAgg0
  z0 := Try.sizeOf0
  v0 := Try.zeroValue0
  t24 := Try.underlying34
  a24 := Try.isAgg34
  z24 := Try.sizeOf34
  v24 := Try.zeroValue34
  t26 := Try.underlying9
  a26 := Try.isAgg9
  z26 := Try.sizeOf9
  v26 := Try.zeroValue9
  t28 := Try.underlying69
  a28 := Try.isAgg69
  z28 := Try.sizeOf69
  v28 := Try.zeroValue69
  i26 := by kernel_rfl }
def Try.sort50_ren : Go.Shelf.Ren := ⟨fun | 6 => 36 | 8 => 57 | 9 => 56 | 19 => 78 | 20 => 79 | 21 => 70 | 22 => 71 | 23 => 72 | 24 => 73 | 25 => 74 | 26 => 75 | 27 => 54 | 28 => 76 | 29 => 77 | 36 => 89 | 31 => 90 | 32 => 91 | 37 => 92 | 38 => 93 | 39 => 59 | 41 => 98 | n => n, fun | 27 => 34 | 29 => 9 | 3 => 3 | 32 => 95 | 26 => 34 | 0 => 0 | 44 => 118 | 46 => 101 | 4 => 4 | 36 => 112 | 35 => 111 | 41 => 73 | 5 => 5 | 9 => 9 | 53 => 125 | 57 => 129 | 63 => 133 | 64 => 134 | n => n, fun | n => n⟩
theorem Try.sort50 : Go.Proofs.SlLaysM.n6 Try.prog Try.sort50_ren := {
  mixed := by kernel_rfl
  f6 := ⟨Try.f36.name, by decide, Try.func36.trans (congrArg some (by kernel_rfl))⟩
  f8 := Try.func57.trans (congrArg some (by kernel_rfl))
  f9 := ⟨Try.f56.name, by decide, Try.func56.trans (congrArg some (by kernel_rfl))⟩
  f19 := Try.func78.trans (congrArg some (by kernel_rfl))
  f20 := Try.func79.trans (congrArg some (by kernel_rfl))
  f21 := ⟨Try.f70.name, by decide, Try.func70.trans (congrArg some (by kernel_rfl))⟩
  f22 := ⟨Try.f71.name, by decide, Try.func71.trans (congrArg some (by kernel_rfl))⟩
  f23 := ⟨Try.f72.name, by decide, Try.func72.trans (congrArg some (by kernel_rfl))⟩
  f24 := ⟨Try.f73.name, by decide, Try.func73.trans (congrArg some (by kernel_rfl))⟩
  f25 := ⟨Try.f74.name, by decide, Try.func74.trans (congrArg some (by kernel_rfl))⟩
  f26 := ⟨Try.f75.name, by decide, Try.func75.trans (congrArg some (by kernel_rfl))⟩
  f27 := ⟨Try.f54.name, by decide, Try.func54.trans (congrArg some (by kernel_rfl))⟩
  f28 := ⟨Try.f76.name, by decide, Try.func76.trans (congrArg some (by kernel_rfl))⟩
  f29 := ⟨Try.f77.name, by decide, Try.func77.trans (congrArg some (by kernel_rfl))⟩
  f31 := Try.func90.trans (congrArg some (by kernel_rfl))
  f32 := Try.func91.trans (congrArg some (by kernel_rfl))
  f36 := ⟨Try.f89.name, by decide, Try.func89.trans (congrArg some (by kernel_rfl))⟩
  f37 := ⟨Try.f92.name, by decide, Try.func92.trans (congrArg some (by kernel_rfl))⟩
  f38 := ⟨Try.f93.name, by decide, Try.func93.trans (congrArg some (by kernel_rfl))⟩
  f39 := ⟨Try.f59.name, by decide, Try.func59.trans (congrArg some (by kernel_rfl))⟩
  f41 := ⟨Try.f98.name, by decide, Try.func98.trans (congrArg some (by kernel_rfl))⟩
  t0 := Try.underlying0
  a0 := Try.isAgg0
  z0 := Try.sizeOf0
  v0 := Try.zeroValue0
  t3 := Try.underlying3
  a3 := Try.isAgg3
  z3 := Try.sizeOf3
  v3 := Try.zeroValue3
  t4 := Try.underlying4
  a4 := Try.isAgg4
  z4 := Try.sizeOf4
  v4 := Try.zeroValue4
  t5 := Try.underlying5
  a5 := Try.isAgg5
  z5 := Try.sizeOf5
  v5 := Try.zeroValue5
  t9 := Try.underlying9
  a9 := Try.isAgg9
  z9 := Try.sizeOf9
  v9 := Try.zeroValue9
  t26 := Try.underlying34
  a26 := Try.isAgg34
  z26 := Try.sizeOf34
  v26 := Try.zeroValue34
  t27 := Try.underlying34
  a27 := Try.isAgg34
  z27 := Try.sizeOf34
  v27 := Try.zeroValue34
  t29 := Try.underlying9
  a29 := Try.isAgg9
  z29 := Try.sizeOf9
  v29 := Try.zeroValue9
  t32 := Try.underlying95
  a32 := Try.isAgg95
  z32 := Try.sizeOf95
  v32 := Try.zeroValue95
  t35 := Try.underlying111
  a35 := Try.isAgg111
  z35 := Try.sizeOf111
  v35 := Try.zeroValue111
  t36 := Try.underlying112
  a36 := Try.isAgg112
  z36 := Try.sizeOf112
  v36 := Try.zeroValue112
  t41 := Try.underlying73
  a41 := Try.isAgg73
  z41 := Try.sizeOf73
  v41 := Try.zeroValue73
  t44 := Try.underlying118
  a44 := Try.isAgg118
  z44 := Try.sizeOf118
  v44 := Try.zeroValue118
  t46 := Try.underlying101
  a46 := Try.isAgg101
  z46 := Try.sizeOf101
  v46 := Try.zeroValue101
  t53 := Try.underlying125
  a53 := Try.isAgg125
  z53 := Try.sizeOf125
  v53 := Try.zeroValue125
  t57 := Try.underlying129
  a57 := Try.isAgg129
  z57 := Try.sizeOf129
  v57 := Try.zeroValue129
  t63 := Try.underlying133
  a63 := Try.isAgg133
  z63 := Try.sizeOf133
  v63 := Try.zeroValue133
  t64 := Try.underlying134
  a64 := Try.isAgg134
  z64 := Try.sizeOf134
  v64 := Try.zeroValue134 }
end Go.Proofs
