/- Contracts of the library's functions at this program: laid by program off the shelf, in plain words. -/
import Derived.Shelf.Bits.Mul64
import Derived.Shelf.SlIter.Sorted
import Derived.Shelf.SortM.Plain
import Derived.Shelf.SortM.SortNone
import Derived.Ground.GgzProg
import Derived.Ground.SlgmProg
import Derived.Test.YtlhdnenlgceeeaaProg
namespace Go.Proofs
open Go.Shelf
def Try.lays264_ren : Go.Shelf.Ren := ⟨fun | 264 => 89 | n => n, fun | 53 => 97 | 46 => 89 | n => n, fun | n => n⟩
theorem Try.lays264 : Go.Proofs.Lays.n264 Try.prog Try.lays264_ren := {
  mixed := by kernel_rfl
  f264 := Try.func89.trans (congrArg some (by kernel_rfl))
  t46 := Try.underlying89
  a46 := Try.isAgg89
  z46 := Try.sizeOf89
  v46 := Try.zeroValue89
  t53 := Try.underlying97
  a53 := Try.isAgg97
  z53 := Try.sizeOf97
  v53 := Try.zeroValue97 }
open Go.RowKit Go.Lib in
theorem Try.bits_Mul64 (x y : Nat) (hx : x < 18446744073709551616) (hy : y < 18446744073709551616) (w : World) :
    Calls Try.prog 89 #[.int .u64 x, .int .u64 y] w fun e w' => e = .returned (.tuple #[.int .u64 ((x * y / 18446744073709551616 : Nat) : Int), .int .u64 ((x * y % 18446744073709551616 : Nat) : Int)]) ∧ w' = w := Any.bits_Mul64 Try.lays264 x y hx hy w
def Try.sorted45_ren : Go.Shelf.Ren := ⟨fun | 6 => 45 | 8 => 71 | 9 => 50 | 11 => 108 | 13 => 76 | 12 => 75 | 23 => 118 | 24 => 119 | 14 => 110 | 15 => 111 | 16 => 112 | 17 => 113 | 18 => 114 | 19 => 115 | 20 => 73 | 21 => 116 | 22 => 117 | 25 => 133 | 26 => 134 | 27 => 135 | 28 => 136 | 29 => 137 | 30 => 109 | 31 => 149 | n => n, fun | 26 => 9 | 28 => 68 | 24 => 30 | 0 => 0 | 3 => 3 | 37 => 89 | 48 => 126 | 50 => 97 | 4 => 4 | 40 => 120 | 39 => 119 | 45 => 72 | 5 => 5 | 9 => 9 | 51 => 141 | 55 => 145 | 57 => 155 | 58 => 51 | 33 => 81 | n => n, fun | n => n⟩
theorem Try.sorted45 : Go.Proofs.SlLaysZ.n6 Try.prog Try.sorted45_ren := {
  mixed := by kernel_rfl
  f6 := ⟨Try.f45.name, by decide, Try.func45.trans (congrArg some (by kernel_rfl))⟩
  f8 := ⟨Try.f71.name, by decide, Try.func71.trans (congrArg some (by kernel_rfl))⟩
  f11 := ⟨Try.f108.name, by decide, Try.func108.trans (congrArg some (by kernel_rfl))⟩
  t0 := Try.underlying0
  a0 := Try.isAgg0
  z0 := Try.sizeOf0
  v0 := Try.zeroValue0
  t24 := Try.underlying30
  a24 := Try.isAgg30
  z24 := Try.sizeOf30
  v24 := Try.zeroValue30
  t26 := Try.underlying9
  a26 := Try.isAgg9
  z26 := Try.sizeOf9
  v26 := Try.zeroValue9
  t28 := Try.underlying68
  a28 := Try.isAgg68
  z28 := Try.sizeOf68
  v28 := Try.zeroValue68
  i26 := by kernel_rfl }
def Try.sort50_ren : Go.Shelf.Ren := ⟨fun | 6 => 50 | 8 => 76 | 9 => 75 | 19 => 118 | 20 => 119 | 21 => 110 | 22 => 111 | 23 => 112 | 24 => 113 | 25 => 114 | 26 => 115 | 27 => 73 | 28 => 116 | 29 => 117 | 36 => 133 | 31 => 134 | 32 => 135 | 37 => 136 | 38 => 137 | 39 => 109 | 41 => 149 | n => n, fun | 27 => 30 | 29 => 9 | 3 => 3 | 32 => 89 | 26 => 30 | 0 => 0 | 44 => 126 | 46 => 97 | 4 => 4 | 36 => 120 | 35 => 119 | 41 => 72 | 5 => 5 | 9 => 9 | 53 => 141 | 57 => 145 | 63 => 155 | 64 => 51 | n => n, fun | n => n⟩
theorem Try.sort50 : Go.Proofs.SlLaysM.n6 Try.prog Try.sort50_ren := {
  mixed := by kernel_rfl
  f6 := ⟨Try.f50.name, by decide, Try.func50.trans (congrArg some (by kernel_rfl))⟩
  f8 := Try.func76.trans (congrArg some (by kernel_rfl))
  f9 := ⟨Try.f75.name, by decide, Try.func75.trans (congrArg some (by kernel_rfl))⟩
  f19 := Try.func118.trans (congrArg some (by kernel_rfl))
  f20 := Try.func119.trans (congrArg some (by kernel_rfl))
  f21 := ⟨Try.f110.name, by decide, Try.func110.trans (congrArg some (by kernel_rfl))⟩
  f22 := ⟨Try.f111.name, by decide, Try.func111.trans (congrArg some (by kernel_rfl))⟩
  f23 := ⟨Try.f112.name, by decide, Try.func112.trans (congrArg some (by kernel_rfl))⟩
  f24 := ⟨Try.f113.name, by decide, Try.func113.trans (congrArg some (by kernel_rfl))⟩
  f25 := ⟨Try.f114.name, by decide, Try.func114.trans (congrArg some (by kernel_rfl))⟩
  f26 := ⟨Try.f115.name, by decide, Try.func115.trans (congrArg some (by kernel_rfl))⟩
  f27 := ⟨Try.f73.name, by decide, Try.func73.trans (congrArg some (by kernel_rfl))⟩
  f28 := ⟨Try.f116.name, by decide, Try.func116.trans (congrArg some (by kernel_rfl))⟩
  f29 := ⟨Try.f117.name, by decide, Try.func117.trans (congrArg some (by kernel_rfl))⟩
  f31 := Try.func134.trans (congrArg some (by kernel_rfl))
  f32 := Try.func135.trans (congrArg some (by kernel_rfl))
  f36 := ⟨Try.f133.name, by decide, Try.func133.trans (congrArg some (by kernel_rfl))⟩
  f37 := ⟨Try.f136.name, by decide, Try.func136.trans (congrArg some (by kernel_rfl))⟩
  f38 := ⟨Try.f137.name, by decide, Try.func137.trans (congrArg some (by kernel_rfl))⟩
  f39 := ⟨Try.f109.name, by decide, Try.func109.trans (congrArg some (by kernel_rfl))⟩
  f41 := ⟨Try.f149.name, by decide, Try.func149.trans (congrArg some (by kernel_rfl))⟩
  t0 := Try.underlying0
  a0 := Try.isAgg0
  z0 := Try.sizeOf0
  v0 := Try.zeroValue0
  t3 := Try.underlying3
  a3 := Try.isAgg3
  z3 := Try.sizeOf3
  v3 := Try.zeroValue3
  t4 := Try.underlying4
  a4 := Try.isAgg4
  z4 := Try.sizeOf4
  v4 := Try.zeroValue4
  t5 := Try.underlying5
  a5 := Try.isAgg5
  z5 := Try.sizeOf5
  v5 := Try.zeroValue5
  t9 := Try.underlying9
  a9 := Try.isAgg9
  z9 := Try.sizeOf9
  v9 := Try.zeroValue9
  t26 := Try.underlying30
  a26 := Try.isAgg30
  z26 := Try.sizeOf30
  v26 := Try.zeroValue30
  t27 := Try.underlying30
  a27 := Try.isAgg30
  z27 := Try.sizeOf30
  v27 := Try.zeroValue30
  t29 := Try.underlying9
  a29 := Try.isAgg9
  z29 := Try.sizeOf9
  v29 := Try.zeroValue9
  t32 := Try.underlying89
  a32 := Try.isAgg89
  z32 := Try.sizeOf89
  v32 := Try.zeroValue89
  t35 := Try.underlying119
  a35 := Try.isAgg119
  z35 := Try.sizeOf119
  v35 := Try.zeroValue119
  t36 := Try.underlying120
  a36 := Try.isAgg120
  z36 := Try.sizeOf120
  v36 := Try.zeroValue120
  t41 := Try.underlying72
  a41 := Try.isAgg72
  z41 := Try.sizeOf72
  v41 := Try.zeroValue72
  t44 := Try.underlying126
  a44 := Try.isAgg126
  z44 := Try.sizeOf126
  v44 := Try.zeroValue126
  t46 := Try.underlying97
  a46 := Try.isAgg97
  z46 := Try.sizeOf97
  v46 := Try.zeroValue97
  t53 := Try.underlying141
  a53 := Try.isAgg141
  z53 := Try.sizeOf141
  v53 := Try.zeroValue141
  t57 := Try.underlying145
  a57 := Try.isAgg145
  z57 := Try.sizeOf145
  v57 := Try.zeroValue145
  t63 := Try.underlying155
  a63 := Try.isAgg155
  z63 := Try.sizeOf155
  v63 := Try.zeroValue155
  t64 := Try.underlying51
  a64 := Try.isAgg51
  z64 := Try.sizeOf51
  v64 := Try.zeroValue51 }
end Go.Proofs
