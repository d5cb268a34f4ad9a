/- qr3 of this claim, joined by a program of this session: the zS that its theorem uses. -/
import Derived.Shelf.Small.Bits
import Derived.Shelf.Small.Wraps
import Derived.Shelf.Strconv.Itoa0
import Derived.Shelf.Sort.Plain
import Derived.Shelf.Slices.In.SortNone
import Derived.Shelf.SlSortCmp.NoneTotal
import Derived.Ground.SlsfProg
import Derived.Test.YtngkneknopenmaaProg
set_option linter.unusedVariables false
set_option linter.unusedSimpArgs false
section
namespace Go.Proofs
open Go.Shelf
def Try.jM1 : Go.Shelf.Ren := ⟨fun | 122 => 39 | 215 => 62 | n => n, fun | 3 => 3 | 4 => 4 | n => n, fun | n => n⟩
theorem Try.lays122 : Go.Proofs.Lays.n122 Try.prog Try.jM1 := {
 mixed := by kernel_rfl
 f122 := Try.func39.trans (congrArg some (by kernel_rfl))
 f215 := Try.func62.trans (congrArg some (by kernel_rfl))
 t3 := Try.underlying3
 a3 := Try.isAgg3
 z3 := Try.sizeOf3
 v3 := Try.zeroValue3
 t4 := Try.underlying4
 a4 := Try.isAgg4
 z4 := Try.sizeOf4
 v4 := Try.zeroValue4 }
open Go.RowKit in
theorem Try.cmp_Compare_int (x y : Int) (w : World) :
  Calls Try.prog 39 #[.int .i64 x, .int .i64 y] w fun e w' => e = .returned (.int .i64 (Lib.compareInt x y)) ∧ w' = w := Any.cmp_Compare_int Try.lays122 x y w
def Try.jM2 : Go.Shelf.Ren := ⟨fun | 189 => 63 | 125 => 61 | 257 => 82 | 128 => 80 | 129 => 81 | 294 => 91 | 295 => 92 | 296 => 93 | 297 => 94 | 298 => 95 | 299 => 96 | 216 => 97 | 300 => 98 | 301 => 99 | 328 => 104 | 329 => 87 | 330 => 88 | 331 => 105 | 332 => 106 | 215 => 62 | 343 => 109 | n => n, fun | 28 => 29 | 3 => 3 | 46 => 103 | 0 => 0 | 51 => 127 | 53 => 129 | 4 => 4 | 183 => 121 | 182 => 120 | 131 => 107 | 5 => 5 | 9 => 9 | 218 => 133 | 222 => 137 | 228 => 148 | 229 => 149 | n => n, fun | n => n⟩
theorem Try.lays189 : Go.Proofs.Lays.n189 Try.prog Try.jM2 := {
 mixed := by kernel_rfl
 f125 := Try.func61.trans (congrArg some (by kernel_rfl))
 f128 := Try.func80.trans (congrArg some (by kernel_rfl))
 f129 := Try.func81.trans (congrArg some (by kernel_rfl))
 f189 := Try.func63.trans (congrArg some (by kernel_rfl))
 f215 := Try.func62.trans (congrArg some (by kernel_rfl))
 f216 := Try.func97.trans (congrArg some (by kernel_rfl))
 f257 := Try.func82.trans (congrArg some (by kernel_rfl))
 f294 := Try.func91.trans (congrArg some (by kernel_rfl))
 f295 := Try.func92.trans (congrArg some (by kernel_rfl))
 f296 := Try.func93.trans (congrArg some (by kernel_rfl))
 f297 := Try.func94.trans (congrArg some (by kernel_rfl))
 f298 := Try.func95.trans (congrArg some (by kernel_rfl))
 f299 := Try.func96.trans (congrArg some (by kernel_rfl))
 f300 := Try.func98.trans (congrArg some (by kernel_rfl))
 f301 := Try.func99.trans (congrArg some (by kernel_rfl))
 f328 := Try.func104.trans (congrArg some (by kernel_rfl))
 f329 := Try.func87.trans (congrArg some (by kernel_rfl))
 f330 := Try.func88.trans (congrArg some (by kernel_rfl))
 f331 := Try.func105.trans (congrArg some (by kernel_rfl))
 f332 := Try.func106.trans (congrArg some (by kernel_rfl))
 f343 := Try.func109.trans (congrArg some (by kernel_rfl))
 t0 := Try.underlying0
 a0 := Try.isAgg0
 z0 := Try.sizeOf0
 v0 := Try.zeroValue0
 t3 := Try.underlying3
 a3 := Try.isAgg3
 z3 := Try.sizeOf3
 v3 := Try.zeroValue3
 t4 := Try.underlying4
 a4 := Try.isAgg4
 z4 := Try.sizeOf4
 v4 := Try.zeroValue4
 t5 := Try.underlying5
 a5 := Try.isAgg5
 z5 := Try.sizeOf5
 v5 := Try.zeroValue5
 t9 := Try.underlying9
 a9 := Try.isAgg9
 z9 := Try.sizeOf9
 v9 := Try.zeroValue9
 t28 := Try.underlying29
 a28 := Try.isAgg29
 z28 := Try.sizeOf29
 v28 := Try.zeroValue29
 t46 := Try.underlying103
 a46 := Try.isAgg103
 z46 := Try.sizeOf103
 v46 := Try.zeroValue103
 t51 := Try.underlying127
 a51 := Try.isAgg127
 z51 := Try.sizeOf127
 v51 := Try.zeroValue127
 t53 := Try.underlying129
 a53 := Try.isAgg129
 z53 := Try.sizeOf129
 v53 := Try.zeroValue129
 t131 := Try.underlying107
 a131 := Try.isAgg107
 z131 := Try.sizeOf107
 v131 := Try.zeroValue107
 t182 := Try.underlying120
 a182 := Try.isAgg120
 z182 := Try.sizeOf120
 v182 := Try.zeroValue120
 t183 := Try.underlying121
 a183 := Try.isAgg121
 z183 := Try.sizeOf121
 v183 := Try.zeroValue121
 t218 := Try.underlying133
 a218 := Try.isAgg133
 z218 := Try.sizeOf133
 v218 := Try.zeroValue133
 t222 := Try.underlying137
 a222 := Try.isAgg137
 z222 := Try.sizeOf137
 v222 := Try.zeroValue137
 t228 := Try.underlying148
 a228 := Try.isAgg148
 z228 := Try.sizeOf148
 v228 := Try.zeroValue148
 t229 := Try.underlying149
 a229 := Try.isAgg149
 z229 := Try.sizeOf149
 v229 := Try.zeroValue149 }
open Go.Sort Go.RowKit in
theorem Try.slices_Sort_int (blk off cap : Nat) (zs : List Int) (w : World) (hH : Holds (Value.int .i64) w blk off zs.toArray) (hblk : blk < w.heap.size) (hsz : zs.length < 4611686018427387904) :
  Calls Try.prog 63 #[.slice (some ⟨blk, off, none⟩) zs.length cap] w fun e w' =>
   e = .returned (.tuple #[]) ∧ ∃ n os, w' = grow (putRow (Value.int .i64) (Sort.ahead w n) blk off (zs.mergeSort fun x y => decide (x ≤ y)).toArray) os := Any.slices_Sort_int Try.lays189 blk off cap zs w hH hblk hsz
open Go.RowKit Go.Sort in
theorem Try.slices_Sort_int_none (p : Option Addr) (cap : Nat) (w : World) :
  Calls Try.prog 63 #[.slice p 0 cap] w fun e w' => e = .returned (.tuple #[]) ∧ w' = w := Any.slices_Sort_int_none Try.lays189 p cap w
def Try.jM3 : Go.Shelf.Ren := ⟨fun | 6 => 37 | 15 => 61 | 14 => 60 | 28 => 80 | 29 => 81 | 20 => 72 | 21 => 73 | 22 => 74 | 23 => 75 | 24 => 76 | 25 => 77 | 26 => 78 | 27 => 79 | 46 => 86 | 47 => 87 | 48 => 88 | 49 => 89 | 50 => 90 | 57 => 103 | n => n, fun | 22 => 22 | 24 => 55 | 25 => 74 | 3 => 3 | 39 => 103 | 0 => 0 | 53 => 127 | 55 => 129 | 4 => 4 | 46 => 121 | 45 => 120 | 50 => 107 | 5 => 5 | 9 => 9 | 66 => 133 | 70 => 137 | 76 => 148 | 77 => 149 | n => n, fun | n => n⟩
theorem Try.zg5 : Go.Proofs.SlLaysF0.n6 Try.prog Try.jM3 := {
 mixed := by kernel_rfl
 f6 := ⟨Try.f37.name, by decide, Try.func37.trans (congrArg some (by kernel_rfl))⟩
 f14 := ⟨Try.f60.name, by decide, Try.func60.trans (congrArg some (by kernel_rfl))⟩
 f15 := Try.func61.trans (congrArg some (by kernel_rfl))
 f20 := ⟨Try.f72.name, by decide, Try.func72.trans (congrArg some (by kernel_rfl))⟩
 f21 := ⟨Try.f73.name, by decide, Try.func73.trans (congrArg some (by kernel_rfl))⟩
 f22 := ⟨Try.f74.name, by decide, Try.func74.trans (congrArg some (by kernel_rfl))⟩
 f23 := ⟨Try.f75.name, by decide, Try.func75.trans (congrArg some (by kernel_rfl))⟩
 f24 := ⟨Try.f76.name, by decide, Try.func76.trans (congrArg some (by kernel_rfl))⟩
 f25 := ⟨Try.f77.name, by decide, Try.func77.trans (congrArg some (by kernel_rfl))⟩
 f26 := ⟨Try.f78.name, by decide, Try.func78.trans (congrArg some (by kernel_rfl))⟩
 f27 := ⟨Try.f79.name, by decide, Try.func79.trans (congrArg some (by kernel_rfl))⟩
 f28 := Try.func80.trans (congrArg some (by kernel_rfl))
 f29 := Try.func81.trans (congrArg some (by kernel_rfl))
 f46 := ⟨Try.f86.name, by decide, Try.func86.trans (congrArg some (by kernel_rfl))⟩
 f47 := Try.func87.trans (congrArg some (by kernel_rfl))
 f48 := Try.func88.trans (congrArg some (by kernel_rfl))
 f49 := ⟨Try.f89.name, by decide, Try.func89.trans (congrArg some (by kernel_rfl))⟩
 f50 := ⟨Try.f90.name, by decide, Try.func90.trans (congrArg some (by kernel_rfl))⟩
 f57 := ⟨Try.f103.name, by decide, Try.func103.trans (congrArg some (by kernel_rfl))⟩
 t0 := Try.underlying0
 a0 := Try.isAgg0
 z0 := Try.sizeOf0
 v0 := Try.zeroValue0
 t3 := Try.underlying3
 a3 := Try.isAgg3
 z3 := Try.sizeOf3
 v3 := Try.zeroValue3
 t4 := Try.underlying4
 a4 := Try.isAgg4
 z4 := Try.sizeOf4
 v4 := Try.zeroValue4
 t5 := Try.underlying5
 a5 := Try.isAgg5
 z5 := Try.sizeOf5
 v5 := Try.zeroValue5
 t9 := Try.underlying9
 a9 := Try.isAgg9
 z9 := Try.sizeOf9
 v9 := Try.zeroValue9
 t22 := Try.underlying22
 a22 := Try.isAgg22
 z22 := Try.sizeOf22
 v22 := Try.zeroValue22
 t25 := Try.underlying74
 a25 := Try.isAgg74
 z25 := Try.sizeOf74
 v25 := Try.zeroValue74
 t39 := Try.underlying103
 a39 := Try.isAgg103
 z39 := Try.sizeOf103
 v39 := Try.zeroValue103
 t45 := Try.underlying120
 a45 := Try.isAgg120
 z45 := Try.sizeOf120
 v45 := Try.zeroValue120
 t46 := Try.underlying121
 a46 := Try.isAgg121
 z46 := Try.sizeOf121
 v46 := Try.zeroValue121
 t50 := Try.underlying107
 a50 := Try.isAgg107
 z50 := Try.sizeOf107
 v50 := Try.zeroValue107
 t53 := Try.underlying127
 a53 := Try.isAgg127
 z53 := Try.sizeOf127
 v53 := Try.zeroValue127
 t55 := Try.underlying129
 a55 := Try.isAgg129
 z55 := Try.sizeOf129
 v55 := Try.zeroValue129
 t66 := Try.underlying133
 a66 := Try.isAgg133
 z66 := Try.sizeOf133
 v66 := Try.zeroValue133
 t70 := Try.underlying137
 a70 := Try.isAgg137
 z70 := Try.sizeOf137
 v70 := Try.zeroValue137
 t76 := Try.underlying148
 a76 := Try.isAgg148
 z76 := Try.sizeOf148
 v76 := Try.zeroValue148
 t77 := Try.underlying149
 a77 := Try.isAgg149
 z77 := Try.sizeOf149
 v77 := Try.zeroValue149 }
end Go.Proofs
end
