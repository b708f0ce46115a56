import Derived.Shelf.Sort.Plain
import Derived.Ground.Names2Prog
import Derived.Shelf.Slices.CompactI
import Derived.Shelf.Slices.In.SortNone
import Derived.Ground.SlgnProg
import Derived.Test.YtbbbcdfagmcfgaaProg
namespace Go.Proofs
open Go.Shelf
def Try.lays189_ren : Go.Shelf.Ren := ⟨fun | 189 => 36 | 125 => 48 | 257 => 47 | 128 => 64 | 129 => 65 | 294 => 55 | 295 => 56 | 296 => 57 | 297 => 58 | 298 => 59 | 299 => 60 | 216 => 61 | 300 => 62 | 301 => 63 | 328 => 68 | 329 => 69 | 330 => 70 | 331 => 71 | 332 => 72 | 215 => 73 | 343 => 74 | n => n, fun | 28 => 26 | 3 => 3 | 46 => 62 | 0 => 0 | 51 => 80 | 53 => 61 | 4 => 4 | 183 => 72 | 182 => 71 | 131 => 77 | 5 => 5 | 9 => 9 | 218 => 84 | 222 => 88 | 228 => 90 | 229 => 91 | n => n, fun | n => n⟩
theorem Try.lays189 : Go.Proofs.Lays.n189 Try.prog Try.lays189_ren := {
  mixed := by kernel_rfl
  f125 := Try.func48.trans (congrArg some (by kernel_rfl))
  f128 := Try.func64.trans (congrArg some (by kernel_rfl))
  f129 := Try.func65.trans (congrArg some (by kernel_rfl))
  f189 := Try.func36.trans (congrArg some (by kernel_rfl))
  f215 := Try.func73.trans (congrArg some (by kernel_rfl))
  f216 := Try.func61.trans (congrArg some (by kernel_rfl))
  f257 := Try.func47.trans (congrArg some (by kernel_rfl))
  f294 := Try.func55.trans (congrArg some (by kernel_rfl))
  f295 := Try.func56.trans (congrArg some (by kernel_rfl))
  f296 := Try.func57.trans (congrArg some (by kernel_rfl))
  f297 := Try.func58.trans (congrArg some (by kernel_rfl))
  f298 := Try.func59.trans (congrArg some (by kernel_rfl))
  f299 := Try.func60.trans (congrArg some (by kernel_rfl))
  f300 := Try.func62.trans (congrArg some (by kernel_rfl))
  f301 := Try.func63.trans (congrArg some (by kernel_rfl))
  f328 := Try.func68.trans (congrArg some (by kernel_rfl))
  f329 := Try.func69.trans (congrArg some (by kernel_rfl))
  f330 := Try.func70.trans (congrArg some (by kernel_rfl))
  f331 := Try.func71.trans (congrArg some (by kernel_rfl))
  f332 := Try.func72.trans (congrArg some (by kernel_rfl))
  f343 := Try.func74.trans (congrArg some (by kernel_rfl))
  t0 := Try.underlying0
  a0 := Try.isAgg0
  z0 := Try.sizeOf0
  v0 := Try.zeroValue0
  t3 := Try.underlying3
  a3 := Try.isAgg3
  z3 := Try.sizeOf3
  v3 := Try.zeroValue3
  t4 := Try.underlying4
  a4 := Try.isAgg4
  z4 := Try.sizeOf4
  v4 := Try.zeroValue4
  t5 := Try.underlying5
  a5 := Try.isAgg5
  z5 := Try.sizeOf5
  v5 := Try.zeroValue5
  t9 := Try.underlying9
  a9 := Try.isAgg9
  z9 := Try.sizeOf9
  v9 := Try.zeroValue9
  t28 := Try.underlying26
  a28 := Try.isAgg26
  z28 := Try.sizeOf26
  v28 := Try.zeroValue26
  t46 := Try.underlying62
  a46 := Try.isAgg62
  z46 := Try.sizeOf62
  v46 := Try.zeroValue62
  t51 := Try.underlying80
  a51 := Try.isAgg80
  z51 := Try.sizeOf80
  v51 := Try.zeroValue80
  t53 := Try.underlying61
  a53 := Try.isAgg61
  z53 := Try.sizeOf61
  v53 := Try.zeroValue61
  t131 := Try.underlying77
  a131 := Try.isAgg77
  z131 := Try.sizeOf77
  v131 := Try.zeroValue77
  t182 := Try.underlying71
  a182 := Try.isAgg71
  z182 := Try.sizeOf71
  v182 := Try.zeroValue71
  t183 := Try.underlying72
  a183 := Try.isAgg72
  z183 := Try.sizeOf72
  v183 := Try.zeroValue72
  t218 := Try.underlying84
  a218 := Try.isAgg84
  z218 := Try.sizeOf84
  v218 := Try.zeroValue84
  t222 := Try.underlying88
  a222 := Try.isAgg88
  z222 := Try.sizeOf88
  v222 := Try.zeroValue88
  t228 := Try.underlying90
  a228 := Try.isAgg90
  z228 := Try.sizeOf90
  v228 := Try.zeroValue90
  t229 := Try.underlying91
  a229 := Try.isAgg91
  z229 := Try.sizeOf91
  v229 := Try.zeroValue91 }
open Go.Sort Go.RowKit in
theorem Try.slices_Sort_int (blk off cap : Nat) (zs : List Int) (w : World) (hH : Holds (Value.int .i64) w blk off zs.toArray) (hblk : blk < w.heap.size) (hsz : zs.length < 4611686018427387904) :
    Calls Try.prog 36 #[.slice (some ⟨blk, off, none⟩) zs.length cap] w fun e w' =>
      e = .returned (.tuple #[]) ∧ ∃ n os, w' = grow (putRow (Value.int .i64) (Sort.ahead w n) blk off (zs.mergeSort fun x y => decide (x ≤ y)).toArray) os := Any.slices_Sort_int Try.lays189 blk off cap zs w hH hblk hsz
def Try.laysNm220_ren : Go.Shelf.Ren := ⟨fun | 20 => 37 | n => n, fun | 22 => 26 | 3 => 3 | 4 => 4 | 0 => 0 | n => n, fun | n => n⟩
theorem Try.laysNm220 : Go.Proofs.Lays2.n20 Try.prog Try.laysNm220_ren := {
  mixed := by kernel_rfl
  f20 := Try.func37.trans (congrArg some (by kernel_rfl))
  t0 := Try.underlying0
  a0 := Try.isAgg0
  z0 := Try.sizeOf0
  v0 := Try.zeroValue0
  t3 := Try.underlying3
  a3 := Try.isAgg3
  z3 := Try.sizeOf3
  v3 := Try.zeroValue3
  t4 := Try.underlying4
  a4 := Try.isAgg4
  z4 := Try.sizeOf4
  v4 := Try.zeroValue4
  t22 := Try.underlying26
  a22 := Try.isAgg26
  z22 := Try.sizeOf26
  v22 := Try.zeroValue26
  i3 := by kernel_rfl }
open Go.RowKit Go.Lib Go.Sort in
theorem Try.slices_Compact_int (blk off cap : Nat) (zs : List Int) (w : World) (hH : Holds (Value.int .i64) w blk off zs.toArray) (hsz : zs.length ≤ 9223372036854775807) (hcap : zs.length ≤ cap) :
    Calls Try.prog 37 #[.slice (some ⟨blk, off, none⟩) zs.length cap] w fun e w' => e = .returned (.slice (some ⟨blk, off, none⟩) (Lib.compact zs).length cap) ∧ ∃ q, w' = putRow (Value.int .i64) (Sort.ahead w q) blk off (Lib.compact zs ++ List.replicate (zs.length - (Lib.compact zs).length) 0).toArray := Any.slices_Compact_int Try.laysNm220 blk off cap zs w hH hsz hcap
open Go.RowKit Go.Lib Go.Sort in
theorem Try.slices_Compact_int_empty (a : Option Addr) (cap : Nat) (w : World) :
    Calls Try.prog 37 #[.slice a 0 cap] w fun e w' => e = .returned (.slice a 0 cap) ∧ w' = w := Any.slices_Compact_int_empty Try.laysNm220 a cap w
open Go.RowKit Go.Sort in
theorem Try.slices_Sort_int_none (p : Option Addr) (cap : Nat) (w : World) :
    Calls Try.prog 36 #[.slice p 0 cap] w fun e w' => e = .returned (.tuple #[]) ∧ w' = w := Any.slices_Sort_int_none Try.lays189 p cap w
end Go.Proofs
