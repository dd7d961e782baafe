/- A contract of the kit's library, laid at this seat by the kit's tool. -/
import Derived.Shelf.Sort.Plain
import Derived.Ground.Names2Prog
import Derived.Shelf.Slices.In.SortNone
import Derived.Test.YtgdlplhglpinaaaProg

namespace Go.Proofs.Ytgdlplhglpinaaa
open Go Go.Proofs
open Go.Shelf
def lays189_ren : Go.Shelf.Ren := ⟨fun | 189 => 25 | 125 => 28 | 257 => 27 | 128 => 38 | 129 => 39 | 294 => 29 | 295 => 30 | 296 => 31 | 297 => 32 | 298 => 33 | 299 => 34 | 216 => 35 | 300 => 36 | 301 => 37 | 328 => 40 | 329 => 41 | 330 => 42 | 331 => 43 | 332 => 44 | 215 => 45 | 343 => 46 | n => n, fun | 28 => 35 | 3 => 3 | 46 => 60 | 0 => 0 | 51 => 71 | 53 => 73 | 4 => 4 | 183 => 63 | 182 => 62 | 131 => 68 | 5 => 5 | 9 => 9 | 218 => 74 | 222 => 78 | 228 => 81 | 229 => 82 | n => n, fun | n => n⟩
theorem lays189 : Go.Proofs.Lays.n189 Try.prog lays189_ren := {
  mixed := by kernel_rfl
  f125 := Try.func28.trans (congrArg some (by kernel_rfl))
  f128 := Try.func38.trans (congrArg some (by kernel_rfl))
  f129 := Try.func39.trans (congrArg some (by kernel_rfl))
  f189 := Try.func25.trans (congrArg some (by kernel_rfl))
  f215 := Try.func45.trans (congrArg some (by kernel_rfl))
  f216 := Try.func35.trans (congrArg some (by kernel_rfl))
  f257 := Try.func27.trans (congrArg some (by kernel_rfl))
  f294 := Try.func29.trans (congrArg some (by kernel_rfl))
  f295 := Try.func30.trans (congrArg some (by kernel_rfl))
  f296 := Try.func31.trans (congrArg some (by kernel_rfl))
  f297 := Try.func32.trans (congrArg some (by kernel_rfl))
  f298 := Try.func33.trans (congrArg some (by kernel_rfl))
  f299 := Try.func34.trans (congrArg some (by kernel_rfl))
  f300 := Try.func36.trans (congrArg some (by kernel_rfl))
  f301 := Try.func37.trans (congrArg some (by kernel_rfl))
  f328 := Try.func40.trans (congrArg some (by kernel_rfl))
  f329 := Try.func41.trans (congrArg some (by kernel_rfl))
  f330 := Try.func42.trans (congrArg some (by kernel_rfl))
  f331 := Try.func43.trans (congrArg some (by kernel_rfl))
  f332 := Try.func44.trans (congrArg some (by kernel_rfl))
  f343 := Try.func46.trans (congrArg some (by kernel_rfl))
  t0 := Try.underlying0
  a0 := Try.isAgg0
  z0 := Try.sizeOf0
  v0 := Try.zeroValue0
  t3 := Try.underlying3
  a3 := Try.isAgg3
  z3 := Try.sizeOf3
  v3 := Try.zeroValue3
  t4 := Try.underlying4
  a4 := Try.isAgg4
  z4 := Try.sizeOf4
  v4 := Try.zeroValue4
  t5 := Try.underlying5
  a5 := Try.isAgg5
  z5 := Try.sizeOf5
  v5 := Try.zeroValue5
  t9 := Try.underlying9
  a9 := Try.isAgg9
  z9 := Try.sizeOf9
  v9 := Try.zeroValue9
  t28 := Try.underlying35
  a28 := Try.isAgg35
  z28 := Try.sizeOf35
  v28 := Try.zeroValue35
  t46 := Try.underlying60
  a46 := Try.isAgg60
  z46 := Try.sizeOf60
  v46 := Try.zeroValue60
  t51 := Try.underlying71
  a51 := Try.isAgg71
  z51 := Try.sizeOf71
  v51 := Try.zeroValue71
  t53 := Try.underlying73
  a53 := Try.isAgg73
  z53 := Try.sizeOf73
  v53 := Try.zeroValue73
  t131 := Try.underlying68
  a131 := Try.isAgg68
  z131 := Try.sizeOf68
  v131 := Try.zeroValue68
  t182 := Try.underlying62
  a182 := Try.isAgg62
  z182 := Try.sizeOf62
  v182 := Try.zeroValue62
  t183 := Try.underlying63
  a183 := Try.isAgg63
  z183 := Try.sizeOf63
  v183 := Try.zeroValue63
  t218 := Try.underlying74
  a218 := Try.isAgg74
  z218 := Try.sizeOf74
  v218 := Try.zeroValue74
  t222 := Try.underlying78
  a222 := Try.isAgg78
  z222 := Try.sizeOf78
  v222 := Try.zeroValue78
  t228 := Try.underlying81
  a228 := Try.isAgg81
  z228 := Try.sizeOf81
  v228 := Try.zeroValue81
  t229 := Try.underlying82
  a229 := Try.isAgg82
  z229 := Try.sizeOf82
  v229 := Try.zeroValue82 }
open Go.Sort Go.RowKit in
theorem slices_Sort_int (blk off cap : Nat) (zs : List Int) (w : World) (hH : Holds (Value.int .i64) w blk off zs.toArray) (hblk : blk < w.heap.size) (hsz : zs.length < 4611686018427387904) :
    Calls Try.prog 25 #[.slice (some ⟨blk, off, none⟩) zs.length cap] w fun e w' =>
      e = .returned (.tuple #[]) ∧ ∃ n os, w' = grow (putRow (Value.int .i64) (Sort.ahead w n) blk off (zs.mergeSort fun x y => decide (x ≤ y)).toArray) os := Any.slices_Sort_int lays189 blk off cap zs w hH hblk hsz
open Go.RowKit Go.Sort in
/-- .. and plain. (LAID: no walk: one application.) -/
theorem slices_Sort_int_none (p : Option Addr) (cap : Nat) (w : World) :
    Calls Try.prog 25 #[.slice p 0 cap] w fun e w' => e = .returned (.tuple #[]) ∧ w' = w := Any.slices_Sort_int_none lays189 p cap w
end Go.Proofs.Ytgdlplhglpinaaa
