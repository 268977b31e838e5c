/- A part of the library, as the kit's shelf has it, for this program. -/
import Derived.Test.YtahpemfnhepgoaaLtA
import Derived.Test.YtahpemfnhepgoaaProg
import Derived.Ground.NamesProg
import Derived.Shelf.Sort.Plain
namespace Go.Proofs.Ytahpemfnhepgoaa
set_option linter.all false
set_option maxRecDepth 4000
open Go.Shelf
def laysSort_ren : Go.Shelf.Ren := ⟨fun | 190 => 47 | 125 => 58 | 258 => 57 | 128 => 75 | 129 => 76 | 302 => 66 | 303 => 67 | 304 => 68 | 305 => 69 | 306 => 70 | 307 => 71 | 308 => 72 | 309 => 73 | 310 => 74 | 333 => 80 | 329 => 81 | 330 => 82 | 334 => 83 | 335 => 84 | 336 => 85 | 344 => 88 | n => n, fun | 31 => 66 | 9 => 9 | 3 => 3 | 46 => 41 | 0 => 0 | 51 => 98 | 53 => 100 | 4 => 4 | 183 => 90 | 182 => 89 | 131 => 95 | 5 => 5 | 218 => 104 | 222 => 108 | 228 => 113 | 229 => 114 | n => n, fun | n => n⟩
theorem laysSort : Go.Proofs.Lays.n190 Try.prog laysSort_ren := {
  mixed := by kernel_rfl
  f125 := Try.func58.trans (congrArg some (by kernel_rfl))
  f128 := Try.func75.trans (congrArg some (by kernel_rfl))
  f129 := Try.func76.trans (congrArg some (by kernel_rfl))
  f190 := Try.func47.trans (congrArg some (by kernel_rfl))
  f258 := Try.func57.trans (congrArg some (by kernel_rfl))
  f302 := Try.func66.trans (congrArg some (by kernel_rfl))
  f303 := Try.func67.trans (congrArg some (by kernel_rfl))
  f304 := Try.func68.trans (congrArg some (by kernel_rfl))
  f305 := Try.func69.trans (congrArg some (by kernel_rfl))
  f306 := Try.func70.trans (congrArg some (by kernel_rfl))
  f307 := Try.func71.trans (congrArg some (by kernel_rfl))
  f308 := Try.func72.trans (congrArg some (by kernel_rfl))
  f309 := Try.func73.trans (congrArg some (by kernel_rfl))
  f310 := Try.func74.trans (congrArg some (by kernel_rfl))
  f329 := Try.func81.trans (congrArg some (by kernel_rfl))
  f330 := Try.func82.trans (congrArg some (by kernel_rfl))
  f333 := Try.func80.trans (congrArg some (by kernel_rfl))
  f334 := Try.func83.trans (congrArg some (by kernel_rfl))
  f335 := Try.func84.trans (congrArg some (by kernel_rfl))
  f336 := Try.func85.trans (congrArg some (by kernel_rfl))
  f344 := Try.func88.trans (congrArg some (by kernel_rfl))
  t0 := Try.underlying0
  a0 := Try.isAgg0
  z0 := Try.sizeOf0
  v0 := Try.zeroValue0
  t3 := Try.underlying3
  a3 := Try.isAgg3
  z3 := Try.sizeOf3
  v3 := Try.zeroValue3
  t4 := Try.underlying4
  a4 := Try.isAgg4
  z4 := Try.sizeOf4
  v4 := Try.zeroValue4
  t5 := Try.underlying5
  a5 := Try.isAgg5
  z5 := Try.sizeOf5
  v5 := Try.zeroValue5
  t9 := Try.underlying9
  a9 := Try.isAgg9
  z9 := Try.sizeOf9
  v9 := Try.zeroValue9
  t31 := Try.underlying66
  a31 := Try.isAgg66
  z31 := Try.sizeOf66
  v31 := Try.zeroValue66
  t46 := Try.underlying41
  a46 := Try.isAgg41
  z46 := Try.sizeOf41
  v46 := Try.zeroValue41
  t51 := Try.underlying98
  a51 := Try.isAgg98
  z51 := Try.sizeOf98
  v51 := Try.zeroValue98
  t53 := Try.underlying100
  a53 := Try.isAgg100
  z53 := Try.sizeOf100
  v53 := Try.zeroValue100
  t131 := Try.underlying95
  a131 := Try.isAgg95
  z131 := Try.sizeOf95
  v131 := Try.zeroValue95
  t182 := Try.underlying89
  a182 := Try.isAgg89
  z182 := Try.sizeOf89
  v182 := Try.zeroValue89
  t183 := Try.underlying90
  a183 := Try.isAgg90
  z183 := Try.sizeOf90
  v183 := Try.zeroValue90
  t218 := Try.underlying104
  a218 := Try.isAgg104
  z218 := Try.sizeOf104
  v218 := Try.zeroValue104
  t222 := Try.underlying108
  a222 := Try.isAgg108
  z222 := Try.sizeOf108
  v222 := Try.zeroValue108
  t228 := Try.underlying113
  a228 := Try.isAgg113
  z228 := Try.sizeOf113
  v228 := Try.zeroValue113
  t229 := Try.underlying114
  a229 := Try.isAgg114
  z229 := Try.sizeOf114
  v229 := Try.zeroValue114 }
end Go.Proofs.Ytahpemfnhepgoaa
