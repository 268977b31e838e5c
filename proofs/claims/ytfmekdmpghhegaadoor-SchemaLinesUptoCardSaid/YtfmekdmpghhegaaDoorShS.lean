/- A part of the library, as the kit's shelf has it, for this program. -/
import Derived.Test.YtfmekdmpghhegaaDoorLtA
import Derived.Test.YtfmekdmpghhegaaDoorProg
import Derived.Ground.NamesProg
import Derived.Shelf.Sort.Plain
namespace Go.Proofs.YtfmekdmpghhegaaDoor
set_option linter.all false
set_option maxRecDepth 4000
open Go.Shelf
def laysSort_ren : Go.Shelf.Ren := ⟨fun | 190 => 33 | 125 => 43 | 258 => 42 | 128 => 60 | 129 => 61 | 302 => 51 | 303 => 52 | 304 => 53 | 305 => 54 | 306 => 55 | 307 => 56 | 308 => 57 | 309 => 58 | 310 => 59 | 333 => 68 | 329 => 69 | 330 => 70 | 334 => 71 | 335 => 72 | 336 => 73 | 344 => 76 | n => n, fun | 31 => 26 | 9 => 9 | 3 => 3 | 46 => 83 | 0 => 0 | 51 => 102 | 53 => 87 | 4 => 4 | 183 => 95 | 182 => 94 | 131 => 99 | 5 => 5 | 218 => 111 | 222 => 115 | 228 => 117 | 229 => 118 | n => n, fun | n => n⟩
theorem laysSort : Go.Proofs.Lays.n190 Tryd.prog laysSort_ren := {
  mixed := by kernel_rfl
  f125 := Tryd.func43.trans (congrArg some (by kernel_rfl))
  f128 := Tryd.func60.trans (congrArg some (by kernel_rfl))
  f129 := Tryd.func61.trans (congrArg some (by kernel_rfl))
  f190 := Tryd.func33.trans (congrArg some (by kernel_rfl))
  f258 := Tryd.func42.trans (congrArg some (by kernel_rfl))
  f302 := Tryd.func51.trans (congrArg some (by kernel_rfl))
  f303 := Tryd.func52.trans (congrArg some (by kernel_rfl))
  f304 := Tryd.func53.trans (congrArg some (by kernel_rfl))
  f305 := Tryd.func54.trans (congrArg some (by kernel_rfl))
  f306 := Tryd.func55.trans (congrArg some (by kernel_rfl))
  f307 := Tryd.func56.trans (congrArg some (by kernel_rfl))
  f308 := Tryd.func57.trans (congrArg some (by kernel_rfl))
  f309 := Tryd.func58.trans (congrArg some (by kernel_rfl))
  f310 := Tryd.func59.trans (congrArg some (by kernel_rfl))
  f329 := Tryd.func69.trans (congrArg some (by kernel_rfl))
  f330 := Tryd.func70.trans (congrArg some (by kernel_rfl))
  f333 := Tryd.func68.trans (congrArg some (by kernel_rfl))
  f334 := Tryd.func71.trans (congrArg some (by kernel_rfl))
  f335 := Tryd.func72.trans (congrArg some (by kernel_rfl))
  f336 := Tryd.func73.trans (congrArg some (by kernel_rfl))
  f344 := Tryd.func76.trans (congrArg some (by kernel_rfl))
  t0 := Tryd.underlying0
  a0 := Tryd.isAgg0
  z0 := Tryd.sizeOf0
  v0 := Tryd.zeroValue0
  t3 := Tryd.underlying3
  a3 := Tryd.isAgg3
  z3 := Tryd.sizeOf3
  v3 := Tryd.zeroValue3
  t4 := Tryd.underlying4
  a4 := Tryd.isAgg4
  z4 := Tryd.sizeOf4
  v4 := Tryd.zeroValue4
  t5 := Tryd.underlying5
  a5 := Tryd.isAgg5
  z5 := Tryd.sizeOf5
  v5 := Tryd.zeroValue5
  t9 := Tryd.underlying9
  a9 := Tryd.isAgg9
  z9 := Tryd.sizeOf9
  v9 := Tryd.zeroValue9
  t31 := Tryd.underlying26
  a31 := Tryd.isAgg26
  z31 := Tryd.sizeOf26
  v31 := Tryd.zeroValue26
  t46 := Tryd.underlying83
  a46 := Tryd.isAgg83
  z46 := Tryd.sizeOf83
  v46 := Tryd.zeroValue83
  t51 := Tryd.underlying102
  a51 := Tryd.isAgg102
  z51 := Tryd.sizeOf102
  v51 := Tryd.zeroValue102
  t53 := Tryd.underlying87
  a53 := Tryd.isAgg87
  z53 := Tryd.sizeOf87
  v53 := Tryd.zeroValue87
  t131 := Tryd.underlying99
  a131 := Tryd.isAgg99
  z131 := Tryd.sizeOf99
  v131 := Tryd.zeroValue99
  t182 := Tryd.underlying94
  a182 := Tryd.isAgg94
  z182 := Tryd.sizeOf94
  v182 := Tryd.zeroValue94
  t183 := Tryd.underlying95
  a183 := Tryd.isAgg95
  z183 := Tryd.sizeOf95
  v183 := Tryd.zeroValue95
  t218 := Tryd.underlying111
  a218 := Tryd.isAgg111
  z218 := Tryd.sizeOf111
  v218 := Tryd.zeroValue111
  t222 := Tryd.underlying115
  a222 := Tryd.isAgg115
  z222 := Tryd.sizeOf115
  v222 := Tryd.zeroValue115
  t228 := Tryd.underlying117
  a228 := Tryd.isAgg117
  z228 := Tryd.sizeOf117
  v228 := Tryd.zeroValue117
  t229 := Tryd.underlying118
  a229 := Tryd.isAgg118
  z229 := Tryd.sizeOf118
  v229 := Tryd.zeroValue118 }
end Go.Proofs.YtfmekdmpghhegaaDoor
