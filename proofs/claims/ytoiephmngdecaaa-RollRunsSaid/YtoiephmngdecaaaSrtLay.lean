/-
  DERIVED: THE SHELF's CONTRACTS AT THIS DUMP, IN PLAIN WORDS (tools/lay-plain.mjs out of 'YtoiephmngdecaaaSrtRaw.lean', which tools/lay-shelf.mjs wrote): THE SAME DECLARATIONS UNDER THE SAME NAMES: 'import', 'namespace', 'open', 'def', 'theorem' AND NOTHING ELSE: no command of the shelf's: FOR A HAND-IN. Each laying: the table of numbers ('.._ren') and one theorem, a field a fact of the dump's own or the kernel's comparison; each contract: ONE APPLICATION.
-/
import Derived.Shelf.Sort.AssemblyIn
import Derived.Sort.EveryDepth
import Derived.Shelf.Slices.In.SortNone
import Derived.Ground.NamesProg
import Derived.Test.YtoiephmngdecaaaProg
namespace Go.Proofs
open Go.Shelf
def Try.lays189_ren : Go.Shelf.Ren := ⟨fun | 189 => 50 | 125 => 68 | 257 => 67 | 128 => 89 | 129 => 90 | 294 => 80 | 295 => 81 | 296 => 82 | 297 => 83 | 298 => 84 | 299 => 85 | 216 => 86 | 300 => 87 | 301 => 88 | 328 => 98 | 329 => 99 | 330 => 100 | 331 => 101 | 332 => 102 | 215 => 103 | 343 => 105 | n => n, fun | 28 => 33 | 3 => 3 | 46 => 108 | 0 => 0 | 51 => 39 | 53 => 163 | 4 => 4 | 183 => 155 | 182 => 154 | 131 => 159 | 5 => 5 | 9 => 9 | 218 => 169 | 222 => 173 | 228 => 176 | 229 => 177 | n => n, fun | n => n⟩
theorem Try.lays189 : Go.Proofs.Lays.n189 Try.prog Try.lays189_ren := {
  mixed := by kernel_rfl
  f125 := Try.func68.trans (congrArg some (by kernel_rfl))
  f128 := Try.func89.trans (congrArg some (by kernel_rfl))
  f129 := Try.func90.trans (congrArg some (by kernel_rfl))
  f189 := Try.func50.trans (congrArg some (by kernel_rfl))
  f215 := Try.func103.trans (congrArg some (by kernel_rfl))
  f216 := Try.func86.trans (congrArg some (by kernel_rfl))
  f257 := Try.func67.trans (congrArg some (by kernel_rfl))
  f294 := Try.func80.trans (congrArg some (by kernel_rfl))
  f295 := Try.func81.trans (congrArg some (by kernel_rfl))
  f296 := Try.func82.trans (congrArg some (by kernel_rfl))
  f297 := Try.func83.trans (congrArg some (by kernel_rfl))
  f298 := Try.func84.trans (congrArg some (by kernel_rfl))
  f299 := Try.func85.trans (congrArg some (by kernel_rfl))
  f300 := Try.func87.trans (congrArg some (by kernel_rfl))
  f301 := Try.func88.trans (congrArg some (by kernel_rfl))
  f328 := Try.func98.trans (congrArg some (by kernel_rfl))
  f329 := Try.func99.trans (congrArg some (by kernel_rfl))
  f330 := Try.func100.trans (congrArg some (by kernel_rfl))
  f331 := Try.func101.trans (congrArg some (by kernel_rfl))
  f332 := Try.func102.trans (congrArg some (by kernel_rfl))
  f343 := Try.func105.trans (congrArg some (by kernel_rfl))
  t0 := Try.underlying0
  a0 := Try.isAgg0
  z0 := Try.sizeOf0
  v0 := Try.zeroValue0
  t3 := Try.underlying3
  a3 := Try.isAgg3
  z3 := Try.sizeOf3
  v3 := Try.zeroValue3
  t4 := Try.underlying4
  a4 := Try.isAgg4
  z4 := Try.sizeOf4
  v4 := Try.zeroValue4
  t5 := Try.underlying5
  a5 := Try.isAgg5
  z5 := Try.sizeOf5
  v5 := Try.zeroValue5
  t9 := Try.underlying9
  a9 := Try.isAgg9
  z9 := Try.sizeOf9
  v9 := Try.zeroValue9
  t28 := Try.underlying33
  a28 := Try.isAgg33
  z28 := Try.sizeOf33
  v28 := Try.zeroValue33
  t46 := Try.underlying108
  a46 := Try.isAgg108
  z46 := Try.sizeOf108
  v46 := Try.zeroValue108
  t51 := Try.underlying39
  a51 := Try.isAgg39
  z51 := Try.sizeOf39
  v51 := Try.zeroValue39
  t53 := Try.underlying163
  a53 := Try.isAgg163
  z53 := Try.sizeOf163
  v53 := Try.zeroValue163
  t131 := Try.underlying159
  a131 := Try.isAgg159
  z131 := Try.sizeOf159
  v131 := Try.zeroValue159
  t182 := Try.underlying154
  a182 := Try.isAgg154
  z182 := Try.sizeOf154
  v182 := Try.zeroValue154
  t183 := Try.underlying155
  a183 := Try.isAgg155
  z183 := Try.sizeOf155
  v183 := Try.zeroValue155
  t218 := Try.underlying169
  a218 := Try.isAgg169
  z218 := Try.sizeOf169
  v218 := Try.zeroValue169
  t222 := Try.underlying173
  a222 := Try.isAgg173
  z222 := Try.sizeOf173
  v222 := Try.zeroValue173
  t228 := Try.underlying176
  a228 := Try.isAgg176
  z228 := Try.sizeOf176
  v228 := Try.zeroValue176
  t229 := Try.underlying177
  a229 := Try.isAgg177
  z229 := Try.sizeOf177
  v229 := Try.zeroValue177 }
end Go.Proofs
