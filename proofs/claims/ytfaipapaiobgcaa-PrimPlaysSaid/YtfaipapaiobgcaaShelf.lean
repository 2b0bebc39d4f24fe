/-
  DERIVED: THE SHELF's CONTRACTS AT THIS DUMP, IN PLAIN WORDS (tools/lay-plain.mjs out of 'YtfaipapaiobgcaaShelf.lean', which tools/lay-shelf.mjs wrote): THE SAME DECLARATIONS UNDER THE SAME NAMES: 'import', 'namespace', 'open', 'def', 'theorem' AND NOTHING ELSE: no command of the shelf's: FOR A HAND-IN. Each laying: the table of numbers ('.._ren') and one theorem, a field a fact of the dump's own or the kernel's comparison; each contract: ONE APPLICATION.
-/
import Derived.Shelf.Sort.Plain
import Derived.Test.YtfaipapaiobgcaaProg
namespace Go.Proofs
open Go.Shelf
def Try.lays189_ren : Go.Shelf.Ren := ⟨fun | 189 => 27 | 125 => 32 | 257 => 31 | 128 => 43 | 129 => 44 | 294 => 34 | 295 => 35 | 296 => 36 | 297 => 37 | 298 => 38 | 299 => 39 | 216 => 40 | 300 => 41 | 301 => 42 | 328 => 45 | 329 => 46 | 330 => 47 | 331 => 48 | 332 => 49 | 215 => 50 | 343 => 51 | n => n, fun | 28 => 24 | 3 => 3 | 46 => 68 | 0 => 0 | 51 => 79 | 53 => 27 | 4 => 4 | 183 => 72 | 182 => 71 | 131 => 53 | 5 => 5 | 9 => 9 | 218 => 81 | 222 => 84 | 228 => 87 | 229 => 88 | n => n, fun | n => n⟩
theorem Try.lays189 : Go.Proofs.Lays.n189 Try.prog Try.lays189_ren := {
  mixed := by kernel_rfl
  f125 := Try.func32.trans (congrArg some (by kernel_rfl))
  f128 := Try.func43.trans (congrArg some (by kernel_rfl))
  f129 := Try.func44.trans (congrArg some (by kernel_rfl))
  f189 := Try.func27.trans (congrArg some (by kernel_rfl))
  f215 := Try.func50.trans (congrArg some (by kernel_rfl))
  f216 := Try.func40.trans (congrArg some (by kernel_rfl))
  f257 := Try.func31.trans (congrArg some (by kernel_rfl))
  f294 := Try.func34.trans (congrArg some (by kernel_rfl))
  f295 := Try.func35.trans (congrArg some (by kernel_rfl))
  f296 := Try.func36.trans (congrArg some (by kernel_rfl))
  f297 := Try.func37.trans (congrArg some (by kernel_rfl))
  f298 := Try.func38.trans (congrArg some (by kernel_rfl))
  f299 := Try.func39.trans (congrArg some (by kernel_rfl))
  f300 := Try.func41.trans (congrArg some (by kernel_rfl))
  f301 := Try.func42.trans (congrArg some (by kernel_rfl))
  f328 := Try.func45.trans (congrArg some (by kernel_rfl))
  f329 := Try.func46.trans (congrArg some (by kernel_rfl))
  f330 := Try.func47.trans (congrArg some (by kernel_rfl))
  f331 := Try.func48.trans (congrArg some (by kernel_rfl))
  f332 := Try.func49.trans (congrArg some (by kernel_rfl))
  f343 := Try.func51.trans (congrArg some (by kernel_rfl))
  t0 := Try.underlying0
  a0 := Try.isAgg0
  z0 := Try.sizeOf0
  v0 := Try.zeroValue0
  t3 := Try.underlying3
  a3 := Try.isAgg3
  z3 := Try.sizeOf3
  v3 := Try.zeroValue3
  t4 := Try.underlying4
  a4 := Try.isAgg4
  z4 := Try.sizeOf4
  v4 := Try.zeroValue4
  t5 := Try.underlying5
  a5 := Try.isAgg5
  z5 := Try.sizeOf5
  v5 := Try.zeroValue5
  t9 := Try.underlying9
  a9 := Try.isAgg9
  z9 := Try.sizeOf9
  v9 := Try.zeroValue9
  t28 := Try.underlying24
  a28 := Try.isAgg24
  z28 := Try.sizeOf24
  v28 := Try.zeroValue24
  t46 := Try.underlying68
  a46 := Try.isAgg68
  z46 := Try.sizeOf68
  v46 := Try.zeroValue68
  t51 := Try.underlying79
  a51 := Try.isAgg79
  z51 := Try.sizeOf79
  v51 := Try.zeroValue79
  t53 := Try.underlying27
  a53 := Try.isAgg27
  z53 := Try.sizeOf27
  v53 := Try.zeroValue27
  t131 := Try.underlying53
  a131 := Try.isAgg53
  z131 := Try.sizeOf53
  v131 := Try.zeroValue53
  t182 := Try.underlying71
  a182 := Try.isAgg71
  z182 := Try.sizeOf71
  v182 := Try.zeroValue71
  t183 := Try.underlying72
  a183 := Try.isAgg72
  z183 := Try.sizeOf72
  v183 := Try.zeroValue72
  t218 := Try.underlying81
  a218 := Try.isAgg81
  z218 := Try.sizeOf81
  v218 := Try.zeroValue81
  t222 := Try.underlying84
  a222 := Try.isAgg84
  z222 := Try.sizeOf84
  v222 := Try.zeroValue84
  t228 := Try.underlying87
  a228 := Try.isAgg87
  z228 := Try.sizeOf87
  v228 := Try.zeroValue87
  t229 := Try.underlying88
  a229 := Try.isAgg88
  z229 := Try.sizeOf88
  v229 := Try.zeroValue88 }
end Go.Proofs
