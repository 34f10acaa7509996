/-
  slices.Sort at []int of this program is the sort of the kit's shelf.
-/
import Derived.Test.YtppgpabjcenjdaaProg
import Derived.Shelf.Lays
import Derived.KernelRfl
namespace Go.Proofs.Ytppgpabjcenjdaa

open Go.Shelf Go.Proofs

def lays189_ren : Go.Shelf.Ren := ⟨fun | 189 => 150 | 125 => 180 | 257 => 179 | 128 => 205 | 129 => 206 | 294 => 196 | 295 => 197 | 296 => 198 | 297 => 199 | 298 => 200 | 299 => 201 | 216 => 202 | 300 => 203 | 301 => 204 | 328 => 223 | 329 => 224 | 330 => 225 | 331 => 226 | 332 => 227 | 215 => 228 | 343 => 236 | n => n, fun | 28 => 65 | 3 => 3 | 46 => 207 | 0 => 0 | 51 => 235 | 53 => 237 | 4 => 4 | 183 => 228 | 182 => 227 | 131 => 137 | 5 => 5 | 9 => 9 | 218 => 253 | 222 => 257 | 228 => 268 | 229 => 173 | n => n, fun | n => n⟩

theorem lays189 : Go.Proofs.Lays.n189 Try.prog lays189_ren := {
  mixed := by kernel_rfl
  f125 := Try.func180.trans (congrArg some (by kernel_rfl))
  f128 := Try.func205.trans (congrArg some (by kernel_rfl))
  f129 := Try.func206.trans (congrArg some (by kernel_rfl))
  f189 := Try.func150.trans (congrArg some (by kernel_rfl))
  f215 := Try.func228.trans (congrArg some (by kernel_rfl))
  f216 := Try.func202.trans (congrArg some (by kernel_rfl))
  f257 := Try.func179.trans (congrArg some (by kernel_rfl))
  f294 := Try.func196.trans (congrArg some (by kernel_rfl))
  f295 := Try.func197.trans (congrArg some (by kernel_rfl))
  f296 := Try.func198.trans (congrArg some (by kernel_rfl))
  f297 := Try.func199.trans (congrArg some (by kernel_rfl))
  f298 := Try.func200.trans (congrArg some (by kernel_rfl))
  f299 := Try.func201.trans (congrArg some (by kernel_rfl))
  f300 := Try.func203.trans (congrArg some (by kernel_rfl))
  f301 := Try.func204.trans (congrArg some (by kernel_rfl))
  f328 := Try.func223.trans (congrArg some (by kernel_rfl))
  f329 := Try.func224.trans (congrArg some (by kernel_rfl))
  f330 := Try.func225.trans (congrArg some (by kernel_rfl))
  f331 := Try.func226.trans (congrArg some (by kernel_rfl))
  f332 := Try.func227.trans (congrArg some (by kernel_rfl))
  f343 := Try.func236.trans (congrArg some (by kernel_rfl))
  t0 := Try.underlying0
  a0 := Try.isAgg0
  z0 := Try.sizeOf0
  v0 := Try.zeroValue0
  t3 := Try.underlying3
  a3 := Try.isAgg3
  z3 := Try.sizeOf3
  v3 := Try.zeroValue3
  t4 := Try.underlying4
  a4 := Try.isAgg4
  z4 := Try.sizeOf4
  v4 := Try.zeroValue4
  t5 := Try.underlying5
  a5 := Try.isAgg5
  z5 := Try.sizeOf5
  v5 := Try.zeroValue5
  t9 := Try.underlying9
  a9 := Try.isAgg9
  z9 := Try.sizeOf9
  v9 := Try.zeroValue9
  t28 := Try.underlying65
  a28 := Try.isAgg65
  z28 := Try.sizeOf65
  v28 := Try.zeroValue65
  t46 := Try.underlying207
  a46 := Try.isAgg207
  z46 := Try.sizeOf207
  v46 := Try.zeroValue207
  t51 := Try.underlying235
  a51 := Try.isAgg235
  z51 := Try.sizeOf235
  v51 := Try.zeroValue235
  t53 := Try.underlying237
  a53 := Try.isAgg237
  z53 := Try.sizeOf237
  v53 := Try.zeroValue237
  t131 := Try.underlying137
  a131 := Try.isAgg137
  z131 := Try.sizeOf137
  v131 := Try.zeroValue137
  t182 := Try.underlying227
  a182 := Try.isAgg227
  z182 := Try.sizeOf227
  v182 := Try.zeroValue227
  t183 := Try.underlying228
  a183 := Try.isAgg228
  z183 := Try.sizeOf228
  v183 := Try.zeroValue228
  t218 := Try.underlying253
  a218 := Try.isAgg253
  z218 := Try.sizeOf253
  v218 := Try.zeroValue253
  t222 := Try.underlying257
  a222 := Try.isAgg257
  z222 := Try.sizeOf257
  v222 := Try.zeroValue257
  t228 := Try.underlying268
  a228 := Try.isAgg268
  z228 := Try.sizeOf268
  v228 := Try.zeroValue268
  t229 := Try.underlying173
  a229 := Try.isAgg173
  z229 := Try.sizeOf173
  v229 := Try.zeroValue173 }

end Go.Proofs.Ytppgpabjcenjdaa
