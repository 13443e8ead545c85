/- The contract of the library's slices.Sort at []int, laid at this seat's program. Written by a program of mine (tools/lays.py). -/
import Derived.Test.YtcjagmphobdbbaaSl
import Derived.Test.YtcjagmphobdbbaaProg
import Derived.Shelf.Sort.Plain
import Derived.Shelf.Slices.In.SortNone
namespace Go.Sx
open Go Go.Proofs Go.Shelf
def sortRen : Go.Shelf.Ren := ⟨fun | 125 => 128 | 128 => 160 | 129 => 161 | 189 => 99 | 215 => 148 | 216 => 123 | 257 => 127 | 294 => 152 | 295 => 153 | 296 => 154 | 297 => 155 | 298 => 156 | 299 => 157 | 300 => 158 | 301 => 159 | 328 => 175 | 329 => 176 | 330 => 177 | 331 => 178 | 332 => 179 | 343 => 184 | n => n, fun | 28 => 55 | 46 => 208 | 51 => 270 | 53 => 272 | 131 => 160 | 182 => 263 | 183 => 264 | 218 => 299 | 222 => 244 | 228 => 315 | 229 => 261 | n => n, fun n => n⟩
theorem sortLays : Lays.n189 Try.prog sortRen where
  mixed := by kernel_rfl
  f125 := Try.func128.trans (congrArg some (by kernel_rfl))
  f128 := Try.func160.trans (congrArg some (by kernel_rfl))
  f129 := Try.func161.trans (congrArg some (by kernel_rfl))
  f189 := Try.func99.trans (congrArg some (by kernel_rfl))
  f215 := Try.func148.trans (congrArg some (by kernel_rfl))
  f216 := Try.func123.trans (congrArg some (by kernel_rfl))
  f257 := Try.func127.trans (congrArg some (by kernel_rfl))
  f294 := Try.func152.trans (congrArg some (by kernel_rfl))
  f295 := Try.func153.trans (congrArg some (by kernel_rfl))
  f296 := Try.func154.trans (congrArg some (by kernel_rfl))
  f297 := Try.func155.trans (congrArg some (by kernel_rfl))
  f298 := Try.func156.trans (congrArg some (by kernel_rfl))
  f299 := Try.func157.trans (congrArg some (by kernel_rfl))
  f300 := Try.func158.trans (congrArg some (by kernel_rfl))
  f301 := Try.func159.trans (congrArg some (by kernel_rfl))
  f328 := Try.func175.trans (congrArg some (by kernel_rfl))
  f329 := Try.func176.trans (congrArg some (by kernel_rfl))
  f330 := Try.func177.trans (congrArg some (by kernel_rfl))
  f331 := Try.func178.trans (congrArg some (by kernel_rfl))
  f332 := Try.func179.trans (congrArg some (by kernel_rfl))
  f343 := Try.func184.trans (congrArg some (by kernel_rfl))
  t0 := Try.underlying0
  a0 := Try.isAgg0
  z0 := Try.sizeOf0
  v0 := Try.zeroValue0
  t3 := Try.underlying3
  a3 := Try.isAgg3
  z3 := Try.sizeOf3
  v3 := Try.zeroValue3
  t4 := Try.underlying4
  a4 := Try.isAgg4
  z4 := Try.sizeOf4
  v4 := Try.zeroValue4
  t5 := Try.underlying5
  a5 := Try.isAgg5
  z5 := Try.sizeOf5
  v5 := Try.zeroValue5
  t9 := Try.underlying9
  a9 := Try.isAgg9
  z9 := Try.sizeOf9
  v9 := Try.zeroValue9
  t28 := Try.underlying55
  a28 := Try.isAgg55
  z28 := Try.sizeOf55
  v28 := Try.zeroValue55
  t46 := Try.underlying208
  a46 := Try.isAgg208
  z46 := Try.sizeOf208
  v46 := Try.zeroValue208
  t51 := Try.underlying270
  a51 := Try.isAgg270
  z51 := Try.sizeOf270
  v51 := Try.zeroValue270
  t53 := Try.underlying272
  a53 := Try.isAgg272
  z53 := Try.sizeOf272
  v53 := Try.zeroValue272
  t131 := Try.underlying160
  a131 := Try.isAgg160
  z131 := Try.sizeOf160
  v131 := Try.zeroValue160
  t182 := Try.underlying263
  a182 := Try.isAgg263
  z182 := Try.sizeOf263
  v182 := Try.zeroValue263
  t183 := Try.underlying264
  a183 := Try.isAgg264
  z183 := Try.sizeOf264
  v183 := Try.zeroValue264
  t218 := Try.underlying299
  a218 := Try.isAgg299
  z218 := Try.sizeOf299
  v218 := Try.zeroValue299
  t222 := Try.underlying244
  a222 := Try.isAgg244
  z222 := Try.sizeOf244
  v222 := Try.zeroValue244
  t228 := Try.underlying315
  a228 := Try.isAgg315
  z228 := Try.sizeOf315
  v228 := Try.zeroValue315
  t229 := Try.underlying261
  a229 := Try.isAgg261
  z229 := Try.sizeOf261
  v229 := Try.zeroValue261
end Go.Sx
