/- Shelf. -/
import Derived.Shelf.SlSortCmp.NoneTotal
import Derived.Ground.SlsfProg
import Derived.Shelf.Spec.TrailingZeros
import Derived.Ground.Names7Prog
import Derived.Shelf.SlGeneric
import Derived.Shelf.Small.Bits
import Derived.Shelf.Strconv.Itoa0
import Derived.Shelf.Sort.Plain
import Derived.Ground.Names2Prog
import Derived.Shelf.Slices.CompactI
import Derived.Shelf.Slices.In.SortNone
import Derived.Ground.SlgcProg
import Derived.Shelf.SlicesG.Cmp
import Derived.Test.YtpopildnbgbhlaaGreatDoorProg
namespace Go.Proofs
open Go.Shelf
def Tryz.lays189_ren : Go.Shelf.Ren := ⟨fun | 189 => 116 | 125 => 142 | 257 => 141 | 128 => 167 | 129 => 168 | 294 => 158 | 295 => 159 | 296 => 160 | 297 => 161 | 298 => 162 | 299 => 163 | 216 => 164 | 300 => 165 | 301 => 166 | 328 => 185 | 329 => 186 | 330 => 187 | 331 => 188 | 332 => 189 | 215 => 174 | 343 => 194 | n => n, fun | 28 => 59 | 3 => 3 | 46 => 195 | 0 => 0 | 51 => 215 | 53 => 217 | 4 => 4 | 183 => 207 | 182 => 206 | 131 => 212 | 5 => 5 | 9 => 9 | 218 => 226 | 222 => 230 | 228 => 237 | 229 => 238 | n => n, fun | n => n⟩
theorem Tryz.lays189 : Go.Proofs.Lays.n189 Tryz.prog Tryz.lays189_ren := {
 mixed := by kernel_rfl
 f125 := Tryz.func142.trans (congrArg some (by kernel_rfl))
 f128 := Tryz.func167.trans (congrArg some (by kernel_rfl))
 f129 := Tryz.func168.trans (congrArg some (by kernel_rfl))
 f189 := Tryz.func116.trans (congrArg some (by kernel_rfl))
 f215 := Tryz.func174.trans (congrArg some (by kernel_rfl))
 f216 := Tryz.func164.trans (congrArg some (by kernel_rfl))
 f257 := Tryz.func141.trans (congrArg some (by kernel_rfl))
 f294 := Tryz.func158.trans (congrArg some (by kernel_rfl))
 f295 := Tryz.func159.trans (congrArg some (by kernel_rfl))
 f296 := Tryz.func160.trans (congrArg some (by kernel_rfl))
 f297 := Tryz.func161.trans (congrArg some (by kernel_rfl))
 f298 := Tryz.func162.trans (congrArg some (by kernel_rfl))
 f299 := Tryz.func163.trans (congrArg some (by kernel_rfl))
 f300 := Tryz.func165.trans (congrArg some (by kernel_rfl))
 f301 := Tryz.func166.trans (congrArg some (by kernel_rfl))
 f328 := Tryz.func185.trans (congrArg some (by kernel_rfl))
 f329 := Tryz.func186.trans (congrArg some (by kernel_rfl))
 f330 := Tryz.func187.trans (congrArg some (by kernel_rfl))
 f331 := Tryz.func188.trans (congrArg some (by kernel_rfl))
 f332 := Tryz.func189.trans (congrArg some (by kernel_rfl))
 f343 := Tryz.func194.trans (congrArg some (by kernel_rfl))
 t0 := Tryz.underlying0
 a0 := Tryz.isAgg0
 z0 := Tryz.sizeOf0
 v0 := Tryz.zeroValue0
 t3 := Tryz.underlying3
 a3 := Tryz.isAgg3
 z3 := Tryz.sizeOf3
 v3 := Tryz.zeroValue3
 t4 := Tryz.underlying4
 a4 := Tryz.isAgg4
 z4 := Tryz.sizeOf4
 v4 := Tryz.zeroValue4
 t5 := Tryz.underlying5
 a5 := Tryz.isAgg5
 z5 := Tryz.sizeOf5
 v5 := Tryz.zeroValue5
 t9 := Tryz.underlying9
 a9 := Tryz.isAgg9
 z9 := Tryz.sizeOf9
 v9 := Tryz.zeroValue9
 t28 := Tryz.underlying59
 a28 := Tryz.isAgg59
 z28 := Tryz.sizeOf59
 v28 := Tryz.zeroValue59
 t46 := Tryz.underlying195
 a46 := Tryz.isAgg195
 z46 := Tryz.sizeOf195
 v46 := Tryz.zeroValue195
 t51 := Tryz.underlying215
 a51 := Tryz.isAgg215
 z51 := Tryz.sizeOf215
 v51 := Tryz.zeroValue215
 t53 := Tryz.underlying217
 a53 := Tryz.isAgg217
 z53 := Tryz.sizeOf217
 v53 := Tryz.zeroValue217
 t131 := Tryz.underlying212
 a131 := Tryz.isAgg212
 z131 := Tryz.sizeOf212
 v131 := Tryz.zeroValue212
 t182 := Tryz.underlying206
 a182 := Tryz.isAgg206
 z182 := Tryz.sizeOf206
 v182 := Tryz.zeroValue206
 t183 := Tryz.underlying207
 a183 := Tryz.isAgg207
 z183 := Tryz.sizeOf207
 v183 := Tryz.zeroValue207
 t218 := Tryz.underlying226
 a218 := Tryz.isAgg226
 z218 := Tryz.sizeOf226
 v218 := Tryz.zeroValue226
 t222 := Tryz.underlying230
 a222 := Tryz.isAgg230
 z222 := Tryz.sizeOf230
 v222 := Tryz.zeroValue230
 t228 := Tryz.underlying237
 a228 := Tryz.isAgg237
 z228 := Tryz.sizeOf237
 v228 := Tryz.zeroValue237
 t229 := Tryz.underlying238
 a229 := Tryz.isAgg238
 z229 := Tryz.sizeOf238
 v229 := Tryz.zeroValue238 }
open Go.Sort Go.RowKit in
def Tryz.laysNm220_ren : Go.Shelf.Ren := ⟨fun | 20 => 117 | n => n, fun | 22 => 59 | 3 => 3 | 4 => 4 | 0 => 0 | n => n, fun | n => n⟩
theorem Tryz.laysNm220 : Go.Proofs.Lays2.n20 Tryz.prog Tryz.laysNm220_ren := {
 mixed := by kernel_rfl
 f20 := Tryz.func117.trans (congrArg some (by kernel_rfl))
 t0 := Tryz.underlying0
 a0 := Tryz.isAgg0
 z0 := Tryz.sizeOf0
 v0 := Tryz.zeroValue0
 t3 := Tryz.underlying3
 a3 := Tryz.isAgg3
 z3 := Tryz.sizeOf3
 v3 := Tryz.zeroValue3
 t4 := Tryz.underlying4
 a4 := Tryz.isAgg4
 z4 := Tryz.sizeOf4
 v4 := Tryz.zeroValue4
 t22 := Tryz.underlying59
 a22 := Tryz.isAgg59
 z22 := Tryz.sizeOf59
 v22 := Tryz.zeroValue59
 i3 := by kernel_rfl }
open Go.RowKit Go.Lib Go.Sort in
open Go.RowKit Go.Lib Go.Sort in
theorem Tryz.slices_Compact_int (blk off cap : Nat) (zs : List Int) (w : World) (hH : Holds (Value.int .i64) w blk off zs.toArray) (hsz : zs.length ≤ 9223372036854775807) (hcap : zs.length ≤ cap) :
  Calls Tryz.prog 117 #[.slice (some ⟨blk, off, none⟩) zs.length cap] w fun e w' => e = .returned (.slice (some ⟨blk, off, none⟩) (Lib.compact zs).length cap) ∧ ∃ q, w' = putRow (Value.int .i64) (Sort.ahead w q) blk off (Lib.compact zs ++ List.replicate (zs.length - (Lib.compact zs).length) 0).toArray := Any.slices_Compact_int Tryz.laysNm220 blk off cap zs w hH hsz hcap
open Go.RowKit Go.Lib Go.Sort in
theorem Tryz.slices_Compact_int_empty (a : Option Addr) (cap : Nat) (w : World) :
  Calls Tryz.prog 117 #[.slice a 0 cap] w fun e w' => e = .returned (.slice a 0 cap) ∧ w' = w := Any.slices_Compact_int_empty Tryz.laysNm220 a cap w
open Go.RowKit Go.Sort in
theorem Tryz.slices_Sort_int_none (p : Option Addr) (cap : Nat) (w : World) :
  Calls Tryz.prog 116 #[.slice p 0 cap] w fun e w' => e = .returned (.tuple #[]) ∧ w' = w := Any.slices_Sort_int_none Tryz.lays189 p cap w
open Go.Lib in
def Tryz.laysSlC25_f149_ren : Go.Shelf.Ren := ⟨fun | 5 => 149 | 7 => 174 | n => n, fun | 22 => 3 | 3 => 3 | 4 => 4 | n => n, fun | n => n⟩
theorem Tryz.laysSlC25_f149 : Go.Proofs.SlLaysC2.n5 Tryz.prog Tryz.laysSlC25_f149_ren := {
 mixed := by kernel_rfl
 f5 := ⟨Tryz.f149.name, by decide, Tryz.func149.trans (congrArg some (by kernel_rfl))⟩
 f7 := ⟨Tryz.f174.name, by decide, Tryz.func174.trans (congrArg some (by kernel_rfl))⟩
 t3 := Tryz.underlying3
 a3 := Tryz.isAgg3
 z3 := Tryz.sizeOf3
 v3 := Tryz.zeroValue3
 t4 := Tryz.underlying4
 a4 := Tryz.isAgg4
 z4 := Tryz.sizeOf4
 v4 := Tryz.zeroValue4
 t22 := Tryz.underlying3
 a22 := Tryz.isAgg3
 z22 := Tryz.sizeOf3
 v22 := Tryz.zeroValue3 }
open Go.Lib in
theorem Tryz.cmp_Compare_int (x y : Int) (w : World) :
  Calls Tryz.prog 149 #[.int .i64 x, .int .i64 y] w fun e w' => e = .returned (.int .i64 (Lib.compareInt x y)) ∧ w' = w := AnyG.cmp_Compare_int Tryz.laysSlC25_f149 x y w
def Tryz.sortT_ren : Go.Shelf.Ren := ⟨fun | 6 => 137 | 15 => 142 | 14 => 153 | 28 => 167 | 29 => 168 | 20 => 176 | 21 => 177 | 22 => 178 | 23 => 179 | 24 => 180 | 25 => 181 | 26 => 182 | 27 => 183 | 46 => 191 | 47 => 186 | 48 => 187 | 49 => 192 | 50 => 193 | 57 => 195 | n => n, fun | 22 => 109 | 24 => 119 | 25 => 186 | 3 => 3 | 39 => 195 | 0 => 0 | 53 => 215 | 55 => 217 | 4 => 4 | 46 => 207 | 45 => 206 | 50 => 212 | 5 => 5 | 9 => 9 | 66 => 226 | 70 => 230 | 76 => 237 | 77 => 238 | n => n, fun | n => n⟩
theorem Tryz.sortT : Go.Proofs.SlLaysF0.n6 Tryz.prog Tryz.sortT_ren := {
 mixed := by kernel_rfl
 f6 := ⟨Tryz.f137.name, by decide, Tryz.func137.trans (congrArg some (by kernel_rfl))⟩
 f14 := ⟨Tryz.f153.name, by decide, Tryz.func153.trans (congrArg some (by kernel_rfl))⟩
 f15 := Tryz.func142.trans (congrArg some (by kernel_rfl))
 f20 := ⟨Tryz.f176.name, by decide, Tryz.func176.trans (congrArg some (by kernel_rfl))⟩
 f21 := ⟨Tryz.f177.name, by decide, Tryz.func177.trans (congrArg some (by kernel_rfl))⟩
 f22 := ⟨Tryz.f178.name, by decide, Tryz.func178.trans (congrArg some (by kernel_rfl))⟩
 f23 := ⟨Tryz.f179.name, by decide, Tryz.func179.trans (congrArg some (by kernel_rfl))⟩
 f24 := ⟨Tryz.f180.name, by decide, Tryz.func180.trans (congrArg some (by kernel_rfl))⟩
 f25 := ⟨Tryz.f181.name, by decide, Tryz.func181.trans (congrArg some (by kernel_rfl))⟩
 f26 := ⟨Tryz.f182.name, by decide, Tryz.func182.trans (congrArg some (by kernel_rfl))⟩
 f27 := ⟨Tryz.f183.name, by decide, Tryz.func183.trans (congrArg some (by kernel_rfl))⟩
 f28 := Tryz.func167.trans (congrArg some (by kernel_rfl))
 f29 := Tryz.func168.trans (congrArg some (by kernel_rfl))
 f46 := ⟨Tryz.f191.name, by decide, Tryz.func191.trans (congrArg some (by kernel_rfl))⟩
 f47 := Tryz.func186.trans (congrArg some (by kernel_rfl))
 f48 := Tryz.func187.trans (congrArg some (by kernel_rfl))
 f49 := ⟨Tryz.f192.name, by decide, Tryz.func192.trans (congrArg some (by kernel_rfl))⟩
 f50 := ⟨Tryz.f193.name, by decide, Tryz.func193.trans (congrArg some (by kernel_rfl))⟩
 f57 := ⟨Tryz.f195.name, by decide, Tryz.func195.trans (congrArg some (by kernel_rfl))⟩
 t0 := Tryz.underlying0
 a0 := Tryz.isAgg0
 z0 := Tryz.sizeOf0
 v0 := Tryz.zeroValue0
 t3 := Tryz.underlying3
 a3 := Tryz.isAgg3
 z3 := Tryz.sizeOf3
 v3 := Tryz.zeroValue3
 t4 := Tryz.underlying4
 a4 := Tryz.isAgg4
 z4 := Tryz.sizeOf4
 v4 := Tryz.zeroValue4
 t5 := Tryz.underlying5
 a5 := Tryz.isAgg5
 z5 := Tryz.sizeOf5
 v5 := Tryz.zeroValue5
 t9 := Tryz.underlying9
 a9 := Tryz.isAgg9
 z9 := Tryz.sizeOf9
 v9 := Tryz.zeroValue9
 t22 := Tryz.underlying109
 a22 := Tryz.isAgg109
 z22 := Tryz.sizeOf109
 v22 := Tryz.zeroValue109
 t25 := Tryz.underlying186
 a25 := Tryz.isAgg186
 z25 := Tryz.sizeOf186
 v25 := Tryz.zeroValue186
 t39 := Tryz.underlying195
 a39 := Tryz.isAgg195
 z39 := Tryz.sizeOf195
 v39 := Tryz.zeroValue195
 t45 := Tryz.underlying206
 a45 := Tryz.isAgg206
 z45 := Tryz.sizeOf206
 v45 := Tryz.zeroValue206
 t46 := Tryz.underlying207
 a46 := Tryz.isAgg207
 z46 := Tryz.sizeOf207
 v46 := Tryz.zeroValue207
 t50 := Tryz.underlying212
 a50 := Tryz.isAgg212
 z50 := Tryz.sizeOf212
 v50 := Tryz.zeroValue212
 t53 := Tryz.underlying215
 a53 := Tryz.isAgg215
 z53 := Tryz.sizeOf215
 v53 := Tryz.zeroValue215
 t55 := Tryz.underlying217
 a55 := Tryz.isAgg217
 z55 := Tryz.sizeOf217
 v55 := Tryz.zeroValue217
 t66 := Tryz.underlying226
 a66 := Tryz.isAgg226
 z66 := Tryz.sizeOf226
 v66 := Tryz.zeroValue226
 t70 := Tryz.underlying230
 a70 := Tryz.isAgg230
 z70 := Tryz.sizeOf230
 v70 := Tryz.zeroValue230
 t76 := Tryz.underlying237
 a76 := Tryz.isAgg237
 z76 := Tryz.sizeOf237
 v76 := Tryz.zeroValue237
 t77 := Tryz.underlying238
 a77 := Tryz.isAgg238
 z77 := Tryz.sizeOf238
 v77 := Tryz.zeroValue238 }
def Tryz.laysNm727_ren : Go.Shelf.Ren := ⟨fun | 27 => 145 | 28 => 169 | 29 => 170 | n => n, fun | 25 => 195 | 3 => 3 | 27 => 215 | 22 => 217 | 4 => 4 | 53 => 232 | 0 => 0 | 5 => 5 | 54 => 233 | n => n, fun | 0 => 0 | 1 => 1 | n => n⟩
theorem Tryz.laysNm727 : Go.Proofs.Lays7.n27 Tryz.prog Tryz.laysNm727_ren := {
 mixed := by kernel_rfl
 f27 := Tryz.func145.trans (congrArg some (by kernel_rfl))
 f28 := Tryz.func169.trans (congrArg some (by kernel_rfl))
 f29 := Tryz.func170.trans (congrArg some (by kernel_rfl))
 t0 := Tryz.underlying0
 a0 := Tryz.isAgg0
 z0 := Tryz.sizeOf0
 v0 := Tryz.zeroValue0
 i0 := by kernel_rfl
 t3 := Tryz.underlying3
 a3 := Tryz.isAgg3
 z3 := Tryz.sizeOf3
 v3 := Tryz.zeroValue3
 i3 := by kernel_rfl
 t4 := Tryz.underlying4
 a4 := Tryz.isAgg4
 z4 := Tryz.sizeOf4
 v4 := Tryz.zeroValue4
 i4 := by kernel_rfl
 t5 := Tryz.underlying5
 a5 := Tryz.isAgg5
 z5 := Tryz.sizeOf5
 v5 := Tryz.zeroValue5
 i5 := by kernel_rfl
 t22 := Tryz.underlying217
 a22 := Tryz.isAgg217
 z22 := Tryz.sizeOf217
 v22 := Tryz.zeroValue217
 i22 := by kernel_rfl
 t25 := Tryz.underlying195
 a25 := Tryz.isAgg195
 z25 := Tryz.sizeOf195
 v25 := Tryz.zeroValue195
 i25 := by kernel_rfl
 t27 := Tryz.underlying215
 a27 := Tryz.isAgg215
 z27 := Tryz.sizeOf215
 v27 := Tryz.zeroValue215
 i27 := by kernel_rfl
 t53 := Tryz.underlying232
 a53 := Tryz.isAgg232
 z53 := Tryz.sizeOf232
 v53 := Tryz.zeroValue232
 i53 := by kernel_rfl
 t54 := Tryz.underlying233
 a54 := Tryz.isAgg233
 z54 := Tryz.sizeOf233
 g0 := by kernel_rfl
 g1 := by kernel_rfl }
theorem Tryz.bits_TrailingZeros (x : Nat) (hx : x < 18446744073709551616) (w : World) (hT : x ≠ 0 → TabAt (Tryz.laysNm727_ren.g 1) Lib.deBruijn64tab w) :
  Calls Tryz.prog 145 #[.int .u64 x] w fun e w' => e = .returned (.int .i64 (Lib.ctz 64 x)) ∧ w' = w := Any7.bits_TrailingZeros Tryz.laysNm727 x hx w hT
end Go.Proofs
