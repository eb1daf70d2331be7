/-
  DERIVED: THE SHELF's CONTRACTS AT THIS DUMP, IN PLAIN WORDS (tools/lay-plain.mjs out of 'TryzShelf.lean', which tools/lay-shelf.mjs wrote): THE SAME DECLARATIONS UNDER THE SAME NAMES: 'import', 'namespace', 'open', 'def', 'theorem' AND NOTHING ELSE: no command of the shelf's: FOR A HAND-IN. Each laying: the table of numbers ('.._ren') and one theorem, a field a fact of the dump's own or the kernel's comparison; each contract: ONE APPLICATION.
-/
import Derived.Shelf.Sort.Plain
import Derived.Ground.Names2Prog
import Derived.Shelf.Slices.CompactI
import Derived.Shelf.Slices.In.SortNone
import Derived.Test.YtipajaocggpahaaGreatProg
namespace Go.Proofs
open Go.Shelf
def Tryz.lays189_ren : Go.Shelf.Ren := ⟨fun | 189 => 126 | 125 => 138 | 257 => 137 | 128 => 154 | 129 => 155 | 294 => 145 | 295 => 146 | 296 => 147 | 297 => 148 | 298 => 149 | 299 => 150 | 216 => 151 | 300 => 152 | 301 => 153 | 328 => 162 | 329 => 163 | 330 => 164 | 331 => 165 | 332 => 166 | 215 => 160 | 343 => 167 | n => n, fun | 28 => 61 | 3 => 3 | 46 => 62 | 0 => 0 | 51 => 188 | 53 => 103 | 4 => 4 | 183 => 181 | 182 => 180 | 131 => 185 | 5 => 5 | 9 => 9 | 218 => 193 | 222 => 197 | 228 => 199 | 229 => 134 | n => n, fun | n => n⟩
theorem Tryz.lays189 : Go.Proofs.Lays.n189 Tryz.prog Tryz.lays189_ren := {
  mixed := by kernel_rfl
  f125 := Tryz.func138.trans (congrArg some (by kernel_rfl))
  f128 := Tryz.func154.trans (congrArg some (by kernel_rfl))
  f129 := Tryz.func155.trans (congrArg some (by kernel_rfl))
  f189 := Tryz.func126.trans (congrArg some (by kernel_rfl))
  f215 := Tryz.func160.trans (congrArg some (by kernel_rfl))
  f216 := Tryz.func151.trans (congrArg some (by kernel_rfl))
  f257 := Tryz.func137.trans (congrArg some (by kernel_rfl))
  f294 := Tryz.func145.trans (congrArg some (by kernel_rfl))
  f295 := Tryz.func146.trans (congrArg some (by kernel_rfl))
  f296 := Tryz.func147.trans (congrArg some (by kernel_rfl))
  f297 := Tryz.func148.trans (congrArg some (by kernel_rfl))
  f298 := Tryz.func149.trans (congrArg some (by kernel_rfl))
  f299 := Tryz.func150.trans (congrArg some (by kernel_rfl))
  f300 := Tryz.func152.trans (congrArg some (by kernel_rfl))
  f301 := Tryz.func153.trans (congrArg some (by kernel_rfl))
  f328 := Tryz.func162.trans (congrArg some (by kernel_rfl))
  f329 := Tryz.func163.trans (congrArg some (by kernel_rfl))
  f330 := Tryz.func164.trans (congrArg some (by kernel_rfl))
  f331 := Tryz.func165.trans (congrArg some (by kernel_rfl))
  f332 := Tryz.func166.trans (congrArg some (by kernel_rfl))
  f343 := Tryz.func167.trans (congrArg some (by kernel_rfl))
  t0 := Tryz.underlying0
  a0 := Tryz.isAgg0
  z0 := Tryz.sizeOf0
  v0 := Tryz.zeroValue0
  t3 := Tryz.underlying3
  a3 := Tryz.isAgg3
  z3 := Tryz.sizeOf3
  v3 := Tryz.zeroValue3
  t4 := Tryz.underlying4
  a4 := Tryz.isAgg4
  z4 := Tryz.sizeOf4
  v4 := Tryz.zeroValue4
  t5 := Tryz.underlying5
  a5 := Tryz.isAgg5
  z5 := Tryz.sizeOf5
  v5 := Tryz.zeroValue5
  t9 := Tryz.underlying9
  a9 := Tryz.isAgg9
  z9 := Tryz.sizeOf9
  v9 := Tryz.zeroValue9
  t28 := Tryz.underlying61
  a28 := Tryz.isAgg61
  z28 := Tryz.sizeOf61
  v28 := Tryz.zeroValue61
  t46 := Tryz.underlying62
  a46 := Tryz.isAgg62
  z46 := Tryz.sizeOf62
  v46 := Tryz.zeroValue62
  t51 := Tryz.underlying188
  a51 := Tryz.isAgg188
  z51 := Tryz.sizeOf188
  v51 := Tryz.zeroValue188
  t53 := Tryz.underlying103
  a53 := Tryz.isAgg103
  z53 := Tryz.sizeOf103
  v53 := Tryz.zeroValue103
  t131 := Tryz.underlying185
  a131 := Tryz.isAgg185
  z131 := Tryz.sizeOf185
  v131 := Tryz.zeroValue185
  t182 := Tryz.underlying180
  a182 := Tryz.isAgg180
  z182 := Tryz.sizeOf180
  v182 := Tryz.zeroValue180
  t183 := Tryz.underlying181
  a183 := Tryz.isAgg181
  z183 := Tryz.sizeOf181
  v183 := Tryz.zeroValue181
  t218 := Tryz.underlying193
  a218 := Tryz.isAgg193
  z218 := Tryz.sizeOf193
  v218 := Tryz.zeroValue193
  t222 := Tryz.underlying197
  a222 := Tryz.isAgg197
  z222 := Tryz.sizeOf197
  v222 := Tryz.zeroValue197
  t228 := Tryz.underlying199
  a228 := Tryz.isAgg199
  z228 := Tryz.sizeOf199
  v228 := Tryz.zeroValue199
  t229 := Tryz.underlying134
  a229 := Tryz.isAgg134
  z229 := Tryz.sizeOf134
  v229 := Tryz.zeroValue134 }
open Go.Sort Go.RowKit in
theorem Tryz.slices_Sort_int (blk off cap : Nat) (zs : List Int) (w : World) (hH : Holds (Value.int .i64) w blk off zs.toArray) (hblk : blk < w.heap.size) (hsz : zs.length < 4611686018427387904) :
    Calls Tryz.prog 126 #[.slice (some ⟨blk, off, none⟩) zs.length cap] w fun e w' =>
      e = .returned (.tuple #[]) ∧ ∃ n os, w' = grow (putRow (Value.int .i64) (Sort.ahead w n) blk off (zs.mergeSort fun x y => decide (x ≤ y)).toArray) os := Any.slices_Sort_int Tryz.lays189 blk off cap zs w hH hblk hsz
def Tryz.laysNm220_ren : Go.Shelf.Ren := ⟨fun | 20 => 127 | n => n, fun | 22 => 61 | 3 => 3 | 4 => 4 | 0 => 0 | n => n, fun | n => n⟩
theorem Tryz.laysNm220 : Go.Proofs.Lays2.n20 Tryz.prog Tryz.laysNm220_ren := {
  mixed := by kernel_rfl
  f20 := Tryz.func127.trans (congrArg some (by kernel_rfl))
  t0 := Tryz.underlying0
  a0 := Tryz.isAgg0
  z0 := Tryz.sizeOf0
  v0 := Tryz.zeroValue0
  t3 := Tryz.underlying3
  a3 := Tryz.isAgg3
  z3 := Tryz.sizeOf3
  v3 := Tryz.zeroValue3
  t4 := Tryz.underlying4
  a4 := Tryz.isAgg4
  z4 := Tryz.sizeOf4
  v4 := Tryz.zeroValue4
  t22 := Tryz.underlying61
  a22 := Tryz.isAgg61
  z22 := Tryz.sizeOf61
  v22 := Tryz.zeroValue61
  i3 := by kernel_rfl }
open Go.RowKit Go.Lib Go.Sort in
/-- slices.Compact at []int, over an array: the library's two loops are walked. (LAID: no walk: one application.) -/
theorem Tryz.slices_Compact_int_arr (blk off cap : Nat) (d : Array Int) (w : World) (hH : Holds encI w blk off d) (hsz : d.size ≤ 9223372036854775807) (hcap : d.size ≤ cap) :
    Calls Tryz.prog 127 #[.slice (some ⟨blk, off, none⟩) d.size cap] w fun e w' => e = .returned (.slice (some ⟨blk, off, none⟩) (compactUpTo d d.size).length cap) ∧ ∃ q, w' = putRow encI (Sort.ahead w q) blk off (compactUpTo d d.size ++ List.replicate (d.size - (compactUpTo d d.size).length) 0).toArray := Any.slices_Compact_int_arr Tryz.laysNm220 blk off cap d w hH hsz hcap
open Go.RowKit Go.Lib Go.Sort in
/-- slices.Compact at []int: "Compact replaces consecutive runs of equal elements with a single copy. This is like the uniq command found on Unix. Compact modifies the contents of the slice s and returns the modified slice, which may have a smaller length. Compact zeroes the elements between the new length and the original length. The result preserves the nilness of s.": IT RETURNS THE SLICE CUT TO 'Lib.compact zs'; ITS CELLS HOLD 'Lib.compact zs', THEN ZERO VALUES up to the old length; all else is as it was, but for the count of draws. IN THE WORDS OF slices.Sort's CONTRACT ('Holds', 'putRow'): so the everyday 'slices.Sort(xs); xs = slices.Compact(xs)' goes from the one contract to the other. It asks 'zs.length ≤ cap' (every slice's: the reslicing 's[:k]' looks at it). Length 0, nil: '.._empty'. (LAID: no walk: one application.) -/
theorem Tryz.slices_Compact_int (blk off cap : Nat) (zs : List Int) (w : World) (hH : Holds (Value.int .i64) w blk off zs.toArray) (hsz : zs.length ≤ 9223372036854775807) (hcap : zs.length ≤ cap) :
    Calls Tryz.prog 127 #[.slice (some ⟨blk, off, none⟩) zs.length cap] w fun e w' => e = .returned (.slice (some ⟨blk, off, none⟩) (Lib.compact zs).length cap) ∧ ∃ q, w' = putRow (Value.int .i64) (Sort.ahead w q) blk off (Lib.compact zs ++ List.replicate (zs.length - (Lib.compact zs).length) 0).toArray := Any.slices_Compact_int Tryz.laysNm220 blk off cap zs w hH hsz hcap
open Go.RowKit Go.Lib Go.Sort in
/-- The same at a slice of length 0, a nil one too: it comes back as it is. (LAID: no walk: one application.) -/
theorem Tryz.slices_Compact_int_empty (a : Option Addr) (cap : Nat) (w : World) :
    Calls Tryz.prog 127 #[.slice a 0 cap] w fun e w' => e = .returned (.slice a 0 cap) ∧ w' = w := Any.slices_Compact_int_empty Tryz.laysNm220 a cap w
open Go.RowKit Go.Sort in
/-- .. and plain. (LAID: no walk: one application.) -/
theorem Tryz.slices_Sort_int_none (p : Option Addr) (cap : Nat) (w : World) :
    Calls Tryz.prog 126 #[.slice p 0 cap] w fun e w' => e = .returned (.tuple #[]) ∧ w' = w := Any.slices_Sort_int_none Tryz.lays189 p cap w
end Go.Proofs
