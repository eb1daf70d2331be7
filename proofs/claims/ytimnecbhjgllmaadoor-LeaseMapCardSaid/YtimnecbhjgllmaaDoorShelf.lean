/-
  DERIVED: THE SHELF's CONTRACTS AT THIS DUMP, IN PLAIN WORDS (tools/lay-plain.mjs out of 'TrydShelf.lean', which tools/lay-shelf.mjs wrote): THE SAME DECLARATIONS UNDER THE SAME NAMES: 'import', 'namespace', 'open', 'def', 'theorem' AND NOTHING ELSE: no command of the shelf's: FOR A HAND-IN. Each laying: the table of numbers ('.._ren') and one theorem, a field a fact of the dump's own or the kernel's comparison; each contract: ONE APPLICATION.
-/
import Derived.Shelf.Sort.Plain
import Derived.Ground.Names2Prog
import Derived.Shelf.Slices.CompactI
import Derived.Shelf.Slices.In.SortNone
import Derived.Shelf.Spec.TrailingZeros
import Derived.Test.YtimnecbhjgllmaaDoorProg
namespace Go.Proofs
open Go.Shelf
def Tryd.lays189_ren : Go.Shelf.Ren := ⟨fun | 189 => 37 | 125 => 56 | 257 => 55 | 128 => 84 | 129 => 85 | 294 => 75 | 295 => 76 | 296 => 77 | 297 => 78 | 298 => 79 | 299 => 80 | 216 => 81 | 300 => 82 | 301 => 83 | 328 => 92 | 329 => 93 | 330 => 94 | 331 => 95 | 332 => 96 | 215 => 90 | 343 => 97 | n => n, fun | 28 => 45 | 3 => 3 | 46 => 84 | 0 => 0 | 51 => 98 | 53 => 100 | 4 => 4 | 183 => 105 | 182 => 104 | 131 => 110 | 5 => 5 | 9 => 9 | 218 => 119 | 222 => 123 | 228 => 125 | 229 => 126 | n => n, fun | n => n⟩
theorem Tryd.lays189 : Go.Proofs.Lays.n189 Tryd.prog Tryd.lays189_ren := {
  mixed := by kernel_rfl
  f125 := Tryd.func56.trans (congrArg some (by kernel_rfl))
  f128 := Tryd.func84.trans (congrArg some (by kernel_rfl))
  f129 := Tryd.func85.trans (congrArg some (by kernel_rfl))
  f189 := Tryd.func37.trans (congrArg some (by kernel_rfl))
  f215 := Tryd.func90.trans (congrArg some (by kernel_rfl))
  f216 := Tryd.func81.trans (congrArg some (by kernel_rfl))
  f257 := Tryd.func55.trans (congrArg some (by kernel_rfl))
  f294 := Tryd.func75.trans (congrArg some (by kernel_rfl))
  f295 := Tryd.func76.trans (congrArg some (by kernel_rfl))
  f296 := Tryd.func77.trans (congrArg some (by kernel_rfl))
  f297 := Tryd.func78.trans (congrArg some (by kernel_rfl))
  f298 := Tryd.func79.trans (congrArg some (by kernel_rfl))
  f299 := Tryd.func80.trans (congrArg some (by kernel_rfl))
  f300 := Tryd.func82.trans (congrArg some (by kernel_rfl))
  f301 := Tryd.func83.trans (congrArg some (by kernel_rfl))
  f328 := Tryd.func92.trans (congrArg some (by kernel_rfl))
  f329 := Tryd.func93.trans (congrArg some (by kernel_rfl))
  f330 := Tryd.func94.trans (congrArg some (by kernel_rfl))
  f331 := Tryd.func95.trans (congrArg some (by kernel_rfl))
  f332 := Tryd.func96.trans (congrArg some (by kernel_rfl))
  f343 := Tryd.func97.trans (congrArg some (by kernel_rfl))
  t0 := Tryd.underlying0
  a0 := Tryd.isAgg0
  z0 := Tryd.sizeOf0
  v0 := Tryd.zeroValue0
  t3 := Tryd.underlying3
  a3 := Tryd.isAgg3
  z3 := Tryd.sizeOf3
  v3 := Tryd.zeroValue3
  t4 := Tryd.underlying4
  a4 := Tryd.isAgg4
  z4 := Tryd.sizeOf4
  v4 := Tryd.zeroValue4
  t5 := Tryd.underlying5
  a5 := Tryd.isAgg5
  z5 := Tryd.sizeOf5
  v5 := Tryd.zeroValue5
  t9 := Tryd.underlying9
  a9 := Tryd.isAgg9
  z9 := Tryd.sizeOf9
  v9 := Tryd.zeroValue9
  t28 := Tryd.underlying45
  a28 := Tryd.isAgg45
  z28 := Tryd.sizeOf45
  v28 := Tryd.zeroValue45
  t46 := Tryd.underlying84
  a46 := Tryd.isAgg84
  z46 := Tryd.sizeOf84
  v46 := Tryd.zeroValue84
  t51 := Tryd.underlying98
  a51 := Tryd.isAgg98
  z51 := Tryd.sizeOf98
  v51 := Tryd.zeroValue98
  t53 := Tryd.underlying100
  a53 := Tryd.isAgg100
  z53 := Tryd.sizeOf100
  v53 := Tryd.zeroValue100
  t131 := Tryd.underlying110
  a131 := Tryd.isAgg110
  z131 := Tryd.sizeOf110
  v131 := Tryd.zeroValue110
  t182 := Tryd.underlying104
  a182 := Tryd.isAgg104
  z182 := Tryd.sizeOf104
  v182 := Tryd.zeroValue104
  t183 := Tryd.underlying105
  a183 := Tryd.isAgg105
  z183 := Tryd.sizeOf105
  v183 := Tryd.zeroValue105
  t218 := Tryd.underlying119
  a218 := Tryd.isAgg119
  z218 := Tryd.sizeOf119
  v218 := Tryd.zeroValue119
  t222 := Tryd.underlying123
  a222 := Tryd.isAgg123
  z222 := Tryd.sizeOf123
  v222 := Tryd.zeroValue123
  t228 := Tryd.underlying125
  a228 := Tryd.isAgg125
  z228 := Tryd.sizeOf125
  v228 := Tryd.zeroValue125
  t229 := Tryd.underlying126
  a229 := Tryd.isAgg126
  z229 := Tryd.sizeOf126
  v229 := Tryd.zeroValue126 }
open Go.Sort Go.RowKit in
theorem Tryd.slices_Sort_int (blk off cap : Nat) (zs : List Int) (w : World) (hH : Holds (Value.int .i64) w blk off zs.toArray) (hblk : blk < w.heap.size) (hsz : zs.length < 4611686018427387904) :
    Calls Tryd.prog 37 #[.slice (some ⟨blk, off, none⟩) zs.length cap] w fun e w' =>
      e = .returned (.tuple #[]) ∧ ∃ n os, w' = grow (putRow (Value.int .i64) (Sort.ahead w n) blk off (zs.mergeSort fun x y => decide (x ≤ y)).toArray) os := Any.slices_Sort_int Tryd.lays189 blk off cap zs w hH hblk hsz
def Tryd.laysNm220_ren : Go.Shelf.Ren := ⟨fun | 20 => 38 | n => n, fun | 22 => 45 | 3 => 3 | 4 => 4 | 0 => 0 | n => n, fun | n => n⟩
theorem Tryd.laysNm220 : Go.Proofs.Lays2.n20 Tryd.prog Tryd.laysNm220_ren := {
  mixed := by kernel_rfl
  f20 := Tryd.func38.trans (congrArg some (by kernel_rfl))
  t0 := Tryd.underlying0
  a0 := Tryd.isAgg0
  z0 := Tryd.sizeOf0
  v0 := Tryd.zeroValue0
  t3 := Tryd.underlying3
  a3 := Tryd.isAgg3
  z3 := Tryd.sizeOf3
  v3 := Tryd.zeroValue3
  t4 := Tryd.underlying4
  a4 := Tryd.isAgg4
  z4 := Tryd.sizeOf4
  v4 := Tryd.zeroValue4
  t22 := Tryd.underlying45
  a22 := Tryd.isAgg45
  z22 := Tryd.sizeOf45
  v22 := Tryd.zeroValue45
  i3 := by kernel_rfl }
open Go.RowKit Go.Lib Go.Sort in
/-- slices.Compact at []int, over an array: the library's two loops are walked. (LAID: no walk: one application.) -/
theorem Tryd.slices_Compact_int_arr (blk off cap : Nat) (d : Array Int) (w : World) (hH : Holds encI w blk off d) (hsz : d.size ≤ 9223372036854775807) (hcap : d.size ≤ cap) :
    Calls Tryd.prog 38 #[.slice (some ⟨blk, off, none⟩) d.size cap] w fun e w' => e = .returned (.slice (some ⟨blk, off, none⟩) (compactUpTo d d.size).length cap) ∧ ∃ q, w' = putRow encI (Sort.ahead w q) blk off (compactUpTo d d.size ++ List.replicate (d.size - (compactUpTo d d.size).length) 0).toArray := Any.slices_Compact_int_arr Tryd.laysNm220 blk off cap d w hH hsz hcap
open Go.RowKit Go.Lib Go.Sort in
/-- slices.Compact at []int: "Compact replaces consecutive runs of equal elements with a single copy. This is like the uniq command found on Unix. Compact modifies the contents of the slice s and returns the modified slice, which may have a smaller length. Compact zeroes the elements between the new length and the original length. The result preserves the nilness of s.": IT RETURNS THE SLICE CUT TO 'Lib.compact zs'; ITS CELLS HOLD 'Lib.compact zs', THEN ZERO VALUES up to the old length; all else is as it was, but for the count of draws. IN THE WORDS OF slices.Sort's CONTRACT ('Holds', 'putRow'): so the everyday 'slices.Sort(xs); xs = slices.Compact(xs)' goes from the one contract to the other. It asks 'zs.length ≤ cap' (every slice's: the reslicing 's[:k]' looks at it). Length 0, nil: '.._empty'. (LAID: no walk: one application.) -/
theorem Tryd.slices_Compact_int (blk off cap : Nat) (zs : List Int) (w : World) (hH : Holds (Value.int .i64) w blk off zs.toArray) (hsz : zs.length ≤ 9223372036854775807) (hcap : zs.length ≤ cap) :
    Calls Tryd.prog 38 #[.slice (some ⟨blk, off, none⟩) zs.length cap] w fun e w' => e = .returned (.slice (some ⟨blk, off, none⟩) (Lib.compact zs).length cap) ∧ ∃ q, w' = putRow (Value.int .i64) (Sort.ahead w q) blk off (Lib.compact zs ++ List.replicate (zs.length - (Lib.compact zs).length) 0).toArray := Any.slices_Compact_int Tryd.laysNm220 blk off cap zs w hH hsz hcap
open Go.RowKit Go.Lib Go.Sort in
/-- The same at a slice of length 0, a nil one too: it comes back as it is. (LAID: no walk: one application.) -/
theorem Tryd.slices_Compact_int_empty (a : Option Addr) (cap : Nat) (w : World) :
    Calls Tryd.prog 38 #[.slice a 0 cap] w fun e w' => e = .returned (.slice a 0 cap) ∧ w' = w := Any.slices_Compact_int_empty Tryd.laysNm220 a cap w
open Go.RowKit Go.Sort in
/-- .. and plain. (LAID: no walk: one application.) -/
theorem Tryd.slices_Sort_int_none (p : Option Addr) (cap : Nat) (w : World) :
    Calls Tryd.prog 37 #[.slice p 0 cap] w fun e w' => e = .returned (.tuple #[]) ∧ w' = w := Any.slices_Sort_int_none Tryd.lays189 p cap w
def Tryd.laysNm727_ren : Go.Shelf.Ren := ⟨fun | 27 => 46 | 28 => 69 | 29 => 70 | n => n, fun | 25 => 84 | 3 => 3 | 27 => 98 | 22 => 100 | 4 => 4 | 53 => 115 | 0 => 0 | 5 => 5 | 54 => 116 | n => n, fun | 0 => 0 | 1 => 1 | n => n⟩
theorem Tryd.laysNm727 : Go.Proofs.Lays7.n27 Tryd.prog Tryd.laysNm727_ren := {
  mixed := by kernel_rfl
  f27 := Tryd.func46.trans (congrArg some (by kernel_rfl))
  f28 := Tryd.func69.trans (congrArg some (by kernel_rfl))
  f29 := Tryd.func70.trans (congrArg some (by kernel_rfl))
  t0 := Tryd.underlying0
  a0 := Tryd.isAgg0
  z0 := Tryd.sizeOf0
  v0 := Tryd.zeroValue0
  i0 := by kernel_rfl
  t3 := Tryd.underlying3
  a3 := Tryd.isAgg3
  z3 := Tryd.sizeOf3
  v3 := Tryd.zeroValue3
  i3 := by kernel_rfl
  t4 := Tryd.underlying4
  a4 := Tryd.isAgg4
  z4 := Tryd.sizeOf4
  v4 := Tryd.zeroValue4
  i4 := by kernel_rfl
  t5 := Tryd.underlying5
  a5 := Tryd.isAgg5
  z5 := Tryd.sizeOf5
  v5 := Tryd.zeroValue5
  i5 := by kernel_rfl
  t22 := Tryd.underlying100
  a22 := Tryd.isAgg100
  z22 := Tryd.sizeOf100
  v22 := Tryd.zeroValue100
  i22 := by kernel_rfl
  t25 := Tryd.underlying84
  a25 := Tryd.isAgg84
  z25 := Tryd.sizeOf84
  v25 := Tryd.zeroValue84
  i25 := by kernel_rfl
  t27 := Tryd.underlying98
  a27 := Tryd.isAgg98
  z27 := Tryd.sizeOf98
  v27 := Tryd.zeroValue98
  i27 := by kernel_rfl
  t53 := Tryd.underlying115
  a53 := Tryd.isAgg115
  z53 := Tryd.sizeOf115
  v53 := Tryd.zeroValue115
  i53 := by kernel_rfl
  t54 := Tryd.underlying116
  a54 := Tryd.isAgg116
  z54 := Tryd.sizeOf116
  g0 := by kernel_rfl
  g1 := by kernel_rfl }
theorem Tryd.bits_TrailingZeros (x : Nat) (hx : x < 18446744073709551616) (w : World) (hT : x ≠ 0 → TabAt (Tryd.laysNm727_ren.g 1) Lib.deBruijn64tab w) :
    Calls Tryd.prog 46 #[.int .u64 x] w fun e w' => e = .returned (.int .i64 (Lib.ctz 64 x)) ∧ w' = w := Any7.bits_TrailingZeros Tryd.laysNm727 x hx w hT
end Go.Proofs
