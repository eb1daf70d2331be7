/- The rows of chapter 21's laws: what they share. -/
import Derived.Test.YtojkjedljhjleaaGreatDoorEq21
import Derived.Test.YtojkjedljhjleaaGreatDoorSym22
import Derived.Test.YtojkjedljhjleaaGreatDoorTie
import Derived.Test.YtojkjedljhjleaaGreatDoorCards
import Derived.Lay
import Derived.SevenTiedAt
import Derived.Shelf.Vars
namespace Go.Proofs.YtojkjedljhjleaaGreatDoor
open Go Go.Sy Go.RowKit Go.Proofs.Zz
set_option linter.unusedVariables false
set_option maxRecDepth 100000

theorem own : ownKnob Tryz.prog.godebug = none := by kernel_rfl
theorem laidOut : laidOutB Tryz.prog = true := by kernel_rfl

abbrev tabs : List (String × DataW Unit) := [("math/bits.deBruijn32tab", Rows.laid_math_bits_deBruijn32tab), ("math/bits.deBruijn64tab", Rows.laid_math_bits_deBruijn64tab), ("internal/strconv.uint64pow10", Rows.laid_internal_strconv_uint64pow10), ("unicode/utf8.acceptRanges", Rows.laid_unicode_utf8_acceptRanges), ("unicode/utf8.first", Rows.laid_unicode_utf8_first)]

theorem pow10_eq : (Rows.laid_internal_strconv_uint64pow10 : DataW Unit) = Lib.tabData .u64 Lib.pow10Tab := by kernel_rfl

theorem laidMet_next {P : Program} {x : String × DataW Unit} {r : List (String × DataW Unit)} {w : World} (h : laidMet P (x :: r) w) : laidMet P r w := by
  obtain ⟨ps, ⟨g, t, cs, fuel, p, q, _, _, _, _, h1, rfl⟩, hn, hp⟩ := h
  refine ⟨q, h1, ?_, fun b off hm => hp b off (List.mem_append.2 (.inr hm))⟩
  exact (List.nodup_append.1 hn).2.1

theorem pow10_of {W : World} (h : laidMet Tryz.prog tabs W) : Lib.TabIs Tryz.prog W "internal/strconv.uint64pow10" .u64 Lib.pow10Tab := by
  have h1 := laidMet_next (laidMet_next h)
  rw [pow10_eq] at h1
  exact Lib.tabIs_of_head (g := 1) (t := 164) (e := 144) (n := 20) (by kernel_rfl) (by kernel_rfl) (by kernel_rfl) (by kernel_rfl) (by kernel_rfl) (by kernel_rfl) h1

/-- what the shape of the world, and what is laid, give of the package's variables -/
theorem glob_of {W : World} (hs : W.ShapedOpen Tryz.prog) (h : laidMetH Tryz.prog tabs W) : Glob.pre (allS W) := by
  rw [MakeChecks.laidMetH_plain _ _ _ (by kernel_rfl)] at h
  intro w hw
  obtain ⟨m, hm⟩ := cell_of_shapedOpen_int (k := .i64) hs (g := 0) (t := 3) (zero := #[.int .i64 0]) (Nat.le_of_ble_eq_true (by kernel_rfl)) (by kernel_rfl) rfl (by kernel_rfl) (by kernel_rfl) (by kernel_rfl)
  have ht := pow10_of h
  have hvar : ∀ g : Nat, (W.heap[g]?).isSome = true → w.heap[g]? = W.heap[g]? := fun g hg => by
    cases hb : W.heap[g]? with
    | none => rw [hb] at hg; simp at hg
    | some b => exact hw g b hb
  refine ⟨?_, m, ?_⟩
  · unfold Lib.TabIs World.var? at ht ⊢
    have hg : Tryz.prog.globalNamed "internal/strconv.uint64pow10" = some 1 := by kernel_rfl
    rw [hg] at ht ⊢
    simp only [Option.bind_some] at ht ⊢
    rw [hvar 1 (by
      cases hb : W.heap[1]? with
      | none => rw [hb] at ht; simp at ht
      | some b => rfl)]
    exact ht
  · unfold World.cell? at hm ⊢
    simp only at hm ⊢
    rw [hvar 0 (by
      cases hb : W.heap[0]? with
      | none => rw [hb] at hm; simp at hm
      | some b => rfl)]
    exact hm

/-- the witness's world -/
theorem shaped_tabs {os : Os} {args : Array Value} : ((World.laidAll Tryz.prog os tabs).forCall (fun _ _ => 0) ⟨#[], args, []⟩).Shaped Tryz.prog :=
  World.shaped_of_ZipB (by kernel_rfl) (by kernel_rfl)
theorem met_tabs (os : Os) (args : Array Value) : laidMetH Tryz.prog tabs ((World.laidAll Tryz.prog os tabs).forCall (fun _ _ => 0) ⟨#[], args, []⟩).memory := by
  rw [MakeChecks.laidMetH_plain _ _ _ (by kernel_rfl)]; exact laidMet_laidAll _ (by kernel_rfl) (by kernel_rfl)
end Go.Proofs.YtojkjedljhjleaaGreatDoor
