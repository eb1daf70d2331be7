/- The row of LeaseMap: what is laid, and the witness's world. -/
import Derived.Test.YtimnecbhjgllmaaDoorEqD
import Derived.Test.YtimnecbhjgllmaaDoorSym23
import Derived.Test.YtimnecbhjgllmaaDoorTie
import Derived.Test.YtimnecbhjgllmaaDoorCards
import Derived.Lay
import Derived.SevenTiedAt
import Derived.Shelf.Vars
import Derived.Lib.LaidTab
namespace Go.Proofs.YtimnecbhjgllmaaDoor
open Go Go.Sy Go.RowKit Go.Proofs.Zz
set_option linter.unusedVariables false
set_option maxRecDepth 100000

theorem own : ownKnob Tryd.prog.godebug = none := by kernel_rfl
theorem laidOut : laidOutB Tryd.prog = true := by kernel_rfl

abbrev tabs : List (String × DataW Unit) := [("math/bits.deBruijn32tab", Rows.laid_math_bits_deBruijn32tab), ("math/bits.deBruijn64tab", Rows.laid_math_bits_deBruijn64tab)]

abbrev tab64 : List Int := Lib.deBruijn64tab.map fun (n : Nat) => (n : Int)

theorem tab64_eq : (Rows.laid_math_bits_deBruijn64tab : DataW Unit) = Lib.tabData .u8 tab64 := by kernel_rfl

theorem laidMet_next {P : Program} {x : String × DataW Unit} {r : List (String × DataW Unit)} {w : World} (h : laidMet P (x :: r) w) : laidMet P r w := by
  obtain ⟨ps, ⟨g, t, cs, fuel, p, q, _, _, _, _, h1, rfl⟩, hn, hp⟩ := h
  refine ⟨q, h1, ?_, fun b off hm => hp b off (List.mem_append.2 (.inr hm))⟩
  exact (List.nodup_append.1 hn).2.1

theorem tab64_of {W : World} (h : laidMet Tryd.prog tabs W) : Lib.TabIs Tryd.prog W "math/bits.deBruijn64tab" .u8 tab64 := by
  have h1 := laidMet_next h
  rw [tab64_eq] at h1
  exact Lib.tabIs_of_head (g := 1) (t := 116) (e := 5) (n := 64) (by kernel_rfl) (by kernel_rfl) (by kernel_rfl) (by kernel_rfl) (by kernel_rfl) (by kernel_rfl) h1

theorem tab_get : ∀ j : Fin 64, (tab64.map fun z => Value.int .u8 z)[j.val]? = some (Value.int .u8 ((Lib.deBruijn64tab.getD j.val 0 : Nat) : Int)) := by
  intro j
  simp only [tab64, List.getElem?_map]
  have h : Lib.deBruijn64tab[j.val]? = some (Lib.deBruijn64tab.getD j.val 0) := by
    have hl : Lib.deBruijn64tab.length = 64 := by decide
    have hj := j.isLt
    rw [List.getD_eq_getElem?_getD, List.getElem?_eq_getElem (by omega)]
    rfl
  rw [h]
  rfl

/-- what is laid gives of the package's variables -/
theorem glob_of {W : World} (h : laidMetH Tryd.prog tabs W) : Glob.pre (allS W) := by
  rw [MakeChecks.laidMetH_plain _ _ _ (by kernel_rfl)] at h
  intro w hw j hj
  have ht := tab64_of h
  unfold Lib.TabIs World.var? at ht
  have hg : Tryd.prog.globalNamed "math/bits.deBruijn64tab" = some 1 := by kernel_rfl
  rw [hg] at ht
  simp only [Option.bind_some] at ht
  have hl : Lib.deBruijn64tab.length = 64 := by decide
  have hget := tab_get ⟨j, by omega⟩
  cases hb : W.heap[1]? with
  | none => rw [hb] at ht; simp at ht
  | some o =>
    have hb' := hw 1 o hb
    rw [hb] at ht
    unfold World.cell?
    simp only
    rw [hb']
    cases o with
    | cells cs t x =>
      simp only at ht ⊢
      cases ht
      have e : ((tab64.map fun z => Value.int .u8 z).toArray)[j]? = (tab64.map fun z => Value.int .u8 z)[j]? := by simp
      rw [hget] at e
      simpa using e
    | _ => simp at ht

/-- the witness's world -/
theorem shaped_tabs {os : Os} {args : Array Value} : ((World.laidAll Tryd.prog os tabs).forCall (fun _ _ => 0) ⟨#[], args, []⟩).Shaped Tryd.prog :=
  World.shaped_of_ZipB (by kernel_rfl) (by kernel_rfl)
theorem met_tabs (os : Os) (args : Array Value) : laidMetH Tryd.prog tabs ((World.laidAll Tryd.prog os tabs).forCall (fun _ _ => 0) ⟨#[], args, []⟩).memory := by
  rw [MakeChecks.laidMetH_plain _ _ _ (by kernel_rfl)]; exact laidMet_laidAll _ (by kernel_rfl) (by kernel_rfl)
end Go.Proofs.YtimnecbhjgllmaaDoor
