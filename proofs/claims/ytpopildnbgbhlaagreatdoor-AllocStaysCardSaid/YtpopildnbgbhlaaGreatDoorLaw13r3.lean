/- Row13, Law13_3. -/
import Derived.Test.YtpopildnbgbhlaaGreatDoorFG
import Derived.Test.YtpopildnbgbhlaaGreatDoorFD
import Derived.Test.YtpopildnbgbhlaaGreatDoorTie
import Derived.Test.YtpopildnbgbhlaaGreatDoorCards
import Derived.Lay
import Derived.SevenTiedAt
import Derived.Shelf.Vars
import Derived.Lib.LaidTab
import Derived.Test.YtpopildnbgbhlaaGreatDoorEQ
import Derived.Test.YtpopildnbgbhlaaGreatDoorPC
namespace Go.Proofs.YtpopildnbgbhlaaGreatDoor
open Go Go.Sy Go.RowKit Go.Proofs.Zz
set_option linter.unusedVariables false
set_option maxRecDepth 100000
theorem own : ownKnob Tryz.prog.godebug = none := by kernel_rfl
theorem laidOut : laidOutB Tryz.prog = true := by kernel_rfl
abbrev tabs : List (String × DataW Unit) := [("math/bits.deBruijn32tab", Rows.laid_math_bits_deBruijn32tab), ("math/bits.deBruijn64tab", Rows.laid_math_bits_deBruijn64tab)]
abbrev tab64 : List Int := Lib.deBruijn64tab.map fun (n : Nat) => (n : Int)
theorem tab64_eq : (Rows.laid_math_bits_deBruijn64tab : DataW Unit) = Lib.tabData .u8 tab64 := by kernel_rfl
theorem laidMet_next {P : Program} {x : String × DataW Unit} {r : List (String × DataW Unit)} {w : World} (h : laidMet P (x :: r) w) : laidMet P r w := by
 obtain ⟨ps, ⟨g, t, cs, fuel, p, q, _, _, _, _, h1, rfl⟩, hn, hp⟩ := h
 refine ⟨q, h1, ?_, fun b off hm => hp b off (List.mem_append.2 (.inr hm))⟩
 exact (List.nodup_append.1 hn).2.1
theorem tab64_of {W : World} (h : laidMet Tryz.prog tabs W) : Lib.TabIs Tryz.prog W "math/bits.deBruijn64tab" .u8 tab64 := by
 have h1 := laidMet_next h
 rw [tab64_eq] at h1
 exact Lib.tabIs_of_head (g := 1) (t := 233) (e := 5) (n := 64) (by kernel_rfl) (by kernel_rfl) (by kernel_rfl) (by kernel_rfl) (by kernel_rfl) (by kernel_rfl) h1
theorem tab_get : ∀ j : Fin 64, (tab64.map fun z => Value.int .u8 z)[j.val]? = some (Value.int .u8 ((Lib.deBruijn64tab.getD j.val 0 : Nat) : Int)) := by
 intro j
 simp only [tab64, List.getElem?_map]
 have h : Lib.deBruijn64tab[j.val]? = some (Lib.deBruijn64tab.getD j.val 0) := by
  have hl : Lib.deBruijn64tab.length = 64 := by decide
  have hj := j.isLt
  rw [List.getD_eq_getElem?_getD, List.getElem?_eq_getElem (by omega)]
  rfl
 rw [h]
 rfl
theorem glob_of {W : World} (h : laidMetH Tryz.prog tabs W) : Glob.pre (allS W) := by
 rw [MakeChecks.laidMetH_plain _ _ _ (by kernel_rfl)] at h
 intro w hw j hj
 have ht := tab64_of h
 unfold Lib.TabIs World.var? at ht
 have hg : Tryz.prog.globalNamed "math/bits.deBruijn64tab" = some 1 := by kernel_rfl
 rw [hg] at ht
 simp only [Option.bind_some] at ht
 have hl : Lib.deBruijn64tab.length = 64 := by decide
 have hget := tab_get ⟨j, by omega⟩
 cases hb : W.heap[1]? with
 | none => rw [hb] at ht; simp at ht
 | some o =>
  have hb' := hw 1 o hb
  rw [hb] at ht
  unfold World.cell?
  simp only
  rw [hb']
  cases o with
  | cells cs t x =>
   simp only at ht ⊢
   cases ht
   have e : ((tab64.map fun z => Value.int .u8 z).toArray)[j]? = (tab64.map fun z => Value.int .u8 z)[j]? := by simp
   rw [hget] at e
   simpa using e
  | _ => simp at ht
theorem shaped_tabs {os : Os} {args : Array Value} : ((World.laidAll Tryz.prog os tabs).forCall (fun _ _ => 0) ⟨#[], args, []⟩).Shaped Tryz.prog :=
 World.shaped_of_ZipB (by kernel_rfl) (by kernel_rfl)
theorem met_tabs (os : Os) (args : Array Value) : laidMetH Tryz.prog tabs ((World.laidAll Tryz.prog os tabs).forCall (fun _ _ => 0) ⟨#[], args, []⟩).memory := by
 rw [MakeChecks.laidMetH_plain _ _ _ (by kernel_rfl)]; exact laidMet_laidAll _ (by kernel_rfl) (by kernel_rfl)
end Go.Proofs.YtpopildnbgbhlaaGreatDoor
namespace Go.Proofs.YtpopildnbgbhlaaGreatDoor.allocStays
open Go Go.Sy Go.RowKit Go.Proofs.Zz Go.ChangeShapes
set_option linter.unusedVariables false
set_option maxRecDepth 100000
theorem lifted (os : Os) (started : os.Started) (H : Type) (enc : TypeId × Value → H) :
  ReturnsInHanded {} Tryz.checked os 3 .any (fun w args => (Rows.allocStaysSpec.pre enc Tryz.prog Tryz.f3 [] false w args ∧ laidMetH Tryz.prog tabs w) ∧ sizedMet enc Tryz.prog Tryz.f3 (OpenSpec.ofChange Rows.allocStaysSpec) false w args)
   (Rows.allocStaysSpec.post enc Tryz.prog Tryz.f3 false true false false) :=
 law_lifted (C := Tryz.checked) (X := fun w _ => laidMetH Tryz.prog tabs w) (Ts := ps3) (F := con3.f) (ts := [32, 34]) (tb := 4) (fun _ _ _ hh h => h.of_heap hh) own started (by kernel_rfl) Tryz.func3
  (ChangeSpec.witness_shaped (enc := enc) (C := Tryz.checked) (os := os) (X := fun w _ => laidMetH Tryz.prog tabs w) false (World.laidAll Tryz.prog os tabs) #[.agg #[.int .i64 0, .int .i64 0, .int .i64 0, .int .i64 0, .int .i64 0, .int .i64 0, .int .i64 0, .int .i64 0, .int .i64 0, .int .i64 0, .int .i64 0, .bool false, .int .i64 0, .slice none 0 0, .slice none 0 0, .slice none 0 0], .agg #[.int .i64 0, .int .i64 0, .int .i64 0, .int .i64 0, .int .i64 0, .int .i64 0, .int .i64 0, .int .i64 0, .bool false]] 8 (World.laidAll_os _ _ _)
   shaped_tabs (by kernel_rfl) (by kernel_rfl) (by kernel_rfl) (met_tabs os _))
  (fun W _ hs h => glob_of h) laidOut k3 Tryz.params3 (by kernel_rfl) Tryz.underlying4
  (fun t ht => by
   have h : ([32, 34].all fun t => Tryz.prog.readableRec t && decide (t < Tryz.prog.types.size)) = true := by kernel_rfl
   have := List.all_eq_true.1 h t ht
   rw [Bool.and_eq_true, decide_eq_true_eq] at this
   exact this)
  ⟨by kernel_rfl, by kernel_rfl, trivial⟩ rfl (fun ds hds => by
   match ds, hds with
   | [d1, d2], _ => rfl)
  (fun x hx => f3_true x.1 x.2.1)
theorem holds : Rows.AllocStaysSaid :=
 OpenClaim.holds_of_wide 3 Tryz.f3 rfl rfl rfl rfl rfl rfl rfl ⟨rfl, rfl, rfl, rfl, rfl⟩ rfl rfl rfl rfl rfl (by kernel_rfl) Tryz.func3 (by kernel_rfl)
  (of_decide_eq_true (by kernel_rfl)) (by unfold Func.isWrapper; first | (rw [if_pos (by decide +kernel)]; kernel_rfl) | (rw [if_neg (by decide +kernel)]; exact ⟨rfl, rfl⟩))
  (fun os started H enc _ => lifted os started H enc)
theorem card_holds : Rows.AllocStaysCardSaid :=
 Claim7.holds_tied_plain_at .later [] [.data, .data] true _ true holds (fun _ h => by cases h) (by kernel_rfl) (fun _ h => by cases h) allocStays_row_tie rfl ⟨rfl, rfl⟩ (by kernel_rfl) rfl
  (fun f fn hf hfn => by
   obtain rfl : f = 3 := Option.some.inj ((show Tryz.prog.funcNamed "moorings/mooringslaw13.AllocStays" = some 3 by kernel_rfl).symm.trans hf) |>.symm
   obtain rfl : fn = Tryz.f3 := (Option.some.inj (Tryz.func3.symm.trans hfn)).symm
   exact ⟨by kernel_rfl, fun j t ht => by
    rw [Tryz.params3] at ht
    have hm : t ∈ [32, 34] := by simpa using Array.mem_of_getElem? ht
    have hall : ([32, 34].all fun u => !Tryz.prog.wantsStandIn u) = true := by kernel_rfl
    exact (show Tryz.prog.wantsStandIn t = false by simpa using List.all_eq_true.1 hall t hm)⟩)
  (by kernel_rfl)
end Go.Proofs.YtpopildnbgbhlaaGreatDoor.allocStays
namespace Go.Proofs.YtpopildnbgbhlaaGreatDoor
theorem allocStays_holds : Rows.AllocStaysCardSaid := allocStays.card_holds
end Go.Proofs.YtpopildnbgbhlaaGreatDoor
