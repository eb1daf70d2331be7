/- Pure13_8, Eq13_8, P13_8, Row13, Law13_8. -/
import Derived.Test.YtpopildnbgbhlaaGreatDoorPU
import Derived.Test.YtpopildnbgbhlaaGreatDoorEQ
import Derived.Test.YtpopildnbgbhlaaGreatDoorFD
import Derived.Test.YtpopildnbgbhlaaGreatDoorPC
import Derived.Test.YtpopildnbgbhlaaGreatDoorFI
import Derived.Test.YtpopildnbgbhlaaGreatDoorFG
import Derived.Test.YtpopildnbgbhlaaGreatDoorTie
import Derived.Test.YtpopildnbgbhlaaGreatDoorCards
import Derived.Lay
import Derived.SevenTiedAt
import Derived.Shelf.Vars
import Derived.Lib.LaidTab
namespace Go.Proofs.Zz
open Go Go.Sy
set_option linter.unusedVariables false
set_option maxRecDepth 100000
noncomputable def f8 (v1 v2 v3 v4 v5 v6 v7 v8 v9 v10 v11 : Int) (v12 : Bool) (v13 : Int) (v14 : (List (Int × Int × Int))) (v15 : (List (Int × Int × Int × Int × Int))) (v16 : (List (Int × Int × Int))) (v17 v18 : Int) : Option (Bool × Unit) :=
 (f11).bind fun y19 =>
 ((f12 v1 v2 v3 v4 v5 v6 v7 v8 v9 v10 v11 v12 v13 v14 v15 v16)).bind fun y20 =>
 cond (!y19.1) (
  some (y19.1, ())) (
  cond (!y20.1) (
   some (y19.1, ())) (
   cond (decide (v17 < 0)) (
    some (y19.1, ())) (
    cond (decide ((v15.length : Int) ≤ v17)) (
     some (y19.1, ())) (
     cond (decide (v18 < 0)) (
      some (y19.1, ())) (
      cond (decide (2097152 < v18)) (
       some (y19.1, ())) (
       cond ((decide (0 ≤ v17)) && (decide (v17 < (v15.length : Int)))) (
        ((f13 v1 v2 v3 v4 v5 v6 v7 v8 v9 v10 v11 v12 v13 v14 v15 v16 1 (rd (.pair (.int .i64) (.pair (.int .i64) (.pair (.int .i64) (.pair (.int .i64) (.int .i64))))) v15 (Int.toNat v17)).1 (rd (.pair (.int .i64) (.pair (.int .i64) (.pair (.int .i64) (.pair (.int .i64) (.int .i64))))) v15 (Int.toNat v17)).2.1 (rd (.pair (.int .i64) (.pair (.int .i64) (.pair (.int .i64) (.pair (.int .i64) (.int .i64))))) v15 (Int.toNat v17)).2.2.1 0 0 0 0 false)).bind fun y21 =>
        ((f13 y21.1.1.1.1 y21.1.1.1.2 y21.1.1.2.1.1 y21.1.1.2.1.2 y21.1.1.2.2.1 y21.1.1.2.2.2.1 y21.1.1.2.2.2.2.1 y21.1.1.2.2.2.2.2 y21.1.2.1.1 y21.1.2.1.2.1 y21.1.2.1.2.2.1 y21.1.2.1.2.2.2 y21.1.2.2.1 y21.1.2.2.2.1 y21.1.2.2.2.2.1 y21.1.2.2.2.2.2 3 0 0 0 (IntKind.wrap .i64 (y21.1.2.2.1 + v18)) 0 0 0 false)).bind fun y22 =>
        cond (!(decide (y21.2.2.1.1 = 0))) (
         some (true, ())) (
         cond (!(decide (y22.2.2.1.1 = 0))) (
          some (true, ())) (
          ((f22 y22.1.2.2.2.2.1 (rd (.pair (.int .i64) (.pair (.int .i64) (.pair (.int .i64) (.pair (.int .i64) (.int .i64))))) v15 (Int.toNat v17)).2.1 (rd (.pair (.int .i64) (.pair (.int .i64) (.pair (.int .i64) (.pair (.int .i64) (.int .i64))))) v15 (Int.toNat v17)).2.2.1)).bind fun y23 =>
          some (((decide (0 ≤ y23.1)) == (decide (v18 < v10))), ())))) (
        none)))))))
set_option maxHeartbeats 0
abbrev ps8 : List Ty := [.pair (.pair (.pair (.int .i64) (.int .i64)) (.pair (.pair (.int .i64) (.int .i64)) (.pair (.int .i64) (.pair (.int .i64) (.pair (.int .i64) (.int .i64)))))) (.pair (.pair (.int .i64) (.pair (.int .i64) (.pair (.int .i64) (.bool)))) (.pair (.int .i64) (.pair (.row (.pair (.int .i64) (.pair (.int .i64) (.int .i64)))) (.pair (.row (.pair (.int .i64) (.pair (.int .i64) (.pair (.int .i64) (.pair (.int .i64) (.int .i64)))))) (.row (.pair (.int .i64) (.pair (.int .i64) (.int .i64)))))))), .int .i64, .int .i64]
abbrev rs8 : List RTy := [.val (.bool)]
noncomputable abbrev L8 : List (Nat × Con) := [(11, con11), (12, con12), (13, con13), (22, con22)]
noncomputable abbrev U8 : List (Nat × UCon) := []
noncomputable abbrev C8 : Cons := lookC L8 U8
noncomputable abbrev S8 : List (Nat × Nat × LSum) := []
noncomputable def con8 : Con := ⟨ps8, rs8, fun x => f8 x.1.1.1.1 x.1.1.1.2 x.1.1.2.1.1 x.1.1.2.1.2 x.1.1.2.2.1 x.1.1.2.2.2.1 x.1.1.2.2.2.2.1 x.1.1.2.2.2.2.2 x.1.2.1.1 x.1.2.1.2.1 x.1.2.1.2.2.1 x.1.2.1.2.2.2 x.1.2.2.1 x.1.2.2.2.1 x.1.2.2.2.2.1 x.1.2.2.2.2.2 x.2.1 x.2.2.1⟩
theorem e8 (x : Args ps8) : kTop Tryz.prog C8 (lookS S8) big 10 8 ps8 rs8 x = con8.f x := by kernel_rfl
theorem ok8 [Glob] [RngG Tryz.prog] (h : AllOK Tryz.prog L8) (h' : AllU Tryz.prog U8) : con8.OK Tryz.prog 8 := con_of_tree (lookC_ok h h') (rounds_of (l := S8) trivial) e8
theorem k8 : con8.OK Tryz.prog 8 := ok8 ⟨k11, k12, k13, k22, trivial⟩ trivial
set_option linter.unusedSimpArgs false
theorem f8_true (s : ST) (i by' : Int) :
  f8 s.1.1.1 s.1.1.2 s.1.2.1.1 s.1.2.1.2 s.1.2.2.1 s.1.2.2.2.1 s.1.2.2.2.2.1 s.1.2.2.2.2.2 s.2.1.1 s.2.1.2.1 s.2.1.2.2.1 s.2.1.2.2.2 s.2.2.1 s.2.2.2.1 s.2.2.2.2.1 s.2.2.2.2.2 i by' = some (true, ()) := by
 unfold f8
 rw [f11_eq, f12_eq s]
 by_cases hf : Few s
 case neg => rw [decide_eq_false hf]; rfl
 rw [decide_eq_true hf]
 simp only [Option.bind_some, Bool.not_true, cond_false]
 by_cases h0 : i < 0
 ·rw [decide_eq_true h0]; rfl
 rw [decide_eq_false h0]
 by_cases h1 : ((s.2.2.2.2.1.length : Nat) : Int) ≤ i
 ·rw [decide_eq_true h1]; rfl
 rw [decide_eq_false h1]
 by_cases h2 : by' < 0
 ·rw [decide_eq_true h2]; rfl
 rw [decide_eq_false h2]
 by_cases h3 : 2097152 < by'
 ·rw [decide_eq_true h3]; rfl
 rw [decide_eq_false h3]
 have hs := hf.sm
 obtain ⟨j, rfl⟩ : ∃ j : Nat, i = (j : Int) := ⟨i.toNat, by omega⟩
 have hj : j < s.2.2.2.2.1.length := by omega
 simp only [cond_false, ltn hj, ge0, Bool.and_self, cond_true, Int.toNat_natCast, rdL hj]
 have hy : s.2.2.2.2.1[j] ∈ s.2.2.2.2.1 := List.getElem_mem hj
 generalize s.2.2.2.2.1[j] = y at hy
 have e1 := f13_eq s (1, y.1, y.2.1, y.2.2.1, 0, 0, 0, 0, false) hs
 by_cases M : MayS s
 case neg =>
  rw [may_not M] at e1
  simp only [ansT, errS] at e1
  rw [e1]
  simp only [Option.bind_some]
  have e2 := f13_eq s (3, 0, 0, 0, IntKind.wrap .i64 (s.2.2.1 + by'), 0, 0, 0, false) hs
  rw [may_not M] at e2
  simp only [ansT, errS] at e2
  rw [e2]; rfl
 obtain ⟨er, M2⟩ := ref_do M hy (0, P0)
 rw [er] at e1
 simp only [ansT] at e1
 rw [e1]
 have hw : IntKind.wrap .i64 (s.2.2.1 + by') = s.2.2.1 + by' := by
  have := M.now0; have := M.now1
  exact w64 (by omega) (by omega)
 have e2 := f13_eq (usedS s y) (3, 0, 0, 0, s.2.2.1 + by', 0, 0, 0, false) M2.sm
 have e3 := idle_has M hy (s.2.2.1 + by') (by omega)
 rw [tick_do M2] at e2
 simp only [Option.bind_some, hw]
 by_cases h4 : 1073741824 < s.2.2.1 + by'
 ·rw [show tickS (usedS s y) (s.2.2.1 + by') = errS (usedS s y) 10 from if_pos (.inr h4)] at e2
  simp only [ansT, errS] at e2
  rw [e2]; rfl
 ·have hn : ¬ (s.2.2.1 + by' < (usedS s y).2.2.1 ∨ 1073741824 < s.2.2.1 + by') := by
   intro h
   rcases h with h | h
   ·have h : s.2.2.1 + by' < s.2.2.1 := h
    omega
   ·exact h4 h
  have M3 := tick_may M2 (n := s.2.2.1 + by') (by show s.2.2.1 ≤ _; omega) (by omega)
  rw [show tickS (usedS s y) (s.2.2.1 + by') = _ from if_neg hn] at e2
  have e4 := f22_eq _ M3.sm.szL y.2.1 y.2.2.1
  simp only [ansT] at e2
  rw [e2]
  simp only [Option.bind_some, e4, find_has]
  rw [e3, show s.2.2.1 + by' - s.2.2.1 = by' by omega]
  cases decide (by' < s.2.1.2.1) <;> rfl
end Go.Proofs.Zz
namespace Go.Proofs.YtpopildnbgbhlaaGreatDoor
open Go Go.Sy Go.RowKit Go.Proofs.Zz
set_option linter.unusedVariables false
set_option maxRecDepth 100000
theorem own : ownKnob Tryz.prog.godebug = none := by kernel_rfl
theorem laidOut : laidOutB Tryz.prog = true := by kernel_rfl
abbrev tabs : List (String × DataW Unit) := [("math/bits.deBruijn32tab", Rows.laid_math_bits_deBruijn32tab), ("math/bits.deBruijn64tab", Rows.laid_math_bits_deBruijn64tab)]
abbrev tab64 : List Int := Lib.deBruijn64tab.map fun (n : Nat) => (n : Int)
theorem tab64_eq : (Rows.laid_math_bits_deBruijn64tab : DataW Unit) = Lib.tabData .u8 tab64 := by kernel_rfl
theorem laidMet_next {P : Program} {x : String × DataW Unit} {r : List (String × DataW Unit)} {w : World} (h : laidMet P (x :: r) w) : laidMet P r w := by
 obtain ⟨ps, ⟨g, t, cs, fuel, p, q, _, _, _, _, h1, rfl⟩, hn, hp⟩ := h
 refine ⟨q, h1, ?_, fun b off hm => hp b off (List.mem_append.2 (.inr hm))⟩
 exact (List.nodup_append.1 hn).2.1
theorem tab64_of {W : World} (h : laidMet Tryz.prog tabs W) : Lib.TabIs Tryz.prog W "math/bits.deBruijn64tab" .u8 tab64 := by
 have h1 := laidMet_next h
 rw [tab64_eq] at h1
 exact Lib.tabIs_of_head (g := 1) (t := 233) (e := 5) (n := 64) (by kernel_rfl) (by kernel_rfl) (by kernel_rfl) (by kernel_rfl) (by kernel_rfl) (by kernel_rfl) h1
theorem tab_get : ∀ j : Fin 64, (tab64.map fun z => Value.int .u8 z)[j.val]? = some (Value.int .u8 ((Lib.deBruijn64tab.getD j.val 0 : Nat) : Int)) := by
 intro j
 simp only [tab64, List.getElem?_map]
 have h : Lib.deBruijn64tab[j.val]? = some (Lib.deBruijn64tab.getD j.val 0) := by
  have hl : Lib.deBruijn64tab.length = 64 := by decide
  have hj := j.isLt
  rw [List.getD_eq_getElem?_getD, List.getElem?_eq_getElem (by omega)]
  rfl
 rw [h]
 rfl
theorem glob_of {W : World} (h : laidMetH Tryz.prog tabs W) : Glob.pre (allS W) := by
 rw [MakeChecks.laidMetH_plain _ _ _ (by kernel_rfl)] at h
 intro w hw j hj
 have ht := tab64_of h
 unfold Lib.TabIs World.var? at ht
 have hg : Tryz.prog.globalNamed "math/bits.deBruijn64tab" = some 1 := by kernel_rfl
 rw [hg] at ht
 simp only [Option.bind_some] at ht
 have hl : Lib.deBruijn64tab.length = 64 := by decide
 have hget := tab_get ⟨j, by omega⟩
 cases hb : W.heap[1]? with
 | none => rw [hb] at ht; simp at ht
 | some o =>
  have hb' := hw 1 o hb
  rw [hb] at ht
  unfold World.cell?
  simp only
  rw [hb']
  cases o with
  | cells cs t x =>
   simp only at ht ⊢
   cases ht
   have e : ((tab64.map fun z => Value.int .u8 z).toArray)[j]? = (tab64.map fun z => Value.int .u8 z)[j]? := by simp
   rw [hget] at e
   simpa using e
  | _ => simp at ht
theorem shaped_tabs {os : Os} {args : Array Value} : ((World.laidAll Tryz.prog os tabs).forCall (fun _ _ => 0) ⟨#[], args, []⟩).Shaped Tryz.prog :=
 World.shaped_of_ZipB (by kernel_rfl) (by kernel_rfl)
theorem met_tabs (os : Os) (args : Array Value) : laidMetH Tryz.prog tabs ((World.laidAll Tryz.prog os tabs).forCall (fun _ _ => 0) ⟨#[], args, []⟩).memory := by
 rw [MakeChecks.laidMetH_plain _ _ _ (by kernel_rfl)]; exact laidMet_laidAll _ (by kernel_rfl) (by kernel_rfl)
end Go.Proofs.YtpopildnbgbhlaaGreatDoor
namespace Go.Proofs.YtpopildnbgbhlaaGreatDoor.allocIdle
open Go Go.Sy Go.RowKit Go.Proofs.Zz Go.ChangeShapes
set_option linter.unusedVariables false
set_option maxRecDepth 100000
theorem lifted (os : Os) (started : os.Started) (H : Type) (enc : TypeId × Value → H) :
  ReturnsInHanded {} Tryz.checked os 8 .any (fun w args => (Rows.allocIdleSpec.pre enc Tryz.prog Tryz.f8 [] false w args ∧ laidMetH Tryz.prog tabs w) ∧ sizedMet enc Tryz.prog Tryz.f8 (OpenSpec.ofChange Rows.allocIdleSpec) false w args)
   (Rows.allocIdleSpec.post enc Tryz.prog Tryz.f8 false true false false) :=
 law_lifted (C := Tryz.checked) (X := fun w _ => laidMetH Tryz.prog tabs w) (Ts := ps8) (F := con8.f) (ts := [32, 3, 3]) (tb := 4) (fun _ _ _ hh h => h.of_heap hh) own started (by kernel_rfl) Tryz.func8
  (ChangeSpec.witness_shaped (enc := enc) (C := Tryz.checked) (os := os) (X := fun w _ => laidMetH Tryz.prog tabs w) false (World.laidAll Tryz.prog os tabs) #[.agg #[.int .i64 0, .int .i64 0, .int .i64 0, .int .i64 0, .int .i64 0, .int .i64 0, .int .i64 0, .int .i64 0, .int .i64 0, .int .i64 0, .int .i64 0, .bool false, .int .i64 0, .slice none 0 0, .slice none 0 0, .slice none 0 0], .int .i64 0, .int .i64 0] 8 (World.laidAll_os _ _ _)
   shaped_tabs (by kernel_rfl) (by kernel_rfl) (by kernel_rfl) (met_tabs os _))
  (fun W _ hs h => glob_of h) laidOut k8 Tryz.params8 (by kernel_rfl) Tryz.underlying4
  (fun t ht => by
   have h : ([32, 3, 3].all fun t => Tryz.prog.readableRec t && decide (t < Tryz.prog.types.size)) = true := by kernel_rfl
   have := List.all_eq_true.1 h t ht
   rw [Bool.and_eq_true, decide_eq_true_eq] at this
   exact this)
  ⟨by kernel_rfl, by kernel_rfl, by kernel_rfl, trivial⟩ rfl (fun ds hds => by
   match ds, hds with
   | [d1, d2, d3], _ => rfl)
  (fun x hx => f8_true x.1 x.2.1 x.2.2.1)
theorem holds : Rows.AllocIdleSaid :=
 OpenClaim.holds_of_wide 8 Tryz.f8 rfl rfl rfl rfl rfl rfl rfl ⟨rfl, rfl, rfl, rfl, rfl⟩ rfl rfl rfl rfl rfl (by kernel_rfl) Tryz.func8 (by kernel_rfl)
  (of_decide_eq_true (by kernel_rfl)) (by unfold Func.isWrapper; first | (rw [if_pos (by decide +kernel)]; kernel_rfl) | (rw [if_neg (by decide +kernel)]; exact ⟨rfl, rfl⟩))
  (fun os started H enc _ => lifted os started H enc)
theorem card_holds : Rows.AllocIdleCardSaid :=
 Claim7.holds_tied_plain_at .later [] [.data, .data] true _ true holds (fun _ h => by cases h) (by kernel_rfl) (fun _ h => by cases h) allocIdle_row_tie rfl ⟨rfl, rfl⟩ (by kernel_rfl) rfl
  (fun f fn hf hfn => by
   obtain rfl : f = 8 := Option.some.inj ((show Tryz.prog.funcNamed "moorings/mooringslaw13.AllocIdle" = some 8 by kernel_rfl).symm.trans hf) |>.symm
   obtain rfl : fn = Tryz.f8 := (Option.some.inj (Tryz.func8.symm.trans hfn)).symm
   exact ⟨by kernel_rfl, fun j t ht => by
    rw [Tryz.params8] at ht
    have hm : t ∈ [32, 3, 3] := by simpa using Array.mem_of_getElem? ht
    have hall : ([32, 3, 3].all fun u => !Tryz.prog.wantsStandIn u) = true := by kernel_rfl
    exact (show Tryz.prog.wantsStandIn t = false by simpa using List.all_eq_true.1 hall t hm)⟩)
  (by kernel_rfl)
end Go.Proofs.YtpopildnbgbhlaaGreatDoor.allocIdle
namespace Go.Proofs.YtpopildnbgbhlaaGreatDoor
theorem allocIdle_holds : Rows.AllocIdleCardSaid := allocIdle.card_holds
end Go.Proofs.YtpopildnbgbhlaaGreatDoor
