/- LeaseMap: whatever it is called with, it returns true, and the arguments read as they did. No condition but what the card says of the library's tables. -/
import Derived.Test.YtimnecbhjgllmaaDoorRowD
import Derived.Test.YtimnecbhjgllmaaDoorPDg
namespace Go.Proofs.YtimnecbhjgllmaaDoor.leaseMap
open Go Go.Sy Go.RowKit Go.Proofs.Zz Go.ChangeShapes
set_option linter.unusedVariables false
set_option maxRecDepth 100000

theorem lifted (os : Os) (started : os.Started) (H : Type) (enc : TypeId × Value → H) :
    ReturnsInHanded {} Tryd.checked os 3 .any (fun w args => (Rows.leaseMapSpec.pre enc Tryd.prog Tryd.f3 [] false w args ∧ laidMetH Tryd.prog tabs w) ∧ sizedMet enc Tryd.prog Tryd.f3 (OpenSpec.ofChange Rows.leaseMapSpec) false w args)
      (Rows.leaseMapSpec.post enc Tryd.prog Tryd.f3 false true false false) :=
  law_lifted (C := Tryd.checked) (X := fun w _ => laidMetH Tryd.prog tabs w) (Ts := ps3) (F := con3.f) (ts := [25, 26, 27, 3, 3]) (tb := 4) (fun _ _ _ hh h => h.of_heap hh) own started (by kernel_rfl) Tryd.func3
    (ChangeSpec.witness_shaped (enc := enc) (C := Tryd.checked) (os := os) (X := fun w _ => laidMetH Tryd.prog tabs w) false (World.laidAll Tryd.prog os tabs) #[.agg #[.int .i64 0, .int .i64 0, .int .i64 0, .int .i64 0, .int .i64 0, .int .i64 0, .int .i64 0, .int .i64 0], .slice none 0 0, .slice none 0 0, .int .i64 0, .int .i64 0] 8 (World.laidAll_os _ _ _)
      shaped_tabs (by kernel_rfl) (by kernel_rfl) (by kernel_rfl) (met_tabs os _))
    (fun W _ hs h => glob_of h) laidOut k3 Tryd.params3 (by kernel_rfl) Tryd.underlying4
    (fun t ht => by
      have h : ([25, 26, 27, 3, 3].all fun t => Tryd.prog.readableRec t && decide (t < Tryd.prog.types.size)) = true := by kernel_rfl
      have := List.all_eq_true.1 h t ht
      rw [Bool.and_eq_true, decide_eq_true_eq] at this
      exact this)
    ⟨by kernel_rfl, by kernel_rfl, by kernel_rfl, by kernel_rfl, by kernel_rfl, trivial⟩ rfl (fun ds hds => by
      match ds, hds with
      | [d1, d2, d3, d4, d5], _ => rfl)
    (fun x hx => law3 x.1.1.1 x.1.1.2 x.1.2.1.1 x.1.2.1.2 x.1.2.2.1 x.1.2.2.2.1 x.1.2.2.2.2.1 x.1.2.2.2.2.2 x.2.1 x.2.2.1 x.2.2.2.1 x.2.2.2.2.1)
theorem holds : Rows.LeaseMapSaid :=
  OpenClaim.holds_of_wide 3 Tryd.f3 rfl rfl rfl rfl rfl rfl rfl ⟨rfl, rfl, rfl, rfl, rfl⟩ rfl rfl rfl rfl rfl (by kernel_rfl) Tryd.func3 (by kernel_rfl)
    (of_decide_eq_true (by kernel_rfl)) (by unfold Func.isWrapper; first | (rw [if_pos (by decide +kernel)]; kernel_rfl) | (rw [if_neg (by decide +kernel)]; exact ⟨rfl, rfl⟩))
    (fun os started H enc _ => lifted os started H enc)
theorem card_holds : Rows.LeaseMapCardSaid :=
  Claim7.holds_tied_plain_at .later [] [.data, .data] true _ false holds (fun _ h => by cases h) (by kernel_rfl) (fun _ h => by cases h) leaseMap_row_tie rfl ⟨rfl, rfl⟩ (by kernel_rfl) rfl
    (fun f fn hf hfn => by
      obtain rfl : f = 3 := Option.some.inj ((show Tryd.prog.funcNamed "moorings/mooringslaw12.LeaseMap" = some 3 by kernel_rfl).symm.trans hf) |>.symm
      obtain rfl : fn = Tryd.f3 := (Option.some.inj (Tryd.func3.symm.trans hfn)).symm
      exact ⟨by kernel_rfl, fun j t ht => by
        rw [Tryd.params3] at ht
        have hm : t ∈ [25, 26, 27, 3, 3] := by simpa using Array.mem_of_getElem? ht
        have hall : ([25, 26, 27, 3, 3].all fun u => !Tryd.prog.wantsStandIn u) = true := by kernel_rfl
        exact (show Tryd.prog.wantsStandIn t = false by simpa using List.all_eq_true.1 hall t hm)⟩)
    (by kernel_rfl)
end Go.Proofs.YtimnecbhjgllmaaDoor.leaseMap
namespace Go.Proofs.YtimnecbhjgllmaaDoor
theorem leaseMap_holds : Rows.LeaseMapCardSaid := leaseMap.card_holds
end Go.Proofs.YtimnecbhjgllmaaDoor
