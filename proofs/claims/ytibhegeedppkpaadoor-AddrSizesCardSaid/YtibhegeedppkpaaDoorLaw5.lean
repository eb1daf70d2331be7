/- AddrSizes: whatever it is called with, it returns true, and the arguments read as they did. No condition but what the card says of the library's tables. -/
import Derived.Test.YtibhegeedppkpaaDoorRow07
import Derived.Test.YtibhegeedppkpaaDoorP07e
namespace Go.Proofs.YtibhegeedppkpaaDoor.addrSizes
open Go Go.Sy Go.RowKit Go.Proofs.Zz Go.ChangeShapes
set_option linter.unusedVariables false
set_option maxRecDepth 100000

theorem lifted (os : Os) (started : os.Started) (H : Type) (enc : TypeId × Value → H) :
    ReturnsInHanded {} Tryd.checked os 5 .any (fun w args => (Rows.addrSizesSpec.pre enc Tryd.prog Tryd.f5 [] false w args ∧ laidMetH Tryd.prog tabs w) ∧ sizedMet enc Tryd.prog Tryd.f5 (OpenSpec.ofChange Rows.addrSizesSpec) false w args)
      (Rows.addrSizesSpec.post enc Tryd.prog Tryd.f5 false true false false) :=
  law_lifted (C := Tryd.checked) (X := fun w _ => laidMetH Tryd.prog tabs w) (Ts := ps5) (F := con5.f) (ts := [23]) (tb := 4) (fun _ _ _ hh h => h.of_heap hh) own started (by kernel_rfl) Tryd.func5
    (ChangeSpec.witness_shaped (enc := enc) (C := Tryd.checked) (os := os) (X := fun w _ => laidMetH Tryd.prog tabs w) false (World.laidAll Tryd.prog os tabs) #[.agg #[.int .i64 0, .int .i64 0]] 8 (World.laidAll_os _ _ _)
      shaped_tabs (by kernel_rfl) (by kernel_rfl) (by kernel_rfl) (met_tabs os _))
    (fun W _ hs h => glob_of hs h) laidOut k5 Tryd.params5 (by kernel_rfl) Tryd.underlying4
    (fun t ht => by
      have h : ([23].all fun t => Tryd.prog.readableRec t && decide (t < Tryd.prog.types.size)) = true := by kernel_rfl
      have := List.all_eq_true.1 h t ht
      rw [Bool.and_eq_true, decide_eq_true_eq] at this
      exact this)
    ⟨by kernel_rfl, trivial⟩ rfl (fun ds hds => by
      match ds, hds with
      | [d1], _ => rfl)
    (fun x hx => law5 x.1.1 x.1.2)
theorem holds : Rows.AddrSizesSaid :=
  OpenClaim.holds_of_wide 5 Tryd.f5 rfl rfl rfl rfl rfl rfl rfl ⟨rfl, rfl, rfl, rfl, rfl⟩ rfl rfl rfl rfl rfl (by kernel_rfl) Tryd.func5 (by kernel_rfl)
    (of_decide_eq_true (by kernel_rfl)) (by unfold Func.isWrapper; first | (rw [if_pos (by decide +kernel)]; kernel_rfl) | (rw [if_neg (by decide +kernel)]; exact ⟨rfl, rfl⟩))
    (fun os started H enc _ => lifted os started H enc)
theorem card_holds : Rows.AddrSizesCardSaid :=
  Claim7.holds_tied_plain_at .later [] [.data, .data, .data, .data, .pinned] true _ false holds (fun _ h => by cases h) (by kernel_rfl) (fun _ h => by cases h) addrSizes_row_tie rfl ⟨rfl, rfl⟩ (by kernel_rfl) rfl
    (fun f fn hf hfn => by
      obtain rfl : f = 5 := Option.some.inj ((show Tryd.prog.funcNamed "moorings/mooringslaw07.AddrSizes" = some 5 by kernel_rfl).symm.trans hf) |>.symm
      obtain rfl : fn = Tryd.f5 := (Option.some.inj (Tryd.func5.symm.trans hfn)).symm
      exact ⟨by kernel_rfl, fun j t ht => by
        rw [Tryd.params5] at ht
        have hm : t ∈ [23] := by simpa using Array.mem_of_getElem? ht
        have hall : ([23].all fun u => !Tryd.prog.wantsStandIn u) = true := by kernel_rfl
        exact (show Tryd.prog.wantsStandIn t = false by simpa using List.all_eq_true.1 hall t hm)⟩)
    (by kernel_rfl)
end Go.Proofs.YtibhegeedppkpaaDoor.addrSizes
namespace Go.Proofs.YtibhegeedppkpaaDoor
theorem addrSizes_holds : Rows.AddrSizesCardSaid := addrSizes.card_holds
end Go.Proofs.YtibhegeedppkpaaDoor
