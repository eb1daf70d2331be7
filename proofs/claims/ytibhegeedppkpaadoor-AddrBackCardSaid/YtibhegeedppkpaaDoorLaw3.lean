/- AddrBack: whatever it is called with, it returns true, and the arguments read as they did. No condition but what the card says of the library's tables. -/
import Derived.Test.YtibhegeedppkpaaDoorRow07
import Derived.Test.YtibhegeedppkpaaDoorP07f
namespace Go.Proofs.YtibhegeedppkpaaDoor.addrBack
open Go Go.Sy Go.RowKit Go.Proofs.Zz Go.ChangeShapes
set_option linter.unusedVariables false
set_option maxRecDepth 100000

theorem lifted (os : Os) (started : os.Started) (H : Type) (enc : TypeId × Value → H) :
    ReturnsInHanded {} Tryd.checked os 3 .any (fun w args => (Rows.addrBackSpec.pre enc Tryd.prog Tryd.f3 [] false w args ∧ laidMetH Tryd.prog tabs w) ∧ sizedMet enc Tryd.prog Tryd.f3 (OpenSpec.ofChange Rows.addrBackSpec) false w args)
      (Rows.addrBackSpec.post enc Tryd.prog Tryd.f3 false true false false) :=
  law_lifted (C := Tryd.checked) (X := fun w _ => laidMetH Tryd.prog tabs w) (Ts := ps3) (F := con3.f) (ts := [23, 3, 9]) (tb := 4) (fun _ _ _ hh h => h.of_heap hh) own started (by kernel_rfl) Tryd.func3
    (ChangeSpec.witness_shaped (enc := enc) (C := Tryd.checked) (os := os) (X := fun w _ => laidMetH Tryd.prog tabs w) false (World.laidAll Tryd.prog os tabs) #[.agg #[.int .i64 0, .int .i64 0], .int .i64 0, .string ⟨#[]⟩] 8 (World.laidAll_os _ _ _)
      shaped_tabs (by kernel_rfl) (by kernel_rfl) (by kernel_rfl) (met_tabs os _))
    (fun W _ hs h => glob_of hs h) laidOut k3 Tryd.params3 (by kernel_rfl) Tryd.underlying4
    (fun t ht => by
      have h : ([23, 3, 9].all fun t => Tryd.prog.readableRec t && decide (t < Tryd.prog.types.size)) = true := by kernel_rfl
      have := List.all_eq_true.1 h t ht
      rw [Bool.and_eq_true, decide_eq_true_eq] at this
      exact this)
    ⟨by kernel_rfl, by kernel_rfl, by kernel_rfl, trivial⟩ rfl (fun ds hds => by
      match ds, hds with
      | [d1, d2, d3], _ => rfl)
    (fun x hx => law3 x.1.1 x.1.2 x.2.1 x.2.2.1)
theorem holds : Rows.AddrBackSaid :=
  OpenClaim.holds_of_wide 3 Tryd.f3 rfl rfl rfl rfl rfl rfl rfl ⟨rfl, rfl, rfl, rfl, rfl⟩ rfl rfl rfl rfl rfl (by kernel_rfl) Tryd.func3 (by kernel_rfl)
    (of_decide_eq_true (by kernel_rfl)) (by unfold Func.isWrapper; first | (rw [if_pos (by decide +kernel)]; kernel_rfl) | (rw [if_neg (by decide +kernel)]; exact ⟨rfl, rfl⟩))
    (fun os started H enc _ => lifted os started H enc)
theorem card_holds : Rows.AddrBackCardSaid :=
  Claim7.holds_tied_plain_at .later [] [.data, .data, .data, .data, .pinned] true _ false holds (fun _ h => by cases h) (by kernel_rfl) (fun _ h => by cases h) addrBack_row_tie rfl ⟨rfl, rfl⟩ (by kernel_rfl) rfl
    (fun f fn hf hfn => by
      obtain rfl : f = 3 := Option.some.inj ((show Tryd.prog.funcNamed "moorings/mooringslaw07.AddrBack" = some 3 by kernel_rfl).symm.trans hf) |>.symm
      obtain rfl : fn = Tryd.f3 := (Option.some.inj (Tryd.func3.symm.trans hfn)).symm
      exact ⟨by kernel_rfl, fun j t ht => by
        rw [Tryd.params3] at ht
        have hm : t ∈ [23, 3, 9] := by simpa using Array.mem_of_getElem? ht
        have hall : ([23, 3, 9].all fun u => !Tryd.prog.wantsStandIn u) = true := by kernel_rfl
        exact (show Tryd.prog.wantsStandIn t = false by simpa using List.all_eq_true.1 hall t hm)⟩)
    (by kernel_rfl)
end Go.Proofs.YtibhegeedppkpaaDoor.addrBack
namespace Go.Proofs.YtibhegeedppkpaaDoor
theorem addrBack_holds : Rows.AddrBackCardSaid := addrBack.card_holds
end Go.Proofs.YtibhegeedppkpaaDoor
