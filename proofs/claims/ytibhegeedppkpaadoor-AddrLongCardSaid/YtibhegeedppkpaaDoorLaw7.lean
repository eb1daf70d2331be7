/- AddrLong: whatever it is called with, it returns true, and the arguments read as they did. No condition but what the card says of the library's tables. -/
import Derived.Test.YtibhegeedppkpaaDoorRow07
import Derived.Test.YtibhegeedppkpaaDoorP07e
namespace Go.Proofs.YtibhegeedppkpaaDoor.addrLong
open Go Go.Sy Go.RowKit Go.Proofs.Zz Go.ChangeShapes
set_option linter.unusedVariables false
set_option maxRecDepth 100000

theorem lifted (os : Os) (started : os.Started) (H : Type) (enc : TypeId × Value → H) :
    ReturnsInHanded {} Tryd.checked os 7 .any (fun w args => (Rows.addrLongSpec.pre enc Tryd.prog Tryd.f7 [] false w args ∧ laidMetH Tryd.prog tabs w) ∧ sizedMet enc Tryd.prog Tryd.f7 (OpenSpec.ofChange Rows.addrLongSpec) false w args)
      (Rows.addrLongSpec.post enc Tryd.prog Tryd.f7 false true false false) :=
  law_lifted (C := Tryd.checked) (X := fun w _ => laidMetH Tryd.prog tabs w) (Ts := ps7) (F := con7.f) (ts := [3, 23]) (tb := 4) (fun _ _ _ hh h => h.of_heap hh) own started (by kernel_rfl) Tryd.func7
    (ChangeSpec.witness_shaped (enc := enc) (C := Tryd.checked) (os := os) (X := fun w _ => laidMetH Tryd.prog tabs w) false (World.laidAll Tryd.prog os tabs) #[.int .i64 0, .agg #[.int .i64 0, .int .i64 0]] 8 (World.laidAll_os _ _ _)
      shaped_tabs (by kernel_rfl) (by kernel_rfl) (by kernel_rfl) (met_tabs os _))
    (fun W _ hs h => glob_of hs h) laidOut k7 Tryd.params7 (by kernel_rfl) Tryd.underlying4
    (fun t ht => by
      have h : ([3, 23].all fun t => Tryd.prog.readableRec t && decide (t < Tryd.prog.types.size)) = true := by kernel_rfl
      have := List.all_eq_true.1 h t ht
      rw [Bool.and_eq_true, decide_eq_true_eq] at this
      exact this)
    ⟨by kernel_rfl, by kernel_rfl, trivial⟩ rfl (fun ds hds => by
      match ds, hds with
      | [d1, d2], _ => rfl)
    (fun x hx => law7 x.1 x.2.1.1 x.2.1.2)
theorem holds : Rows.AddrLongSaid :=
  OpenClaim.holds_of_wide 7 Tryd.f7 rfl rfl rfl rfl rfl rfl rfl ⟨rfl, rfl, rfl, rfl, rfl⟩ rfl rfl rfl rfl rfl (by kernel_rfl) Tryd.func7 (by kernel_rfl)
    (of_decide_eq_true (by kernel_rfl)) (by unfold Func.isWrapper; first | (rw [if_pos (by decide +kernel)]; kernel_rfl) | (rw [if_neg (by decide +kernel)]; exact ⟨rfl, rfl⟩))
    (fun os started H enc _ => lifted os started H enc)
theorem card_holds : Rows.AddrLongCardSaid :=
  Claim7.holds_tied_plain_at .later [] [.data, .data, .data, .data, .pinned] true _ false holds (fun _ h => by cases h) (by kernel_rfl) (fun _ h => by cases h) addrLong_row_tie rfl ⟨rfl, rfl⟩ (by kernel_rfl) rfl
    (fun f fn hf hfn => by
      obtain rfl : f = 7 := Option.some.inj ((show Tryd.prog.funcNamed "moorings/mooringslaw07.AddrLong" = some 7 by kernel_rfl).symm.trans hf) |>.symm
      obtain rfl : fn = Tryd.f7 := (Option.some.inj (Tryd.func7.symm.trans hfn)).symm
      exact ⟨by kernel_rfl, fun j t ht => by
        rw [Tryd.params7] at ht
        have hm : t ∈ [3, 23] := by simpa using Array.mem_of_getElem? ht
        have hall : ([3, 23].all fun u => !Tryd.prog.wantsStandIn u) = true := by kernel_rfl
        exact (show Tryd.prog.wantsStandIn t = false by simpa using List.all_eq_true.1 hall t hm)⟩)
    (by kernel_rfl)
end Go.Proofs.YtibhegeedppkpaaDoor.addrLong
namespace Go.Proofs.YtibhegeedppkpaaDoor
theorem addrLong_holds : Rows.AddrLongCardSaid := addrLong.card_holds
end Go.Proofs.YtibhegeedppkpaaDoor
