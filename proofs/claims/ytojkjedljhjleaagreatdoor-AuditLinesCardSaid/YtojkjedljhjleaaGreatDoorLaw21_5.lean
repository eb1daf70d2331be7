/- AuditLines: whatever it is called with, it returns true, and the arguments read as they did. No condition but what the card says of the library's tables. -/
import Derived.Test.YtojkjedljhjleaaGreatDoorRow21
import Derived.Test.YtojkjedljhjleaaGreatDoorP21o
namespace Go.Proofs.YtojkjedljhjleaaGreatDoor.auditLines
open Go Go.Sy Go.RowKit Go.Proofs.Zz Go.ChangeShapes
set_option linter.unusedVariables false
set_option maxRecDepth 100000

theorem lifted (os : Os) (started : os.Started) (H : Type) (enc : TypeId × Value → H) :
    ReturnsInHanded {} Tryz.checked os 5 .any (fun w args => (Rows.auditLinesSpec.pre enc Tryz.prog Tryz.f5 [] false w args ∧ laidMetH Tryz.prog tabs w) ∧ sizedMet enc Tryz.prog Tryz.f5 (OpenSpec.ofChange Rows.auditLinesSpec) false w args)
      (Rows.auditLinesSpec.post enc Tryz.prog Tryz.f5 false true false false) :=
  law_lifted (C := Tryz.checked) (X := fun w _ => laidMetH Tryz.prog tabs w) (Ts := ps5) (F := con5.f) (ts := [25, 47, 3]) (tb := 4) (fun _ _ _ hh h => h.of_heap hh) own started (by kernel_rfl) Tryz.func5
    (ChangeSpec.witness_shaped (enc := enc) (C := Tryz.checked) (os := os) (X := fun w _ => laidMetH Tryz.prog tabs w) false (World.laidAll Tryz.prog os tabs) #[.agg #[.int .i64 0, .int .i64 0, .int .i64 0, .int .i64 0, .int .i64 0, .int .i64 0, .int .i64 0, .int .i64 0], .slice none 0 0, .int .i64 0] 8 (World.laidAll_os _ _ _)
      shaped_tabs (by kernel_rfl) (by kernel_rfl) (by kernel_rfl) (met_tabs os _))
    (fun W _ hs h => glob_of hs h) laidOut k5 Tryz.params5 (by kernel_rfl) Tryz.underlying4
    (fun t ht => by
      have h : ([25, 47, 3].all fun t => Tryz.prog.readableRec t && decide (t < Tryz.prog.types.size)) = true := by kernel_rfl
      have := List.all_eq_true.1 h t ht
      rw [Bool.and_eq_true, decide_eq_true_eq] at this
      exact this)
    ⟨by kernel_rfl, by kernel_rfl, by kernel_rfl, trivial⟩ rfl (fun ds hds => by
      match ds, hds with
      | [d1, d2, d3], _ => rfl)
    (fun x hx => law5 x.1.1.1 x.1.1.2 x.1.2.1.1 x.1.2.1.2 x.1.2.2.1 x.1.2.2.2.1 x.1.2.2.2.2.1 x.1.2.2.2.2.2 x.2.1 x.2.2.1)
theorem holds : Rows.AuditLinesSaid :=
  OpenClaim.holds_of_wide 5 Tryz.f5 rfl rfl rfl rfl rfl rfl rfl ⟨rfl, rfl, rfl, rfl, rfl⟩ rfl rfl rfl rfl rfl (by kernel_rfl) Tryz.func5 (by kernel_rfl)
    (of_decide_eq_true (by kernel_rfl)) (by unfold Func.isWrapper; first | (rw [if_pos (by decide +kernel)]; kernel_rfl) | (rw [if_neg (by decide +kernel)]; exact ⟨rfl, rfl⟩))
    (fun os started H enc _ => lifted os started H enc)
theorem card_holds : Rows.AuditLinesCardSaid :=
  Claim7.holds_tied_plain_at .later [] [.data, .data, .data, .data, .pinned] true _ false holds (fun _ h => by cases h) (by kernel_rfl) (fun _ h => by cases h) auditLines_row_tie rfl ⟨rfl, rfl⟩ (by kernel_rfl) rfl
    (fun f fn hf hfn => by
      obtain rfl : f = 5 := Option.some.inj ((show Tryz.prog.funcNamed "moorings/mooringslaw21.AuditLines" = some 5 by kernel_rfl).symm.trans hf) |>.symm
      obtain rfl : fn = Tryz.f5 := (Option.some.inj (Tryz.func5.symm.trans hfn)).symm
      exact ⟨by kernel_rfl, fun j t ht => by
        rw [Tryz.params5] at ht
        have hm : t ∈ [25, 47, 3] := by simpa using Array.mem_of_getElem? ht
        have hall : ([25, 47, 3].all fun u => !Tryz.prog.wantsStandIn u) = true := by kernel_rfl
        exact (show Tryz.prog.wantsStandIn t = false by simpa using List.all_eq_true.1 hall t hm)⟩)
    (by kernel_rfl)
end Go.Proofs.YtojkjedljhjleaaGreatDoor.auditLines
namespace Go.Proofs.YtojkjedljhjleaaGreatDoor
theorem auditLines_holds : Rows.AuditLinesCardSaid := auditLines.card_holds
end Go.Proofs.YtojkjedljhjleaaGreatDoor
