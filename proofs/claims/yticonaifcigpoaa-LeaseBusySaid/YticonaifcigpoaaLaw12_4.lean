/- LeaseBusy: whatever it is called with, it returns true, and the arguments read as they did. -/
import Derived.Test.YticonaifcigpoaaRow12
import Derived.Test.YticonaifcigpoaaP12g
namespace Go.Proofs.Yticonaifcigpoaa.leaseBusy
open Go Go.Sy Go.RowKit Go.Proofs.Zz Go.ChangeShapes
set_option linter.unusedVariables false
set_option maxRecDepth 100000

theorem lifted (os : Os) (started : os.Started) (H : Type) (enc : TypeId × Value → H) :
    ReturnsInHanded {} Try.checked os 4 .any (Rows.leaseBusySpec.pre6 enc Try.prog Try.f4 Rows.leaseBusyRow.domain false) (Rows.leaseBusySpec.post enc Try.prog Try.f4 false true false false) :=
  law_lifted6 (C := Try.checked) (Ts := ps4) (F := con4.f) (ts := [22, 3]) (tb := 4) own started (by kernel_rfl) Try.func4
    (ChangeSpec.witness6 (enc := enc) (C := Try.checked) false ⟨#[], #[.slice none 0 0, .int .i64 0], []⟩ 8 (by kernel_rfl) (by kernel_rfl) (by kernel_rfl) (by kernel_rfl))
    (fun W hs => trivial) laidOut k4 Try.params4 (by kernel_rfl) Try.underlying4
    (fun t ht => by
      have h : ([22, 3].all fun t => Try.prog.readableRec t && decide (t < Try.prog.types.size)) = true := by kernel_rfl
      have := List.all_eq_true.1 h t ht
      rw [Bool.and_eq_true, decide_eq_true_eq] at this
      exact this)
    ⟨by kernel_rfl, by kernel_rfl, trivial⟩ rfl (fun ds hds => by
      match ds, hds with
      | [d1, d2], _ => rfl)
    (fun x hx => law4 x.1 x.2.1)
theorem holds : Rows.LeaseBusySaid :=
  OpenClaim.holds_of_wide 4 Try.f4 rfl rfl rfl rfl rfl rfl rfl ⟨rfl, rfl, rfl, rfl, rfl⟩ rfl rfl rfl rfl rfl (by kernel_rfl) Try.func4 (by kernel_rfl)
    (of_decide_eq_true (by kernel_rfl)) (by unfold Func.isWrapper; first | (rw [if_pos (by decide +kernel)]; kernel_rfl) | (rw [if_neg (by decide +kernel)]; exact ⟨rfl, rfl⟩))
    (fun os started H enc _ => lifted os started H enc)
end Go.Proofs.Yticonaifcigpoaa.leaseBusy
namespace Go.Proofs.Yticonaifcigpoaa
theorem leaseBusy_holds : Rows.LeaseBusySaid := leaseBusy.holds
end Go.Proofs.Yticonaifcigpoaa
