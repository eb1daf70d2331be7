/- LeaseSame: whatever it is called with, it returns true, and the arguments read as they did. -/
import Derived.Test.YticonaifcigpoaaRow12
import Derived.Test.YticonaifcigpoaaP12b
namespace Go.Proofs.Yticonaifcigpoaa.leaseSame
open Go Go.Sy Go.RowKit Go.Proofs.Zz Go.ChangeShapes
set_option linter.unusedVariables false
set_option maxRecDepth 100000

theorem lifted (os : Os) (started : os.Started) (H : Type) (enc : TypeId × Value → H) :
    ReturnsInHanded {} Try.checked os 3 .any (Rows.leaseSameSpec.pre6 enc Try.prog Try.f3 Rows.leaseSameRow.domain false) (Rows.leaseSameSpec.post enc Try.prog Try.f3 false true false false) :=
  law_lifted6 (C := Try.checked) (Ts := ps3) (F := con3.f) (ts := [22, 22, 23, 23]) (tb := 4) own started (by kernel_rfl) Try.func3
    (ChangeSpec.witness6 (enc := enc) (C := Try.checked) false ⟨#[], #[.slice none 0 0, .slice none 0 0, .slice none 0 0, .slice none 0 0], []⟩ 8 (by kernel_rfl) (by kernel_rfl) (by kernel_rfl) (by kernel_rfl))
    (fun W hs => trivial) laidOut k3 Try.params3 (by kernel_rfl) Try.underlying4
    (fun t ht => by
      have h : ([22, 22, 23, 23].all fun t => Try.prog.readableRec t && decide (t < Try.prog.types.size)) = true := by kernel_rfl
      have := List.all_eq_true.1 h t ht
      rw [Bool.and_eq_true, decide_eq_true_eq] at this
      exact this)
    ⟨by kernel_rfl, by kernel_rfl, by kernel_rfl, by kernel_rfl, trivial⟩ rfl (fun ds hds => by
      match ds, hds with
      | [d1, d2, d3, d4], _ => rfl)
    (fun x hx => law3 x.1 x.2.1 x.2.2.1 x.2.2.2.1)
theorem holds : Rows.LeaseSameSaid :=
  OpenClaim.holds_of_wide 3 Try.f3 rfl rfl rfl rfl rfl rfl rfl ⟨rfl, rfl, rfl, rfl, rfl⟩ rfl rfl rfl rfl rfl (by kernel_rfl) Try.func3 (by kernel_rfl)
    (of_decide_eq_true (by kernel_rfl)) (by unfold Func.isWrapper; first | (rw [if_pos (by decide +kernel)]; kernel_rfl) | (rw [if_neg (by decide +kernel)]; exact ⟨rfl, rfl⟩))
    (fun os started H enc _ => lifted os started H enc)
end Go.Proofs.Yticonaifcigpoaa.leaseSame
namespace Go.Proofs.Yticonaifcigpoaa
theorem leaseSame_holds : Rows.LeaseSameSaid := leaseSame.holds
end Go.Proofs.Yticonaifcigpoaa
