/- StateCut: whatever it is called with, it returns true, and the arguments read as they did. -/
import Derived.Test.YtipajaocggpahaaGreatRow15
import Derived.Test.YtipajaocggpahaaGreatFQ
namespace Go.Proofs.YtipajaocggpahaaGreat.stateCut
open Go Go.Sy Go.RowKit Go.Proofs.Zz Go.ChangeShapes
set_option linter.unusedVariables false
set_option maxRecDepth 100000

theorem lifted (os : Os) (started : os.Started) (H : Type) (enc : TypeId × Value → H) :
    ReturnsInHanded {} Tryz.checked os 6 .any (Rows.stateCutSpec.pre6 enc Tryz.prog Tryz.f6 Rows.stateCutRow.domain false) (Rows.stateCutSpec.post enc Tryz.prog Tryz.f6 false true false false) :=
  law_lifted6 (C := Tryz.checked) (Ts := ps6) (F := con6.f) (ts := [32, 3, 33]) (tb := 4) own started (by kernel_rfl) Tryz.func6
    (ChangeSpec.witness6 (enc := enc) (C := Tryz.checked) false ⟨#[], #[.agg #[.int .i64 0, .int .i64 0, .int .i64 0, .int .i64 0, .int .i64 0, .int .i64 0, .int .i64 0, .int .i64 0, .int .i64 0, .int .i64 0, .int .i64 0, .bool false, .int .i64 0, .slice none 0 0, .slice none 0 0, .slice none 0 0], .int .i64 0, .slice none 0 0], []⟩ 8 (by kernel_rfl) (by kernel_rfl) (by kernel_rfl) (by kernel_rfl))
    (fun W hs => trivial) laidOut k6 Tryz.params6 (by kernel_rfl) Tryz.underlying4
    (fun t ht => by
      have h : ([32, 3, 33].all fun t => Tryz.prog.readableRec t && decide (t < Tryz.prog.types.size)) = true := by kernel_rfl
      have := List.all_eq_true.1 h t ht
      rw [Bool.and_eq_true, decide_eq_true_eq] at this
      exact this)
    ⟨by kernel_rfl, by kernel_rfl, by kernel_rfl, trivial⟩ rfl (fun ds hds => by
      match ds, hds with
      | [d1, d2, d3], _ => rfl)
    (fun x hx => law6w x.1 x.2.1 x.2.2.1 hx.2.2.1.2)
theorem holds : Rows.StateCutSaid :=
  OpenClaim.holds_of_wide 6 Tryz.f6 rfl rfl rfl rfl rfl rfl rfl ⟨rfl, rfl, rfl, rfl, rfl⟩ rfl rfl rfl rfl rfl (by kernel_rfl) Tryz.func6 (by kernel_rfl)
    (of_decide_eq_true (by kernel_rfl)) (by unfold Func.isWrapper; first | (rw [if_pos (by decide +kernel)]; kernel_rfl) | (rw [if_neg (by decide +kernel)]; exact ⟨rfl, rfl⟩))
    (fun os started H enc _ => lifted os started H enc)
end Go.Proofs.YtipajaocggpahaaGreat.stateCut
namespace Go.Proofs.YtipajaocggpahaaGreat
theorem stateCut_holds : Rows.StateCutSaid := stateCut.holds
end Go.Proofs.YtipajaocggpahaaGreat
