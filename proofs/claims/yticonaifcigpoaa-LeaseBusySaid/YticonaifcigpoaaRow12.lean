/- The rows of chapter 12's laws: what they share. -/
import Derived.Test.YticonaifcigpoaaEq12
import Derived.Test.YticonaifcigpoaaSym23
import Derived.Test.YticonaifcigpoaaRows
import Derived.ProofKit
import Derived.JoinedOf
namespace Go.Proofs.Yticonaifcigpoaa
open Go Go.Sy Go.RowKit Go.Proofs.Zz
set_option linter.unusedVariables false
set_option maxRecDepth 100000

theorem own : ownKnob Try.prog.godebug = none := by kernel_rfl
theorem laidOut : laidOutB Try.prog = true := by kernel_rfl
end Go.Proofs.Yticonaifcigpoaa
