/- The rows of chapter 15's laws: what they share. -/
import Derived.Test.YtipajaocggpahaaGreatEq15
import Derived.Test.YtipajaocggpahaaGreatFC
import Derived.Test.YtipajaocggpahaaGreatRows
import Derived.ProofKit
import Derived.JoinedOf
namespace Go.Proofs.YtipajaocggpahaaGreat
open Go Go.Sy Go.RowKit Go.Proofs.Zz
set_option linter.unusedVariables false
set_option maxRecDepth 100000

theorem own : ownKnob Tryz.prog.godebug = none := by kernel_rfl
theorem laidOut : laidOutB Tryz.prog = true := by kernel_rfl
end Go.Proofs.YtipajaocggpahaaGreat
