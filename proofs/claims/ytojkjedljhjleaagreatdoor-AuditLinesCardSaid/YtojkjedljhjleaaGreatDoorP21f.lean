/- Plain laws of chapter 21: the chapter's example. -/
import Derived.Test.YtojkjedljhjleaaGreatDoorP21e
import Derived.KernelRfl
namespace Go.Proofs.Zz
open Go Go.Sy
set_option linter.unusedSimpArgs false
set_option linter.unusedVariables false

/-- the chapter's example -/
theorem f7_eq : f7 = some (true, ()) := by kernel_rfl

theorem f8_eq (a b c d e f g h q i' o : Int) (p : Bool) (now : Int) (P : List HT) (L : List LT) (H : List HT) : f8 a b c d e f g h q i' o p now P L H = some (decide (L.length ≤ 40) && (decide (H.length ≤ 40) && decide (P.length ≤ 6)), ()) := by
  unfold f8 f20
  by_cases h1 : L.length ≤ 40
  · rw [decide_eq_true (show ((L.length : Nat) : Int) ≤ 40 by omega), decide_eq_true h1]
    simp only [cond_true, Option.bind_some, Bool.true_and]
    by_cases h2 : H.length ≤ 40
    · rw [decide_eq_true (show ((H.length : Nat) : Int) ≤ 40 by omega), decide_eq_true h2]
      simp only [cond_true, Bool.true_and]
      congr 2
      rw [decide_eq_decide]; omega
    · rw [decide_eq_false (show ¬ ((H.length : Nat) : Int) ≤ 40 by omega), decide_eq_false h2]; rfl
  · rw [decide_eq_false (show ¬ ((L.length : Nat) : Int) ≤ 40 by omega), decide_eq_false h1]; rfl
end Go.Proofs.Zz
