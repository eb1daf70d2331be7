/- Plain laws: the chapter's example; LeaseSame. -/
import Derived.Test.YticonaifcigpoaaP12a
import Derived.KernelRfl
namespace Go.Proofs.Zz
open Go Go.Sy
set_option linter.unusedSimpArgs false
set_option linter.unusedVariables false

theorem aw1 : f15 [] 0 1 1 0 0 = some ([(0, (1, (1, (0, 0))))], (true, ())) := by kernel_rfl
theorem aw2 : f15 [(0, (1, (1, (0, 0))))] 5 0 2 0 0 = some ([(5, (0, (2, (0, 0)))), (0, (1, (1, (0, 0))))], (true, ())) := by kernel_rfl
theorem aw3 : f20 [] 0 3 9 = some ([(0, (3, 9))], ()) := by kernel_rfl
theorem aw4 : f19 [(5, (0, (2, (0, 0)))), (0, (1, (1, (0, 0))))] 1 1 = some (1, ()) := by kernel_rfl
theorem aw5 : f17 [(5, (0, (2, (0, 0)))), (0, (1, (1, (0, 0))))] 5 = some ([0], ()) := by kernel_rfl
theorem aw6 : f21 [(0, (3, 9))] 9 = some ([], ()) := by kernel_rfl
theorem awS : fSort [0, 1] = some [0, 1] := by
  unfold fSort
  rw [List.mergeSort_of_pairwise (by simp)]
  rfl
theorem awC : fCompact [0, 1] = some [0, 1] := by kernel_rfl
theorem aw7' : iter big u13_3 (([(5, (0, (2, (0, 0)))), (0, (1, (1, (0, 0))))], (2, (0, ()))), ((), ([], ()))) = some (.inl ((), ((), ([0, 1], ())))) := by kernel_rfl
theorem aw7 : f13 [(5, (0, (2, (0, 0)))), (0, (1, (1, (0, 0))))] = some ([0, 1], ()) := by
  unfold f13
  have e : iter big u13_3 (([(5, (0, (2, (0, 0)))), (0, (1, (1, (0, 0))))], ((([(5, (0, (2, (0, 0)))), (0, (1, (1, (0, 0))))] : List LT).length : Nat) : Int), (0, ())), ((), ([], ()))) = _ := aw7'
  rw [e]
  show ((fSort [0, 1]).bind fun y4 => _) = _
  rw [awS]
  show ((fCompact [0, 1]).bind fun y5 => some (y5, ())) = _
  rw [awC]
  rfl

theorem f7_eq : f7 = some (true, ()) := by
  unfold f7
  rw [aw1]
  simp only [Option.bind_some, aw2, aw3, aw4, aw5, aw6, aw7, cond_true]
  rw [f11_eq _ _ (by decide), f12_eq _ _ (by decide)]
  kernel_rfl

theorem law3 (a b : List LT) (h k : List HT) : f3 a b h k = some (true, ()) := by
  unfold f3
  rw [f7_eq, f8_eq, f8_eq]
  simp only [Option.bind_some, Bool.not_true, cond_false]
  cases h1 : (decide (a.length ≤ 40) && decide (h.length ≤ 40)) with
  | false => rfl
  | true =>
    cases h2 : (decide (b.length ≤ 40) && decide (k.length ≤ 40)) with
    | false => rfl
    | true =>
      simp only [Bool.and_eq_true, decide_eq_true_eq] at h1 h2
      rw [f9_eq _ _ (by unfold Sz; omega), f10_eq _ _ (by unfold Sz; omega), f11_eq _ _ (by unfold Sz; omega), f12_eq _ _ (by unfold Sz; omega), f11_eq _ _ (by unfold Sz; omega), f12_eq _ _ (by unfold Sz; omega)]
      simp
end Go.Proofs.Zz
