/- Plain laws: the chapter's example; LeaseSame. -/
import Derived.Test.YtimnecbhjgllmaaDoorPDa
import Derived.KernelRfl
namespace Go.Proofs.Zz
open Go Go.Sy
set_option linter.unusedSimpArgs false
set_option linter.unusedVariables false

theorem aw1 : f11 [] 0 1 1 0 0 = some ([(0, (1, (1, (0, 0))))], (true, ())) := by kernel_rfl
theorem aw2 : f11 [(0, (1, (1, (0, 0))))] 5 0 2 0 0 = some ([(5, (0, (2, (0, 0)))), (0, (1, (1, (0, 0))))], (true, ())) := by kernel_rfl
theorem aw3 : f12 [] 0 3 9 = some ([(0, (3, 9))], ()) := by kernel_rfl
theorem aw4 : f7 [(5, (0, (2, (0, 0)))), (0, (1, (1, (0, 0))))] 1 1 = some (1, ()) := by kernel_rfl
theorem aw5 : f13 [(5, (0, (2, (0, 0)))), (0, (1, (1, (0, 0))))] 5 = some ([0], ()) := by kernel_rfl
theorem aw6 : f14 [(0, (3, 9))] 9 = some ([], ()) := by kernel_rfl
theorem awS : fSort [0, 1] = some [0, 1] := by
  unfold fSort
  rw [List.mergeSort_of_pairwise (by simp)]
  rfl
theorem awC : fCompact [0, 1] = some [0, 1] := by kernel_rfl
theorem aw7' : iter big u15_3 (([(5, (0, (2, (0, 0)))), (0, (1, (1, (0, 0))))], (2, (0, ()))), ((), ([], ()))) = some (.inl ((), ((), ([0, 1], ())))) := by kernel_rfl
theorem aw7 : f15 [(5, (0, (2, (0, 0)))), (0, (1, (1, (0, 0))))] = some ([0, 1], ()) := by
  unfold f15
  have e : iter big u15_3 (([(5, (0, (2, (0, 0)))), (0, (1, (1, (0, 0))))], ((([(5, (0, (2, (0, 0)))), (0, (1, (1, (0, 0))))] : List LT).length : Nat) : Int), (0, ())), ((), ([], ()))) = _ := aw7'
  rw [e]
  show ((fSort [0, 1]).bind fun y4 => _) = _
  rw [awS]
  show ((fCompact [0, 1]).bind fun y5 => some (y5, ())) = _
  rw [awC]
  rfl

theorem f4_eq : f4 = some (true, ()) := by
  unfold f4
  rw [aw1]
  simp only [Option.bind_some, aw2, aw3, aw4, aw5, aw6, aw7, cond_true]
  rw [f16_eq _ _ (by decide), f17_eq _ _ (by decide)]
  kernel_rfl


end Go.Proofs.Zz
