/- The chapter's example; the guard; states settled. -/
import Derived.Test.YtipajaocggpahaaGreatP15e
import Derived.KernelRfl
namespace Go.Proofs.Zz
open Go Go.Sy
set_option linter.unusedSimpArgs false
set_option linter.unusedVariables false
set_option maxRecDepth 100000

theorem f8_eq : f8 = some (true, ()) := by kernel_rfl

/-- the guard -/
def Few (s : ST) : Prop := s.2.2.2.2.1.length ≤ 40 ∧ s.2.2.2.2.2.length ≤ 40 ∧ s.2.2.2.1.length ≤ 6
instance (s : ST) : Decidable (Few s) := by unfold Few; infer_instance
theorem Few.sm {s : ST} (h : Few s) : Sm s := ⟨by have := h.2.2; omega, by have := h.1; omega, by have := h.2.1; omega⟩

theorem f9_eq (s : ST) :
    f9 s.1.1.1 s.1.1.2 s.1.2.1.1 s.1.2.1.2 s.1.2.2.1 s.1.2.2.2.1 s.1.2.2.2.2.1 s.1.2.2.2.2.2 s.2.1.1 s.2.1.2.1 s.2.1.2.2.1 s.2.1.2.2.2 s.2.2.1 s.2.2.2.1 s.2.2.2.2.1 s.2.2.2.2.2 = some (decide (Few s), ()) := by
  unfold f9 f19 Few
  by_cases h1 : s.2.2.2.2.1.length ≤ 40
  · by_cases h2 : s.2.2.2.2.2.length ≤ 40
    · by_cases h3 : s.2.2.2.1.length ≤ 6
      · have h1' : ((s.2.2.2.2.1.length : Nat) : Int) ≤ 40 := by omega
        have h2' : ((s.2.2.2.2.2.length : Nat) : Int) ≤ 40 := by omega
        have h3' : ((s.2.2.2.1.length : Nat) : Int) ≤ 6 := by omega
        simp [h1, h2, h3, h1', h2', h3']
      · have h1' : ((s.2.2.2.2.1.length : Nat) : Int) ≤ 40 := by omega
        have h2' : ((s.2.2.2.2.2.length : Nat) : Int) ≤ 40 := by omega
        have h3' : ¬ ((s.2.2.2.1.length : Nat) : Int) ≤ 6 := by omega
        simp [h1, h2, h3, h1', h2', h3']
    · have h1' : ((s.2.2.2.2.1.length : Nat) : Int) ≤ 40 := by omega
      have h2' : ¬ ((s.2.2.2.2.2.length : Nat) : Int) ≤ 40 := by omega
      simp [h1, h2, h1', h2']
  · have h1' : ¬ ((s.2.2.2.2.1.length : Nat) : Int) ≤ 40 := by omega
    simp [h1, h1']

abbrev LsT : Ty := .pair (.int .i64) (.pair (.int .i64) (.pair (.int .i64) (.pair (.int .i64) (.int .i64))))
theorem loop10 (s : ST) (now : Int) (h : Sm s) :
    iter big u10_6 ((now, ((), ((), (((s.2.2.2.2.1.length : Nat) : Int), (0, ()))))), (((0, (0, (0, (0, (0, (0, (0, (0, (0, (0, (0, (false, (0, ((), ((), ((), ())))))))))))))))), ((s.1.1.1, (s.1.1.2, (s.1.2.1.1, (s.1.2.1.2, (s.1.2.2.1, (s.1.2.2.2.1, (s.1.2.2.2.2.1, (s.1.2.2.2.2.2, (s.2.1.1, (s.2.1.2.1, (s.2.1.2.2.1, (s.2.1.2.2.2, (now, ((), ((), ((), ())))))))))))))))), ())), ([], ([], ([], (s.2.2.2.1, (s.2.2.2.2.1, (s.2.2.2.2.2, ()))))))))
    = some (.inl ((now, ((), ((), ()))), (((0, (0, (0, (0, (0, (0, (0, (0, (0, (0, (0, (false, (0, ((), ((), ((), ())))))))))))))))), ((s.1.1.1, (s.1.1.2, (s.1.2.1.1, (s.1.2.1.2, (s.1.2.2.1, (s.1.2.2.2.1, (s.1.2.2.2.2.1, (s.1.2.2.2.2.2, (s.2.1.1, (s.2.1.2.1, (s.2.1.2.2.1, (s.2.1.2.2.2, (now, ((), ((), ((), ())))))))))))))))), ())), ([], ([], ([], (s.2.2.2.1, (useL s.2.2.2.2.1 now, (s.2.2.2.2.2, ()))))))))) := by
  have hl := h.l
  generalize s.2.2.2.2.1 = L at hl ⊢
  have hS : L.length ≤ 9223372036854775807 := by omega
  have hm : ∀ j, (useL (L.take j) now ++ L.drop j).length = L.length := fun j => by rw [List.length_append, useL_len, List.length_take, List.length_drop]; omega
  have := it_all (u := u10_6) (fun j => ((now, ((), ((), (((L.length : Nat) : Int), (((j : Nat) : Int), ()))))), (((0, (0, (0, (0, (0, (0, (0, (0, (0, (0, (0, (false, (0, ((), ((), ((), ())))))))))))))))), ((s.1.1.1, (s.1.1.2, (s.1.2.1.1, (s.1.2.1.2, (s.1.2.2.1, (s.1.2.2.2.1, (s.1.2.2.2.2.1, (s.1.2.2.2.2.2, (s.2.1.1, (s.2.1.2.1, (s.2.1.2.2.1, (s.2.1.2.2.2, (now, ((), ((), ((), ())))))))))))))))), ())), ([], ([], ([], (s.2.2.2.1, (useL (L.take j) now ++ L.drop j, (s.2.2.2.2.2, ())))))))))
    (n := L.length) (y := ((now, ((), ((), ()))), (((0, (0, (0, (0, (0, (0, (0, (0, (0, (0, (0, (false, (0, ((), ((), ((), ())))))))))))))))), ((s.1.1.1, (s.1.1.2, (s.1.2.1.1, (s.1.2.1.2, (s.1.2.2.1, (s.1.2.2.2.1, (s.1.2.2.2.2.1, (s.1.2.2.2.2.2, (s.2.1.1, (s.2.1.2.1, (s.2.1.2.2.1, (s.2.1.2.2.2, (now, ((), ((), ((), ())))))))))))))))), ())), ([], ([], ([], (s.2.2.2.1, (useL L now, (s.2.2.2.2.2, ()))))))))) (fun j hj => by
      have hj2 : j < (useL (L.take j) now ++ L.drop j).length := by rw [hm]; exact hj
      have hlen : (useL (L.take j) now).length = j := by rw [useL_len, List.length_take]; omega
      have hat : (useL (L.take j) now ++ L.drop j)[j] = L[j] := by
        rw [List.getElem_append_right (by omega)]
        simp only [hlen, Nat.sub_self, List.getElem_drop, Nat.add_zero]
      simp only [u10_6, t10_6, ltn hj, ge0, hm j, decide_eq_true hj, cond_true, Bool.and_self, Int.toNat_natCast, rdL hj2, hat, nx hj hS]
      have e2 : useL (L.take (j + 1)) now ++ L.drop (j + 1) = (useL (L.take j) now ++ L.drop j).set j (L[j].1, (L[j].2.1, (L[j].2.2.1, (L[j].2.2.2.1, now)))) := by
        rw [List.set_append_right _ _ (by omega), hlen, Nat.sub_self, List.drop_eq_getElem_cons hj, List.set_cons_zero, take_snoc hj]
        unfold useL
        rw [List.map_append, List.append_assoc]; rfl
      rw [e2])
    (by
      have e : useL (L.take L.length) now ++ L.drop L.length = useL L now := by rw [List.take_length, List.drop_length, List.append_nil]
      simp only [u10_6, t10_6, nlt, cond_false, e])
    0 big (Nat.zero_le _) (by unfold big; omega)
  have e0 : useL (L.take 0) now ++ L.drop 0 = L := by rw [List.take_zero, List.drop_zero]; rfl
  rw [e0] at this
  exact this

theorem f10_eq (s : ST) (now : Int) (h : Sm s) :
    f10 s.1.1.1 s.1.1.2 s.1.2.1.1 s.1.2.1.2 s.1.2.2.1 s.1.2.2.2.1 s.1.2.2.2.2.1 s.1.2.2.2.2.2 s.2.1.1 s.2.1.2.1 s.2.1.2.2.1 s.2.1.2.2.2 s.2.2.1 s.2.2.2.1 s.2.2.2.2.1 s.2.2.2.2.2 now = some ((settle s now).1, ((settle s now).2, ())) := by
  unfold f10
  rw [fCP _ h.p, fCL _ h.l, fCH _ h.h]
  simp only [Option.bind_some]
  rw [f14_eq s h.szP h.szL h.szH]
  simp only [Option.bind_some]
  unfold settle
  by_cases hM : MayS s
  case neg => rw [decide_eq_false hM, if_neg (fun k => hM k.1)]; rfl
  rw [decide_eq_true hM]
  by_cases h1 : now < s.2.2.1
  · rw [decide_eq_true h1, if_neg (fun k => by have := k.2.1; omega)]; rfl
  rw [decide_eq_false h1]
  by_cases h2 : 1073741824 < now
  · rw [decide_eq_true h2, if_neg (fun k => by have := k.2.2; omega)]; rfl
  rw [decide_eq_false h2, if_pos ⟨hM, by omega, by omega⟩]
  simp only [Bool.not_true, cond_false]
  rw [loop10 s now h]
  simp only [Option.bind_some]
  rw [f21_eq _ h.h]
  rfl
end Go.Proofs.Zz
