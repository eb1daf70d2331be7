/- Plain laws: LeaseBusy, the loops. -/
import Derived.Test.YticonaifcigpoaaP12f
namespace Go.Proofs.Zz
open Go Go.Sy
set_option linter.unusedSimpArgs false
set_option linter.unusedVariables false

theorem there_eq (l : List LT) (hl : l.length ≤ 100) (i : Int) (b : List Int) (k : Nat) (hk : k < b.length) :
    iter big u4_10 ((l, (i, (((k : Nat) : Int), (false, (0, ()))))), ((), (b, ()))) =
      some (.inl ((l, (i, (((k : Nat) : Int), ((List.range l.length).any (fun n => decide ((rd LeaseT l n).2.1 = rd (.int .i64) b k)), ())))), ((), (b, ())))) :=
  it_all (fun j => ((l, (i, (((k : Nat) : Int), ((List.range j).any (fun n => decide ((rd LeaseT l n).2.1 = rd (.int .i64) b k)), (((j : Nat) : Int), ()))))), ((), (b, ())))) (n := l.length)
    (y := ((l, (i, (((k : Nat) : Int), ((List.range l.length).any (fun n => decide ((rd LeaseT l n).2.1 = rd (.int .i64) b k)), ())))), ((), (b, ())))) (fun j hj => by
      rw [any_succ]
      simp only [u4_10, t4_10, ltn hj, ltn hk, ge0, Bool.and_self, cond_true, Int.toNat_natCast, nx hj (show l.length ≤ 9223372036854775807 by omega), decide_eq_true hk]
      cases (List.range j).any (fun n => decide ((rd LeaseT l n).2.1 = rd (.int .i64) b k)) with
      | true => rfl
      | false => simp only [cond_false, Bool.false_or]) (by simp only [u4_10, t4_10, nlt, cond_false]) 0 big (by omega) (by unfold big; omega)

theorem in_eq (l : List LT) (i : Nat) (hi : i < l.length) (b : List Int) (hb : b.length ≤ 9223372036854775807) :
    iter big u4_19 ((l, (((i : Nat) : Int), (false, (0, ())))), ((), (b, ()))) =
      some (.inl (((List.range b.length).any (fun n => decide (rd (.int .i64) b n = (rd LeaseT l i).2.1)), ()), ((), ()))) :=
  it_all (fun j => ((l, (((i : Nat) : Int), ((List.range j).any (fun n => decide (rd (.int .i64) b n = (rd LeaseT l i).2.1)), (((j : Nat) : Int), ())))), ((), (b, ())))) (n := b.length)
    (y := (((List.range b.length).any (fun n => decide (rd (.int .i64) b n = (rd LeaseT l i).2.1)), ()), ((), ()))) (fun j hj => by
      rw [any_succ]
      simp only [u4_19, t4_19, ltn hj, ltn hi, ge0, Bool.and_self, cond_true, Int.toNat_natCast, nx hj hb, decide_eq_true hj]
      cases (List.range j).any (fun n => decide (rd (.int .i64) b n = (rd LeaseT l i).2.1)) with
      | true => rfl
      | false => simp only [cond_false, Bool.false_or]) (by simp only [u4_19, t4_19, nlt, cond_false]) 0 big (by omega) (by unfold big; omega)

theorem outer_eq (l : List LT) (hl : l.length ≤ 100) (i : Int) (b : List Int) (hb : b.length ≤ 9223372036854775807) (h1 : b.Pairwise (· < ·)) (h2 : ∀ x ∈ b, ∃ y ∈ l, y.2.1 = x) :
    iter big u4_6 ((l, (i, (0, ()))), ((), (b, ()))) = some (.inl ((l, (i, ())), ((), (b, ())))) :=
  it_all (fun j => ((l, (i, (((j : Nat) : Int), ()))), ((), (b, ())))) (n := b.length) (y := ((l, (i, ())), ((), (b, ())))) (fun j hj => by
      have hth : (List.range l.length).any (fun n => decide ((rd LeaseT l n).2.1 = rd (.int .i64) b j)) = true := by
        obtain ⟨y, hy, he⟩ := h2 b[j] (List.getElem_mem _)
        obtain ⟨n, hn, rfl⟩ := List.mem_iff_getElem.1 hy
        rw [List.any_eq_true]
        refine ⟨n, List.mem_range.2 hn, ?_⟩
        have r1 : rd LeaseT l n = l[n] := rd_lt hn
        rw [r1, rdI hj]
        exact decide_eq_true he
      simp only [u4_6, t4_6, ltn hj, cond_true, there_eq l hl i b j hj, Option.bind_some, hth, Bool.not_true, cond_false, nx hj hb]
      cases j with
      | zero => rfl
      | succ j =>
        have e : IntKind.wrap .i64 (((j + 1 : Nat) : Int) - 1) = ((j : Nat) : Int) := by rw [w64 (by omega) (by omega)]; omega
        have hlt := List.pairwise_iff_getElem.1 h1 j (j + 1) (by omega) hj (by omega)
        rw [decide_eq_true (show (0 : Int) < ((j + 1 : Nat) : Int) by omega), e]
        simp only [cond_true, ge0, ltn (show j < b.length by omega), Bool.and_self, Int.toNat_natCast, decide_eq_true hj, decide_eq_true (show j < b.length by omega), rdI hj, rdI (show j < b.length by omega)]
        rw [decide_eq_false (show ¬ b[j + 1] ≤ b[j] by omega)]
        rfl) (by simp only [u4_6, t4_6, nlt, cond_false]) 0 big (by omega) (by unfold big; omega)

theorem law4 (l : List LT) (i : Int) : f4 l i = some (true, ()) := by
  unfold f4
  rw [f7_eq]
  simp only [Option.bind_some, Bool.not_true, cond_false]
  by_cases h40 : l.length ≤ 40
  · rw [decide_eq_false (show ¬ (40 : Int) < ((l.length : Nat) : Int) by omega)]
    obtain ⟨h1, h2⟩ := busy_ok l
    have hb : (busyL l).length ≤ 100 := by
      unfold busyL
      refine Nat.le_trans (compact_len _) ?_
      rw [List.length_mergeSort, List.length_map]; omega
    simp only [cond_false, f13_eq l (by omega), Option.bind_some, outer_eq l (by omega) i (busyL l) (by omega) h1 (fun x hx => (h2 x).1 hx)]
    by_cases hi : i < 0
    · rw [decide_eq_true hi]; rfl
    · rw [decide_eq_false hi]
      by_cases hi2 : ((l.length : Nat) : Int) ≤ i
      · rw [decide_eq_true hi2]; rfl
      · rw [decide_eq_false hi2]
        obtain ⟨n, rfl⟩ : ∃ n : Nat, i = (n : Int) := ⟨i.toNat, by omega⟩
        have hn : n < l.length := by omega
        simp only [cond_false, in_eq l n hn (busyL l) (by omega), Option.bind_some]
        have : (List.range (busyL l).length).any (fun k => decide (rd (.int .i64) (busyL l) k = (rd LeaseT l n).2.1)) = true := by
          have r1 : rd LeaseT l n = l[n] := rd_lt hn
          obtain ⟨k, hk, he⟩ := List.mem_iff_getElem.1 ((h2 l[n].2.1).2 ⟨l[n], List.getElem_mem _, rfl⟩)
          rw [List.any_eq_true]
          refine ⟨k, List.mem_range.2 hk, ?_⟩
          rw [r1, rdI hk]
          exact decide_eq_true he
        rw [this]
  · rw [decide_eq_true (show (40 : Int) < ((l.length : Nat) : Int) by omega)]; rfl
end Go.Proofs.Zz
