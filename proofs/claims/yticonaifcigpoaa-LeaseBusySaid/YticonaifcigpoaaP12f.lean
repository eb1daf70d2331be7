/- Plain laws: LeaseBusy. -/
import Derived.Test.YticonaifcigpoaaP12c
namespace Go.Proofs.Zz
open Go Go.Sy
set_option linter.unusedSimpArgs false
set_option linter.unusedVariables false

theorem compact_sorted (d : Array Int) (hs : ∀ i j, i ≤ j → j < d.size → d[i]! ≤ d[j]!) : ∀ m, m ≤ d.size →
    (Lib.compactUpTo d m).Pairwise (· < ·) ∧ ∀ x, x ∈ Lib.compactUpTo d m ↔ ∃ j, j < m ∧ d[j]! = x
  | 0, _ => by simp [Lib.compactUpTo]
  | m + 1, hm => by
    obtain ⟨h1, h2⟩ := compact_sorted d hs m (by omega)
    rw [Lib.compactUpTo_succ]
    cases hk : Lib.keeps d m with
    | true =>
      simp only [if_true]
      have hlt : ∀ x ∈ Lib.compactUpTo d m, x < d[m]! := by
        intro x hx
        obtain ⟨j, hj, rfl⟩ := (h2 x).1 hx
        have e1 := hs j (m - 1) (by omega) (by omega)
        have e2 := hs (m - 1) m (by omega) (by omega)
        have e3 : d[m]! ≠ d[m - 1]! := by
          intro he
          rw [Lib.keeps_neg (by omega) he] at hk
          cases hk
        omega
      refine ⟨List.pairwise_append.2 ⟨h1, List.pairwise_singleton _ _, fun x hx y hy => ?_⟩, fun x => ?_⟩
      · rw [List.mem_singleton] at hy; subst hy; exact hlt x hx
      · rw [List.mem_append, List.mem_singleton, h2]
        constructor
        · rintro (⟨j, hj, h⟩ | h)
          · exact ⟨j, by omega, h⟩
          · exact ⟨m, by omega, h.symm⟩
        · rintro ⟨j, hj, h⟩
          rcases Nat.lt_or_ge j m with h' | h'
          · exact .inl ⟨j, h', h⟩
          · have : j = m := by omega
            subst this; exact .inr h.symm
    | false =>
      simp only [Bool.false_eq_true, if_false, List.append_nil]
      refine ⟨h1, fun x => ?_⟩
      rw [h2]
      constructor
      · rintro ⟨j, hj, h⟩; exact ⟨j, by omega, h⟩
      · rintro ⟨j, hj, h⟩
        rcases Nat.lt_or_ge j m with h' | h'
        · exact ⟨j, h', h⟩
        · have : j = m := by omega
          subst this
          rcases Nat.eq_zero_or_pos j with h0 | h0
          · subst h0; rw [Lib.keeps_lt_one d 0 (by omega)] at hk; cases hk
          · refine ⟨j - 1, by omega, ?_⟩
            by_cases he : d[j]! = d[j - 1]!
            · rw [← he]; exact h
            · rw [Lib.keeps_pos he] at hk; cases hk

def busyL (l : List LT) : List Int := Lib.compact ((l.map (·.2.1)).mergeSort fun x y => decide (x ≤ y))

theorem busy_ok (l : List LT) : (busyL l).Pairwise (· < ·) ∧ ∀ x, x ∈ busyL l ↔ ∃ y ∈ l, y.2.1 = x := by
  unfold busyL Lib.compact
  have hp := List.pairwise_mergeSort (le := fun x y : Int => decide (x ≤ y)) (fun a b c h1 h2 => by simp only [decide_eq_true_eq] at *; omega) (fun a b => by simp only [Bool.or_eq_true, decide_eq_true_eq]; omega) (l.map (·.2.1))
  have hm := fun x => List.mem_mergeSort (a := x) (l := l.map (·.2.1)) (le := fun x y : Int => decide (x ≤ y))
  generalize ((l.map (·.2.1)).mergeSort fun x y => decide (x ≤ y)) = zs at hp hm
  have hg : ∀ j, j < zs.length → zs.toArray[j]! = zs.getD j 0 := fun j hj => by simp [hj]
  obtain ⟨h1, h2⟩ := compact_sorted zs.toArray (fun i j hij hj => by
    have hj' : j < zs.length := by simpa using hj
    rcases Nat.lt_or_ge i j with h | h
    · have := List.pairwise_iff_getElem.1 hp i j (by omega) hj' h
      simp only [decide_eq_true_eq] at this
      simpa [hj', show i < zs.length by omega] using this
    · have : i = j := by omega
      subst this; exact Int.le_refl _) zs.length (by simp)
  refine ⟨h1, fun x => ?_⟩
  rw [h2]
  have e : (∃ j, j < zs.length ∧ zs.toArray[j]! = x) ↔ x ∈ zs := by
    rw [List.mem_iff_getElem]
    constructor
    · rintro ⟨j, hj, h⟩; exact ⟨j, hj, by simpa [hj] using h⟩
    · rintro ⟨j, hj, h⟩; exact ⟨j, hj, by simpa [hj] using h⟩
  rw [e, hm]
  simp

theorem f24_eq (a b c d e : Int) : f24 a b c d e = some (((b, c), (a, (b, (c, (d, e))))), ()) := by unfold f24; rfl

theorem f13_eq (l : List LT) (hl : l.length ≤ 100) : f13 l = some (busyL l, ()) := by
  unfold f13
  let acc : Nat → List Int := fun j => (List.range j).map fun i => (rd LeaseT l i).2.1
  have ha : ∀ j, (acc j).length = j := fun j => by simp [acc]
  have e : iter big u13_3 ((l, (((l.length : Nat) : Int), (0, ()))), ((), ([], ()))) = _ := it_all (fun j => ((l, (((l.length : Nat) : Int), (((j : Nat) : Int), ()))), ((), (acc j, ())))) (n := l.length) (y := ((), ((), (acc l.length, ())))) (fun j hj => by
      have h1 := ha j
      have hacc : acc (j + 1) = acc j ++ [(rd LeaseT l j).2.1] := by
        simp only [acc, List.range_succ, List.map_append, List.map_cons, List.map_nil]
      simp only [u13_3, t13_3, ltn hj, ge0, Bool.and_self, cond_true, Int.toNat_natCast, nx hj (show l.length ≤ 9223372036854775807 by omega), hacc, f24_eq, Option.bind_some]
      rw [decide_eq_true (show ((acc j).length + 1) * 8 ≤ 140737488355328 by omega), decide_eq_true (show (acc j).length + 1 ≤ 9223372036854775807 by omega)]
      rfl) (by simp only [u13_3, t13_3, nlt, cond_false]) 0 big (by omega) (by unfold big; omega)
  have hfin : acc l.length = l.map (·.2.1) := by
    apply List.ext_getElem (by simp [acc])
    intro j h1 h2
    have hj : j < l.length := by simpa using h2
    have r1 : rd LeaseT l j = l[j] := rd_lt hj
    simp only [acc, List.getElem_map, List.getElem_range, r1]
  rw [e]
  simp only [Option.bind_some, hfin]
  have hS : fSort (l.map (·.2.1)) = some ((l.map (·.2.1)).mergeSort fun x y => decide (x ≤ y)) := by
    unfold fSort
    rw [show ltN (List.length (l.map (·.2.1))) 4611686018427387904 = true from by rw [List.length_map]; exact Nat.ble_eq_true_of_le (by omega)]; rfl
  have hlen : ((l.map (·.2.1)).mergeSort fun x y => decide (x ≤ y)).length = (l.map (·.2.1)).length := List.length_mergeSort _
  have hC : fCompact ((l.map (·.2.1)).mergeSort fun x y => decide (x ≤ y)) = some (busyL l) := by
    unfold fCompact busyL
    rw [show ltN (List.length ((l.map (·.2.1)).mergeSort fun x y => decide (x ≤ y))) 4611686018427387904 = true from by rw [hlen, List.length_map]; exact Nat.ble_eq_true_of_le (by omega)]; rfl
  rw [hS]
  simp only [Option.bind_some, hlen, Nat.beq_refl, Bool.and_self, cond_true, hC]

theorem any_succ (p : Nat → Bool) (j : Nat) : (List.range (j + 1)).any p = ((List.range j).any p || p j) := by
  rw [List.range_succ, List.any_append]; simp
end Go.Proofs.Zz
