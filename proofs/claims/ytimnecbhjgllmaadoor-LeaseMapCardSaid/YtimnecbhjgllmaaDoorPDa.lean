/- Plain laws: lists that are the same. -/
import Derived.Test.YtimnecbhjgllmaaDoorPureD
import Derived.Test.YtimnecbhjgllmaaDoorIt2
namespace Go.Proofs.Zz
open Go Go.Sy
set_option linter.unusedSimpArgs false
set_option linter.unusedVariables false

abbrev LT := Int × (Int × (Int × (Int × Int)))
abbrev HT := Int × (Int × Int)
/-- fits a machine's counter -/
abbrev Sz {α : Type} (l : List α) : Prop := l.length ≤ 9223372036854775807

theorem f5_eq (l : List LT) (h : List HT) : f5 l h = some (decide (l.length ≤ 40) && decide (h.length ≤ 40), ()) := by
  unfold f5
  by_cases h1 : l.length ≤ 40
  · rw [decide_eq_true (show ((l.length : Nat) : Int) ≤ 40 by omega)]
    by_cases h2 : h.length ≤ 40
    · rw [decide_eq_true (show ((h.length : Nat) : Int) ≤ 40 by omega), decide_eq_true h1, decide_eq_true h2]; rfl
    · rw [decide_eq_false (show ¬ ((h.length : Nat) : Int) ≤ 40 by omega), decide_eq_true h1, decide_eq_false h2]; rfl
  · rw [decide_eq_false (show ¬ ((l.length : Nat) : Int) ≤ 40 by omega), decide_eq_false h1]; rfl

theorem ge0 (j : Nat) : decide (0 ≤ (j : Int)) = true := decide_eq_true (Int.natCast_nonneg j)
theorem ltn {j n : Nat} (h : j < n) : decide ((j : Int) < (n : Int)) = true := decide_eq_true (by omega)
theorem nlt (n : Nat) : decide ((n : Int) < (n : Int)) = false := decide_eq_false (by omega)
theorem nx {j n : Nat} (h : j < n) (hn : n ≤ 9223372036854775807) : IntKind.wrap .i64 ((j : Int) + 1) = ((j + 1 : Nat) : Int) := by rw [w64 (by omega) (by omega)]; omega

theorem lt_eq (a b : LT) : ((decide (a.1 = b.1)) && ((decide (a.2.1 = b.2.1)) && ((decide (a.2.2.1 = b.2.2.1)) && ((decide (a.2.2.2.1 = b.2.2.2.1)) && ((decide (a.2.2.2.2 = b.2.2.2.2)) && true))))) = decide (a = b) := by
  obtain ⟨a1, a2, a3, a4, a5⟩ := a
  obtain ⟨b1, b2, b3, b4, b5⟩ := b
  rw [Bool.eq_iff_iff]
  simp [Prod.ext_iff]

theorem ht_eq (a b : HT) : ((decide (a.1 = b.1)) && ((decide (a.2.1 = b.2.1)) && ((decide (a.2.2 = b.2.2)) && true))) = decide (a = b) := by
  obtain ⟨a1, a2, a3⟩ := a
  obtain ⟨b1, b2, b3⟩ := b
  rw [Bool.eq_iff_iff]
  simp [Prod.ext_iff]

theorem cond_swap {α : Type} (b : Bool) (x y : α) : cond (!b) x y = cond b y x := by cases b <;> rfl



theorem f39_eq (l m : List LT) (hl : Sz l) : f39 l m = some (decide (l = m), ()) := by
  unfold f39
  by_cases hlen : l.length = m.length
  · rw [decide_eq_true (show ((l.length : Nat) : Int) = ((m.length : Nat) : Int) by omega)]
    simp only [Bool.not_true, cond_false]
    have e : iter big u39_4 ((l, (m, (((l.length : Nat) : Int), (0, ())))), ((), ())) = _ := it_any (fun j => ((l, (m, (((l.length : Nat) : Int), (((j : Nat) : Int), ())))), ((), ()))) (fun j => !decide (rd (.pair (.int .i64) (.pair (.int .i64) (.pair (.int .i64) (.pair (.int .i64) (.int .i64))))) l j = rd (.pair (.int .i64) (.pair (.int .i64) (.pair (.int .i64) (.pair (.int .i64) (.int .i64))))) m j))
      (n := l.length) (z := ((false, ()), ((), ()))) (y := ((), ((), ()))) (fun j hj => by
        simp only [u39_4, t39_4, ltn hj, ge0, ltn (show j < m.length by omega), nx hj hl, cond_true, Bool.and_self, Int.toNat_natCast, lt_eq])
      (by simp only [u39_4, t39_4, nlt, cond_false]) 0 big (Nat.zero_le _) (by unfold big; omega)
    rw [e, any_range_eq hlen _ (fun j h => by rw [rd_lt h, rd_lt (by omega)])]
    cases decide (l = m) <;> rfl
  · rw [decide_eq_false (show ¬ ((l.length : Nat) : Int) = ((m.length : Nat) : Int) by omega), decide_eq_false (fun h => hlen (by rw [h]))]
    rfl

theorem f40_eq (l m : List HT) (hl : Sz l) : f40 l m = some (decide (l = m), ()) := by
  unfold f40
  by_cases hlen : l.length = m.length
  · rw [decide_eq_true (show ((l.length : Nat) : Int) = ((m.length : Nat) : Int) by omega)]
    simp only [Bool.not_true, cond_false]
    have e : iter big u40_4 ((l, (m, (((l.length : Nat) : Int), (0, ())))), ((), ())) = _ := it_any (fun j => ((l, (m, (((l.length : Nat) : Int), (((j : Nat) : Int), ())))), ((), ()))) (fun j => !decide (rd (.pair (.int .i64) (.pair (.int .i64) (.int .i64))) l j = rd (.pair (.int .i64) (.pair (.int .i64) (.int .i64))) m j))
      (n := l.length) (z := ((false, ()), ((), ()))) (y := ((), ((), ()))) (fun j hj => by
        simp only [u40_4, t40_4, ltn hj, ge0, ltn (show j < m.length by omega), nx hj hl, cond_true, Bool.and_self, Int.toNat_natCast, ht_eq])
      (by simp only [u40_4, t40_4, nlt, cond_false]) 0 big (Nat.zero_le _) (by unfold big; omega)
    rw [e, any_range_eq hlen _ (fun j h => by rw [rd_lt h, rd_lt (by omega)])]
    cases decide (l = m) <;> rfl
  · rw [decide_eq_false (show ¬ ((l.length : Nat) : Int) = ((m.length : Nat) : Int) by omega), decide_eq_false (fun h => hlen (by rw [h]))]
    rfl


theorem f16_eq (l m : List LT) (hl : Sz l) : f16 l m = some (decide (l = m), ()) := by
  unfold f16; rw [f39_eq l m hl]; rfl

theorem f17_eq (l m : List HT) (hl : Sz l) : f17 l m = some (decide (l = m), ()) := by
  unfold f17; rw [f40_eq l m hl]; rfl
end Go.Proofs.Zz
