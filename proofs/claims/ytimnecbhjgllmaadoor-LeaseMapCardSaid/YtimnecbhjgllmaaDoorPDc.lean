/- Plain laws: what finding, putting, taking away and standing in order come to. -/
import Derived.Test.YtimnecbhjgllmaaDoorPDb
namespace Go.Proofs.Zz
open Go Go.Sy
set_option linter.unusedSimpArgs false
set_option linter.unusedVariables false

abbrev findP (a b : Int) : LT → Bool := fun x => decide (x.2.1 = a) && decide (x.2.2.1 = b)
abbrev behP (a b : Int) : LT → Bool := fun x => decide (a < x.2.1) || (decide (x.2.1 = a) && decide (b < x.2.2.1))

theorem rdL {l : List LT} {j : Nat} (h : j < l.length) : rd (.pair (.int .i64) (.pair (.int .i64) (.pair (.int .i64) (.pair (.int .i64) (.int .i64))))) l j = l[j] := rd_lt h
theorem rdI {l : List Int} {j : Nat} (h : j < l.length) : rd (.int .i64) l j = l[j] := rd_lt h

theorem f24_eq (a b c d e : Int) : f24 a b c d e = some ((b, c), ()) := by unfold f24 f20; rfl

theorem f23_eq (l : List LT) (hl : Sz l) (a b : Int) : f23 l a b = some (if l.findIdx (findP a b) < l.length then ((l.findIdx (findP a b) : Nat) : Int) else -1, ()) := by
  unfold f23
  have e : iter big u23_43_2_0 ((l, ((), (((l.length : Nat) : Int), (0, ())))), (((a, (b, ())), (((), ()), ())), ())) = _ :=
    it_idx l (findP a b) (fun j => ((l, ((), (((l.length : Nat) : Int), (((j : Nat) : Int), ())))), (((a, (b, ())), (((), ()), ())), ()))) (fun j => ((((j : Nat) : Int), ()), (((a, (b, ())), (((), ()), ())), ())))
      (y := ((), (((a, (b, ())), (((), ()), ())), ()))) (fun j h => by
        simp only [u23_43_2_0, t23_43_2_0, ltn h, ge0, cond_true, Bool.and_self, Int.toNat_natCast, rdL h, f24_eq, Option.bind_some, findP, Bool.and_true, nx h hl])
      (by simp only [u23_43_2_0, t23_43_2_0, nlt, cond_false]) (fuel := big) (by unfold big; omega)
  rw [e]
  split <;> rfl

theorem f7_eq (l : List LT) (hl : Sz l) (a b : Int) : f7 l a b = some (if l.findIdx (findP a b) < l.length then ((l.findIdx (findP a b) : Nat) : Int) else -1, ()) := by
  unfold f7; rw [f23_eq l hl]; rfl

theorem f73_eq (x y : Int) : f73 x y = some (if x < y then -1 else if y < x then 1 else 0, ()) := by
  unfold f73
  by_cases h1 : x < y
  · simp [h1]
  · by_cases h2 : y < x
    · simp [h1, h2]
    · simp [h1, h2]

theorem f72_eq (x y : Int) : f72 [x, y] = some (if x = 0 then y else x, ()) := by
  unfold f72
  by_cases hx : x = 0
  · by_cases hy : y = 0
    · subst hx hy
      have e : iter big u72_3 ((0, ([0, 0], ((([0, 0] : List Int).length : Int), (0, ())))), ((), ())) = some (.inl ((0, ()), ((), ()))) := it_mono (k := 3) (by unfold big; omega) (by kernel_rfl)
      rw [e]; rfl
    · subst hx
      have e : iter big u72_3 ((0, ([0, y], ((([0, y] : List Int).length : Int), (0, ())))), ((), ())) = some (.inr ((y, ()), ((), ()))) :=
        it_first (fun j => ((0, ([0, y], ((([0, y] : List Int).length : Int), (((j : Nat) : Int), ())))), ((), ()))) (n := 1) (fun j hj => by
          have : j = 0 := by omega
          subst this
          simp [u72_3, t72_3, rd, w64]) (by
          simp [u72_3, t72_3, rd, hy]) 0 big (by omega) (by unfold big; omega)
      rw [e]; rfl
  · have e : iter big u72_3 ((0, ([x, y], ((([x, y] : List Int).length : Int), (0, ())))), ((), ())) = some (.inr ((x, ()), ((), ()))) :=
        it_first (fun j => ((0, ([x, y], ((([x, y] : List Int).length : Int), (((j : Nat) : Int), ())))), ((), ()))) (n := 0) (fun j hj => by omega) (by
          simp [u72_3, t72_3, rd, hx]) 0 big (by omega) (by unfold big; omega)
    rw [e]; simp [hx]

theorem f50_eq (a b c d : Int) : ∃ r, f50 a b c d = some (r, ()) ∧ (decide (0 < r) = (decide (c < a) || (decide (a = c) && decide (d < b)))) := by
  unfold f50
  rw [f73_eq, f73_eq]
  simp only [Option.bind_some]
  rw [f72_eq]
  refine ⟨_, rfl, ?_⟩
  rcases Int.lt_trichotomy a c with h | h | h
  · rw [if_pos h]
    have h1 : ¬ c < a := by omega
    have h2 : ¬ a = c := by omega
    simp [h1, h2]
  · subst h
    simp only [Int.lt_irrefl, if_false, if_true]
    rcases Int.lt_trichotomy b d with h | h | h
    · have : ¬ d < b := by omega
      simp [h, this]
    · subst h; simp
    · have : ¬ b < d := by omega
      simp [h, this]
  · have h1 : ¬ a < c := by omega
    have h2 : ¬ a = c := by omega
    simp [h, h1, h2]

theorem f29_eq (l : List LT) (hl : Sz l) (a b : Int) : f29 l a b = some (((l.findIdx (behP a b) : Nat) : Int), ()) := by
  unfold f29
  have e : iter big u29_43_2_0 ((l, ((), (((l.length : Nat) : Int), (0, ())))), (((a, (b, ())), (((), ()), ())), ())) = _ :=
    it_idx l (behP a b) (fun j => ((l, ((), (((l.length : Nat) : Int), (((j : Nat) : Int), ())))), (((a, (b, ())), (((), ()), ())), ()))) (fun j => ((((j : Nat) : Int), ()), (((a, (b, ())), (((), ()), ())), ())))
      (y := ((), (((a, (b, ())), (((), ()), ())), ()))) (fun j h => by
        obtain ⟨r, h1, h2⟩ := f50_eq l[j].2.1 l[j].2.2.1 a b
        simp only [u29_43_2_0, t29_43_2_0, ltn h, ge0, cond_true, Bool.and_self, Int.toNat_natCast, rdL h, f24_eq, Option.bind_some, h1, h2, behP, nx h hl])
      (by simp only [u29_43_2_0, t29_43_2_0, nlt, cond_false]) (fuel := big) (by unfold big; omega)
  rw [e]
  by_cases hlt : l.findIdx (behP a b) < l.length
  · rw [if_pos hlt]
    simp only [Option.bind_some]
    rw [decide_eq_false (by omega)]; rfl
  · rw [if_neg hlt]
    have : l.findIdx (behP a b) = l.length := Nat.le_antisymm List.findIdx_le_length (by omega)
    rw [this]; rfl

theorem fCl (l : List LT) (hl : l.length ≤ 100) : fCloneLease l = some (l, ()) := by
  unfold fCloneLease fClone
  rw [Nat.ble_eq_true_of_le (show l.length * 40 ≤ 140737488355328 by omega)]; rfl

def ins (l : List LT) (x : LT) : List LT := l.take (l.findIdx (behP x.2.1 x.2.2.1)) ++ x :: l.drop (l.findIdx (behP x.2.1 x.2.2.1))

def has (l : List LT) (a b : Int) : Bool := l.any (findP a b)

theorem idx_has (l : List LT) (a b : Int) : l.findIdx (findP a b) < l.length ↔ has l a b = true := by
  unfold has
  rw [List.any_eq_true, List.findIdx_lt_length]

theorem f11_eq (l : List LT) (hl : l.length ≤ 100) (s a b c d : Int) : f11 l s a b c d = some (if has l a b = true ∨ 32 ≤ l.length then (l, (false, ())) else (ins l (s, (a, (b, (c, d)))), (true, ()))) := by
  have hs : Sz l := by unfold Sz; omega
  unfold f11
  rw [fCl l hl, f7_eq l hs]
  simp only [Option.bind_some]
  by_cases hh : has l a b = true
  · rw [if_pos ((idx_has l a b).2 hh), decide_eq_false (by omega), if_pos (.inl hh)]; rfl
  · rw [if_neg (fun h => hh ((idx_has l a b).1 h)), decide_eq_true rfl]
    simp only [Bool.not_true, cond_false]
    by_cases h32 : 32 ≤ l.length
    · rw [decide_eq_true (show (32 : Int) ≤ ((l.length : Nat) : Int) by omega), if_pos (.inr h32)]; rfl
    · rw [decide_eq_false (show ¬ (32 : Int) ≤ ((l.length : Nat) : Int) by omega), if_neg (by rintro (h | h); exact hh h; exact h32 h)]
      simp only [cond_false, f24_eq, Option.bind_some, f29_eq l hs]
      have hle : l.findIdx (behP a b) ≤ l.length := List.findIdx_le_length
      have hI : fInsLease l ((l.findIdx (behP a b) : Nat) : Int) [(s, (a, (b, (c, d))))] = some (ins l (s, (a, (b, (c, d))))) := by
        unfold fInsLease fIns
        rw [decide_eq_true (show (0 : Int) ≤ ((l.findIdx (behP a b) : Nat) : Int) by omega), decide_eq_true (show ((l.findIdx (behP a b) : Nat) : Int) ≤ ((List.length l : Nat) : Int) by omega), Nat.ble_eq_true_of_le (show (List.length l + 1) * 40 ≤ 140737488355328 by omega)]
        rfl
      rw [hI]; rfl
end Go.Proofs.Zz
