/- What is done to pools: the program's functions in the model's words. -/
import Derived.Test.YtipajaocggpahaaGreatP15g
namespace Go.Proofs.Zz
open Go Go.Sy
set_option linter.unusedSimpArgs false
set_option linter.unusedVariables false

theorem it_anyR {α β γ : Type} {u : α → Option (R3 α β γ)} (st : Nat → α) (p : Nat → Bool) {n : Nat} {y : β} {z : γ} (hs : ∀ j, j < n → u (st j) = cond (p j) (some (.ret z)) (some (.next (st (j + 1))))) (he : u (st n) = some (.out y)) (hn : n < big) :
    iter big u (st 0) = some (cond ((List.range n).any p) (.inr z) (.inl y)) := by
  have := it_any st p hs he 0 big (Nat.zero_le _) (by omega)
  rw [this, Nat.sub_zero, List.range_eq_range']

theorem getD_lt {l : List HT} {j : Nat} (h : j < l.length) : l.getD j (0, (0, 0)) = l[j] := by
  rw [List.getD_eq_getElem?_getD, List.getElem?_eq_getElem h]; rfl

theorem f158_eq {out : Int} (P : List HT) (hP : PoolsP P out) (v1 v3 v4 v5 v6 : Int) (busy : List Int) (but : Int) (p : HT) :
    f158 v1 out v3 v4 v5 v6 busy P but p.1 p.2.1 p.2.2 = some (roomE P out but p, ()) := by
  unfold f158 roomE
  rw [f83_eq p out hP.out0 hP.out4]
  simp only [Option.bind_some]
  by_cases hf : FitsP p out
  case neg => rw [decide_eq_false hf, if_pos hf]; rfl
  rw [decide_eq_true hf, if_neg (fun h => h hf)]
  simp only [Bool.not_true, cond_false]
  have hl := hP.len
  have hsz : P.length ≤ 9223372036854775807 := by omega
  have e := it_anyR (u := u158_4) (fun j => ((P, (but, ((), (P, (((P.length : Nat) : Int), (((j : Nat) : Int), ())))))), (((p.1, (p.2.1, (p.2.2, ()))), ()), ())))
    (fun j => !decide ((j : Int) = but) && meetB p (P.getD j (0, (0, 0)))) (n := P.length) (y := ((P, (but, ())), ((), ()))) (z := ((11, ()), ((), ())))
    (fun j hj => by
      simp only [u158_4, t158_4, ltn hj, ge0, cond_true, Bool.and_self, Int.toNat_natCast, rdH hj, nx hj hsz, f82_eq hf (hP.fits _ (List.getElem_mem hj)) hP.out4, Option.bind_some, getD_lt hj]
      by_cases hb : (j : Int) = but
      · rw [decide_eq_true hb]; rfl
      · rw [decide_eq_false hb]
        cases meetB p P[j] <;> rfl)
    (by simp only [u158_4, t158_4, nlt, cond_false]) (by unfold big; omega)
  have e' : iter big u158_4 ((P, (but, ((), (P, (((P.length : Nat) : Int), (0, ())))))), (((p.1, (p.2.1, (p.2.2, ()))), ()), ())) = _ := e
  rw [e']
  cases ha : (List.range P.length).any (fun j => !decide ((j : Int) = but) && meetB p (P.getD j (0, (0, 0)))) with
  | true => rfl
  | false =>
    simp only [cond_false, Option.bind_some, Bool.false_eq_true, if_false]
    by_cases hb : but = -1
    · by_cases h3 : P.length = 3
      · rw [decide_eq_true hb, decide_eq_true (show ((P.length : Nat) : Int) = 3 by omega), if_pos ⟨hb, h3⟩]; rfl
      · rw [decide_eq_true hb, decide_eq_false (show ¬ ((P.length : Nat) : Int) = 3 by omega), if_neg (fun h => h3 h.2)]; rfl
    · rw [decide_eq_false hb, if_neg (fun h => hb h.1)]; rfl

section
variable {out : Int} {P : List HT}

theorem f113_eq (hS : P.length ≤ 1000) (a n : Int) : f113 P out a n = some ((addP P out a n).1, ((addP P out a n).2, ())) := by
  unfold f113 f128 f139 addP
  rw [fCP P hS]
  simp only [Option.bind_some, f41_eq, decide_true, Bool.not_true, cond_false, cond_true]
  by_cases hP : PoolsP P out
  case neg =>
    rw [decide_eq_false hP, if_pos hP]; rfl
  rw [decide_eq_true hP, if_neg (fun h => h hP)]
  have h158 := f158_eq P hP 0 0 a n 0 [] (-1) (a, (n, 0))
  simp only [Bool.not_true, cond_false]
  simp only at h158
  simp only [h158, Option.bind_some]
  by_cases he : roomE P out (-1) (a, (n, 0)) = 0
  · rw [if_neg (fun h => h he), decide_eq_true he, decide_eq_true (show (P.length + 1) * 24 ≤ 140737488355328 by omega), decide_eq_true (show P.length + 1 ≤ 9223372036854775807 by omega)]
    rfl
  · rw [if_pos he, decide_eq_false he]; rfl

theorem nthP_rd {k : Int} (h0 : 0 ≤ k) (h1 : k < (P.length : Int)) : rd (.pair (.int .i64) (.pair (.int .i64) (.int .i64))) P (Int.toNat k) = nthP P k := by
  have hk : k.toNat < P.length := by omega
  rw [rdH hk]
  exact (getD_lt hk).symm

theorem f114_eq (hS : P.length ≤ 1000) (k : Int) : f114 P out k = some ((drainP P out k).1, ((drainP P out k).2, ())) := by
  unfold f114 f128 f139 drainP
  rw [fCP P hS]
  simp only [Option.bind_some, f41_eq]
  by_cases hP : PoolsP P out
  case neg => rw [decide_eq_false hP, if_pos hP]; rfl
  rw [decide_eq_true hP, if_neg (fun h => h hP)]
  by_cases h0 : k < 0
  · rw [decide_eq_true h0, if_pos (.inl h0)]; rfl
  by_cases h1 : (P.length : Int) ≤ k
  · rw [decide_eq_false h0, decide_eq_true h1, if_pos (.inr h1)]; rfl
  rw [decide_eq_false h0, decide_eq_false h1, if_neg (by rintro (h | h); exact h0 h; exact h1 h)]
  rw [nthP_rd (P := P) (k := k) (by omega) (by omega), decide_eq_true (show (0 : Int) ≤ k by omega), decide_eq_true (show k < ((P.length : Nat) : Int) by omega)]
  by_cases h2 : (nthP P k).2.2 = 1
  · rw [decide_eq_true h2, if_pos h2]; rfl
  · rw [decide_eq_false h2, if_neg h2]
    have hk : k.toNat < P.length := by omega
    simp only [decide_eq_true hk]
    rfl

theorem lost0 (hP : PoolsP P out) {k : Int} (h0 : 0 ≤ k) (h1 : k < (P.length : Int)) (busy : List Int) (hb : Sz busy) (v1 n : Int) (q : HT) :
    iter big u139_95_2_0 ((busy, ((), (((busy.length : Nat) : Int), (0, ())))), (((v1, (out, (k, (0, (n, (0, (busy, ()))))))), ((P, ()), ((q.1, (q.2.1, (q.2.2, ()))), ((q.1, (q.2.1, (q.2.2, ()))), ())))), ())) =
    some (if busy.findIdx (fun at' => hasB (nthP P k) at' && !hasB q at') < busy.length then .inr ((((busy.findIdx (fun at' => hasB (nthP P k) at' && !hasB q at') : Nat) : Int), ()), (((v1, (out, (k, (0, (n, (0, (busy, ()))))))), ((P, ()), ((q.1, (q.2.1, (q.2.2, ()))), ((q.1, (q.2.1, (q.2.2, ()))), ())))), ()))
      else .inl ((), (((v1, (out, (k, (0, (n, (0, (busy, ()))))))), ((P, ()), ((q.1, (q.2.1, (q.2.2, ()))), ((q.1, (q.2.1, (q.2.2, ()))), ())))), ()))) :=
  it_idx busy (fun at' => hasB (nthP P k) at' && !hasB q at') (fun j => ((busy, ((), (((busy.length : Nat) : Int), (((j : Nat) : Int), ())))), (((v1, (out, (k, (0, (n, (0, (busy, ()))))))), ((P, ()), ((q.1, (q.2.1, (q.2.2, ()))), ((q.1, (q.2.1, (q.2.2, ()))), ())))), ())))
    (fun j => ((((j : Nat) : Int), ()), (((v1, (out, (k, (0, (n, (0, (busy, ()))))))), ((P, ()), ((q.1, (q.2.1, (q.2.2, ()))), ((q.1, (q.2.1, (q.2.2, ()))), ())))), ())))
    (y := ((), (((v1, (out, (k, (0, (n, (0, (busy, ()))))))), ((P, ()), ((q.1, (q.2.1, (q.2.2, ()))), ((q.1, (q.2.1, (q.2.2, ()))), ())))), ())))
    (fun j h => by
      have e1 : hasB ((nthP P k).1, ((nthP P k).2.1, (nthP P k).2.2)) busy[j] = hasB (nthP P k) busy[j] := rfl
      have e2 : hasB (q.1, (q.2.1, q.2.2)) busy[j] = hasB q busy[j] := rfl
      simp only [u139_95_2_0, t139_95_2_0, ltn h, ge0, cond_true, Bool.and_self, Int.toNat_natCast, rdI h, nx h hb, decide_eq_true h0, decide_eq_true h1, nthP_rd h0 h1, f106_eq, Option.bind_some, e1, e2]
      cases hasB (nthP P k) busy[j] <;> cases hasB q busy[j] <;> rfl)
    (by simp only [u139_95_2_0, t139_95_2_0, nlt, cond_false]) (fuel := big) (by unfold big; unfold Sz at hb; omega)

theorem lost1 (hP : PoolsP P out) {k : Int} (h0 : 0 ≤ k) (h1 : k < (P.length : Int)) (busy : List Int) (hb : Sz busy) (v1 : Int) :
    iter big u139_95_2_1 ((busy, ((), (((busy.length : Nat) : Int), (0, ())))), (((v1, (out, (k, (0, (0, (0, (busy, ()))))))), ((P, ()), ((0, (0, (0, ()))), ()))), ())) =
    some (if busy.findIdx (fun at' => hasB (nthP P k) at' && !hasB (0, (0, 0)) at') < busy.length then .inr ((((busy.findIdx (fun at' => hasB (nthP P k) at' && !hasB (0, (0, 0)) at') : Nat) : Int), ()), (((v1, (out, (k, (0, (0, (0, (busy, ()))))))), ((P, ()), ((0, (0, (0, ()))), ()))), ()))
      else .inl ((), (((v1, (out, (k, (0, (0, (0, (busy, ()))))))), ((P, ()), ((0, (0, (0, ()))), ()))), ()))) :=
  it_idx busy (fun at' => hasB (nthP P k) at' && !hasB (0, (0, 0)) at') (fun j => ((busy, ((), (((busy.length : Nat) : Int), (((j : Nat) : Int), ())))), (((v1, (out, (k, (0, (0, (0, (busy, ()))))))), ((P, ()), ((0, (0, (0, ()))), ()))), ())))
    (fun j => ((((j : Nat) : Int), ()), (((v1, (out, (k, (0, (0, (0, (busy, ()))))))), ((P, ()), ((0, (0, (0, ()))), ()))), ())))
    (y := ((), (((v1, (out, (k, (0, (0, (0, (busy, ()))))))), ((P, ()), ((0, (0, (0, ()))), ()))), ())))
    (fun j h => by
      have e1 : hasB ((nthP P k).1, ((nthP P k).2.1, (nthP P k).2.2)) busy[j] = hasB (nthP P k) busy[j] := rfl
      simp only [u139_95_2_1, t139_95_2_1, ltn h, ge0, cond_true, Bool.and_self, Int.toNat_natCast, rdI h, nx h hb, decide_eq_true h0, decide_eq_true h1, nthP_rd h0 h1, f106_eq, Option.bind_some, e1]
      cases hasB (nthP P k) busy[j] <;> cases hasB (0, (0, 0)) busy[j] <;> rfl)
    (by simp only [u139_95_2_1, t139_95_2_1, nlt, cond_false]) (fuel := big) (by unfold big; unfold Sz at hb; omega)

theorem idx_any {α : Type} (l : List α) (q : α → Bool) : l.findIdx q < l.length ↔ l.any q = true := by
  rw [List.findIdx_lt_length, List.any_eq_true]

theorem f115_eq (hS : P.length ≤ 1000) (k n : Int) (busy : List Int) (hb : Sz busy) : f115 P out k n busy = some ((sizeP P out k n busy).1, ((sizeP P out k n busy).2, ())) := by
  unfold f115 f128 f139 sizeP
  rw [fCP P hS]
  simp only [Option.bind_some, f41_eq]
  by_cases hP : PoolsP P out
  case neg => rw [decide_eq_false hP, if_pos hP]; rfl
  rw [decide_eq_true hP, if_neg (fun h => h hP)]
  by_cases h0 : k < 0
  · rw [decide_eq_true h0, if_pos (.inl h0)]; rfl
  by_cases h1 : (P.length : Int) ≤ k
  · rw [decide_eq_false h0, decide_eq_true h1, if_pos (.inr h1)]; rfl
  rw [decide_eq_false h0, decide_eq_false h1, if_neg (by rintro (h | h); exact h0 h; exact h1 h)]
  have g0 : (0 : Int) ≤ k := by omega
  have g1 : k < ((P.length : Nat) : Int) := by omega
  rw [nthP_rd (P := P) (k := k) g0 g1, decide_eq_true g0, decide_eq_true g1]
  have h158 := f158_eq P hP 2 k 0 n 0 busy k ((nthP P k).1, (n, (nthP P k).2.2))
  simp only at h158
  have d1 : decide ((2 : Int) = 0) = false := rfl
  have d2 : decide ((2 : Int) = 1) = false := rfl
  have d3 : decide ((2 : Int) = 2) = true := rfl
  simp only [d1, d2, decide_true, Bool.not_false, Bool.not_true, cond_true, cond_false, Bool.and_self, h158, Option.bind_some]
  by_cases he : roomE P out k ((nthP P k).1, (n, (nthP P k).2.2)) = 0
  case neg => rw [if_pos he, decide_eq_false he]; simp only [Bool.not_false, cond_true, Option.bind_some, decide_eq_false he]
  rw [if_neg (fun h => h he), decide_eq_true he, lost0 hP g0 g1 busy hb 2 n ((nthP P k).1, (n, (nthP P k).2.2))]
  unfold lostB
  simp only [Bool.not_true, cond_false]
  by_cases hl : busy.any (fun at' => hasB (nthP P k) at' && !hasB ((nthP P k).1, (n, (nthP P k).2.2)) at') = true
  · rw [if_pos ((idx_any busy _).2 hl), if_pos hl]
    simp only [Option.bind_some, ge0, cond_true]
    rfl
  · rw [if_neg (fun h => hl ((idx_any busy _).1 h)), if_neg hl]
    have hk : k.toNat < P.length := by omega
    simp only [Option.bind_some, decide_true, Bool.not_true, cond_false, decide_eq_true hk, cond_true]

theorem f116_eq (hS : P.length ≤ 1000) (k : Int) (busy : List Int) (hb : Sz busy) : f116 P out k busy = some ((goneP P out k busy).1, ((goneP P out k busy).2, ())) := by
  unfold f116 f128 f139 goneP
  rw [fCP P hS]
  simp only [Option.bind_some, f41_eq]
  by_cases hP : PoolsP P out
  case neg => rw [decide_eq_false hP, if_pos hP]; rfl
  rw [decide_eq_true hP, if_neg (fun h => h hP)]
  by_cases h0 : k < 0
  · rw [decide_eq_true h0, if_pos (.inl h0)]; rfl
  by_cases h1 : (P.length : Int) ≤ k
  · rw [decide_eq_false h0, decide_eq_true h1, if_pos (.inr h1)]; rfl
  rw [decide_eq_false h0, decide_eq_false h1, if_neg (by rintro (h | h); exact h0 h; exact h1 h)]
  have g0 : (0 : Int) ≤ k := by omega
  have g1 : k < ((P.length : Nat) : Int) := by omega
  rw [nthP_rd (P := P) (k := k) g0 g1, decide_eq_true g0, decide_eq_true g1]
  have d1 : decide ((3 : Int) = 0) = false := rfl
  have d2 : decide ((3 : Int) = 1) = false := rfl
  have d3 : decide ((3 : Int) = 2) = false := rfl
  have d4 : decide ((3 : Int) = 3) = true := rfl
  simp only [d1, d2, d3, decide_true, Bool.not_false, Bool.not_true, cond_true, cond_false, Bool.and_self, Option.bind_some]
  by_cases he : (nthP P k).2.2 = 0
  · rw [if_pos (.inl he), decide_eq_true he]; rfl
  rw [decide_eq_false he, lost1 hP g0 g1 busy hb 3]
  unfold lostB
  simp only [cond_false]
  by_cases hl : busy.any (fun at' => hasB (nthP P k) at' && !hasB (0, (0, 0)) at') = true
  · rw [if_pos ((idx_any busy _).2 hl), if_pos (.inr hl)]
    simp only [Option.bind_some, ge0, cond_true]
    rfl
  rw [if_neg (fun h => hl ((idx_any busy _).1 h)), if_neg (by rintro (h | h); exact he h; exact hl h)]
  have hk : k.toNat < P.length := by omega
  obtain ⟨i, rfl⟩ : ∃ i : Nat, k = (i : Int) := ⟨k.toNat, by omega⟩
  have hlt : i < P.length := by omega
  simp only [Option.bind_some, decide_true, Bool.not_true, cond_false]
  rw [nx hlt (by omega)]
  simp only [cond_false, Nat.zero_add, Nat.sub_zero, Int.toNat_natCast, List.take_length, ge0, Int.zero_add, Bool.true_and, List.length_drop, List.drop_zero]
  rw [decide_eq_true (show ((i : Nat) : Int) ≤ ((i + 1 : Nat) : Int) by omega), dec_le (show i + 1 ≤ P.length by omega), dec_le (Nat.le_refl P.length), decide_eq_false (show ¬ ((i : Nat) : Int) = ((i + 1 : Nat) : Int) by omega), dec_le (show i ≤ P.length by omega)]
  simp only [Bool.and_self, cond_true, cond_false]
  rw [decide_eq_true (show i + (P.length - (i + 1)) ≤ P.length by omega)]
  have hlen : (P.take i ++ P.drop (i + 1) ++ P.drop (i + (P.length - (i + 1)))).length = P.length := by
    simp only [List.length_append, List.length_take, List.length_drop]; omega
  simp only [cond_true, hlen]
  rw [dec_le (show i + (P.length - (i + 1)) ≤ P.length by omega), dec_le (Nat.le_refl P.length)]
  simp only [Bool.and_self, cond_true, Option.bind_some]
  congr 2
  rw [List.eraseIdx_eq_take_drop_succ]
  have hn : (P.take i ++ P.drop (i + 1)).length = i + (P.length - (i + 1)) := by
    simp only [List.length_append, List.length_take, List.length_drop]; omega
  have e1 : (P.take i ++ P.drop (i + 1) ++ P.drop (i + (P.length - (i + 1)))).take (i + (P.length - (i + 1))) = P.take i ++ P.drop (i + 1) := List.take_left' hn
  rw [e1, List.append_assoc, List.take_left' hn]
end
end Go.Proofs.Zz
