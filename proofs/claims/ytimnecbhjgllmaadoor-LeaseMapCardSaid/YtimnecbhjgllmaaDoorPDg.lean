/- Plain laws: the map of an address's blocks; LeaseMap. -/
import Derived.Test.YtimnecbhjgllmaaDoorPDf
namespace Go.Proofs.Zz
open Go Go.Sy
set_option linter.unusedSimpArgs false
set_option linter.unusedVariables false

abbrev blkL (x : LT) : Int × Int := (x.2.1, x.2.2.1)
abbrev blkH (x : HT) : Int × Int := (x.1, x.2.1)

theorem rdH {l : List HT} {j : Nat} (h : j < l.length) : rd (.pair (.int .i64) (.pair (.int .i64) (.int .i64))) l j = l[j] := rd_lt h
theorem rdB {l : List (Int × Int)} {j : Nat} (h : j < l.length) : rd (.pair (.int .i64) (.int .i64)) l j = l[j] := rd_lt h

/-- one block after the other -/
def useU (n : Nat) (at' : Int) (U : Nat) (l : List (Int × Int)) : Nat := l.foldl (fun U b => if b.1 = at' then takeU n U b.2 else U) U

theorem useU_lt {n : Nat} (at' : Int) : ∀ (l : List (Int × Int)) {U : Nat}, U < 2 ^ n → useU n at' U l < 2 ^ n
  | [], U, h => h
  | b :: l, U, h => by
    show useU n at' (if b.1 = at' then takeU n U b.2 else U) l < 2 ^ n
    refine useU_lt at' l ?_
    split
    · exact takeU_lt h _
    · exact h

theorem useU_bit {n : Nat} (at' : Int) {j : Nat} (hj : j < n) : ∀ (l : List (Int × Int)) (U : Nat), (useU n at' U l).testBit j = (U.testBit j || l.any fun b => decide (b.1 = at') && decide (b.2 = (j : Int)))
  | [], U => by simp [useU]
  | b :: l, U => by
    show (useU n at' (if b.1 = at' then takeU n U b.2 else U) l).testBit j = _
    rw [useU_bit at' hj l, List.any_cons]
    by_cases h : b.1 = at'
    · rw [if_pos h, takeU_bit _ hj, decide_eq_true h, Bool.true_and, Bool.or_assoc]
    · rw [if_neg h, decide_eq_false h, Bool.false_and, Bool.false_or]

theorem useU_step {n : Nat} (at' : Int) (U : Nat) (l : List (Int × Int)) {j : Nat} (h : j < l.length) : useU n at' U (l.take (j + 1)) = (if l[j].1 = at' then takeU n (useU n at' U (l.take j)) l[j].2 else useU n at' U (l.take j)) := by
  unfold useU
  rw [List.take_succ_eq_append_getElem h, List.foldl_append]
  rfl

theorem f6_ok (a b c d e f g h' : Int) (l : List LT) (h : List HT) (hl : l.length ≤ 40) (hh : h.length ≤ 40) (at' : Int) :
    ∃ n : Nat, n ≤ 8 ∧ f6 a b c d e f g h' l h at' = some (((n : Int), ((useU n at' 0 (l.map blkL ++ h.map blkH) : Nat) : Int)), ()) := by
  obtain ⟨r, hr⟩ := f19_some a b c d e f g h'
  obtain ⟨n, q, hn, hq⟩ := f18_ok r
  refine ⟨n, hn, ?_⟩
  unfold f6
  rw [hr]
  simp only [Option.bind_some, hq]
  have cap : ∀ m : Nat, m ≤ 100 → (decide ((m + 1) * 16 ≤ 140737488355328) && decide (m + 1 ≤ 9223372036854775807)) = true := fun m hm => by
    rw [decide_eq_true (by omega), decide_eq_true (by omega)]; rfl
  have z0 : (0 : Int) = ((0 : Nat) : Int) := rfl
  have e1 : iter big u6_4 ((h, (at', ((), ((), (l, (((l.length : Nat) : Int), (0, ()))))))), (((0, (0, ())), (((n : Int), ((((0 : Nat) : Int)), ())), ())), ([], ()))) = some (.inl ((h, (at', ((), ((), ())))), (((0, (0, ())), (((n : Int), ((((0 : Nat) : Int)), ())), ())), (l.map blkL, ())))) := by
    have := it_all (u := u6_4) (fun j => ((h, (at', ((), ((), (l, (((l.length : Nat) : Int), (((j : Nat) : Int), ()))))))), (((0, (0, ())), (((n : Int), ((((0 : Nat) : Int)), ())), ())), ((l.take j).map blkL, ())))) (n := l.length)
      (y := ((h, (at', ((), ((), ())))), (((0, (0, ())), (((n : Int), ((((0 : Nat) : Int)), ())), ())), (l.map blkL, ()))))
      (fun j hj => by
        have hc := cap ((l.take j).map blkL).length (by simp; omega)
        simp only [u6_4, t6_4, ltn hj, ge0, cond_true, Bool.and_self, Int.toNat_natCast, rdL hj, f20, Option.bind_some, hc, nx hj (show l.length ≤ 9223372036854775807 by omega)]
        rw [List.take_succ_eq_append_getElem hj, List.map_append]
        rfl)
      (by simp only [u6_4, t6_4, nlt, cond_false, List.take_length])
      0 big (Nat.zero_le _) (by unfold big; omega)
    exact this
  have e2 : iter big u6_9 ((at', ((), ((), (h, (((h.length : Nat) : Int), (0, ())))))), (((0, (0, ())), (((n : Int), ((((0 : Nat) : Int)), ())), ())), (l.map blkL, ()))) = some (.inl ((at', ((), ((), ()))), (((0, (0, ())), (((n : Int), ((((0 : Nat) : Int)), ())), ())), (l.map blkL ++ h.map blkH, ())))) := by
    have := it_all (u := u6_9) (fun j => ((at', ((), ((), (h, (((h.length : Nat) : Int), (((j : Nat) : Int), ())))))), (((0, (0, ())), (((n : Int), ((((0 : Nat) : Int)), ())), ())), (l.map blkL ++ (h.take j).map blkH, ())))) (n := h.length)
      (y := ((at', ((), ((), ()))), (((0, (0, ())), (((n : Int), ((((0 : Nat) : Int)), ())), ())), (l.map blkL ++ h.map blkH, ()))))
      (fun j hj => by
        have hc := cap (l.map blkL ++ (h.take j).map blkH).length (by simp; omega)
        simp only [u6_9, t6_9, ltn hj, ge0, cond_true, Bool.and_self, Int.toNat_natCast, rdH hj, f21, Option.bind_some, hc, nx hj (show h.length ≤ 9223372036854775807 by omega)]
        rw [List.take_succ_eq_append_getElem hj, List.map_append, ← List.append_assoc]
        rfl)
      (by simp only [u6_9, t6_9, nlt, cond_false, List.take_length])
      0 big (Nat.zero_le _) (by unfold big; omega)
    simp only [List.take_zero, List.map_nil, List.append_nil] at this
    exact this
  have e3 : ∀ m : List (Int × Int), m.length ≤ 100 → iter big u6_14 ((at', ((), ((), (((m.length : Nat) : Int), (0, ()))))), (((0, (0, ())), (((n : Int), ((((0 : Nat) : Int)), ())), ())), (m, ()))) =
      some (.inl (((), ((), ())), (((0, (0, ())), (((n : Int), (((useU n at' 0 m : Nat) : Int), ())), ())), ()))) := by
    intro m hm
    have := it_all (u := u6_14) (fun j => ((at', ((), ((), (((m.length : Nat) : Int), (((j : Nat) : Int), ()))))), (((0, (0, ())), (((n : Int), (((useU n at' 0 (m.take j) : Nat) : Int), ())), ())), (m, ())))) (n := m.length)
      (y := (((), ((), ())), (((0, (0, ())), (((n : Int), (((useU n at' 0 m : Nat) : Int), ())), ())), ())))
      (fun j hj => by
        obtain ⟨b, hb⟩ := f22_ok hn (useU_lt at' (m.take j) (Nat.two_pow_pos n)) m[j].2
        simp only [u6_14, t6_14, ltn hj, ge0, cond_true, Bool.and_self, Int.toNat_natCast, rdB hj, decide_eq_true hj, nx hj (show m.length ≤ 9223372036854775807 by omega), hb, Option.bind_some]
        rw [useU_step at' 0 m hj]
        by_cases he : m[j].1 = at'
        · rw [if_pos he, decide_eq_true he]; rfl
        · rw [if_neg he, decide_eq_false he]; rfl)
      (by simp only [u6_14, t6_14, nlt, cond_false, List.take_length])
      0 big (Nat.zero_le _) (by unfold big; omega)
    exact this
  rw [e1]
  simp only [Option.bind_some]
  rw [e2]
  simp only [Option.bind_some]
  rw [e3 _ (by simp; omega)]
  rfl

abbrev heldP (at' blk : Int) : HT → Bool := fun x => decide (x.1 = at') && decide (x.2.1 = blk)

theorem held_ok (l : List LT) (h : List HT) (hh : h.length ≤ 40) (at' blk a b : Int) :
    iter big u3_8 ((l, (h, (at', (blk, ((), (false, (0, ()))))))), (((a, (b, ())), ()), ())) = some (.inl ((l, (at', (blk, ((), (h.any (heldP at' blk), ()))))), (((a, (b, ())), ()), ()))) := by
  have := it_all (u := u3_8) (fun j => ((l, (h, (at', (blk, ((), ((h.take j).any (heldP at' blk), (((j : Nat) : Int), ()))))))), (((a, (b, ())), ()), ()))) (n := h.length)
    (y := ((l, (at', (blk, ((), (h.any (heldP at' blk), ()))))), (((a, (b, ())), ()), ())))
    (fun j hj => by
      simp only [u3_8, t3_8, ltn hj, ge0, cond_true, Bool.and_self, Int.toNat_natCast, rdH hj, nx hj (show h.length ≤ 9223372036854775807 by omega)]
      rw [List.take_succ_eq_append_getElem hj, List.any_append]
      cases hb : (h.take j).any (heldP at' blk) with
      | true => rfl
      | false =>
        simp only [cond_false, Bool.false_or, List.any_cons, List.any_nil, Bool.or_false]
        rw [show heldP at' blk h[j] = (decide (h[j].1 = at') && decide (h[j].2.1 = blk)) from rfl]
        cases decide (h[j].1 = at') <;> rfl)
    (by simp only [u3_8, t3_8, nlt, cond_false, List.take_length])
    0 big (Nat.zero_le _) (by unfold big; omega)
  exact this

/-- a free block of the map can be put -/
theorem tail_ok (l : List LT) (hl : l.length ≤ 40) (at' : Int) {n U : Nat} (hn : n ≤ 8) (hU : U < 2 ^ n) (hfree : ∀ j : Nat, j < n → U.testBit j = false → has l at' (j : Int) = false) :
    ((f10 (n : Int) (U : Int)).bind fun y21 => (f11 l 0 at' y21.1 0 0).bind fun y22 =>
      cond (decide (y21.1 < 0)) (some (true, ())) (cond y22.2.1 (some (true, ())) (some ((decide (32 ≤ ((l.length : Nat) : Int))), ())))) = some (true, ()) := by
  obtain ⟨i, h1, h2⟩ := f10_ok hn hU
  rw [h1]
  simp only [Option.bind_some]
  rw [f11_eq l (by omega)]
  simp only [Option.bind_some]
  rcases h2 with h2 | ⟨j, rfl, hj, hb⟩
  · rw [decide_eq_true h2]; rfl
  · have := hfree j hj hb
    rw [decide_eq_false (show ¬ ((j : Nat) : Int) < 0 by omega), this]
    by_cases h32 : 32 ≤ l.length
    · rw [if_pos (.inr h32), decide_eq_true (show (32 : Int) ≤ ((l.length : Nat) : Int) by omega)]; rfl
    · rw [if_neg (by rintro (h | h); simp at h; exact h32 h)]; rfl

theorem law3 (a b c d e f g h' : Int) (l : List LT) (h : List HT) (at' blk : Int) : f3 a b c d e f g h' l h at' blk = some (true, ()) := by
  unfold f3
  rw [f4_eq, f5_eq]
  simp only [Option.bind_some, Bool.not_true, cond_false]
  cases hf : (decide (l.length ≤ 40) && decide (h.length ≤ 40)) with
  | false => rfl
  | true =>
    simp only [Bool.and_eq_true, decide_eq_true_eq] at hf
    obtain ⟨hl, hh⟩ := hf
    obtain ⟨n, hn, h6⟩ := f6_ok a b c d e f g h' l h hl hh at'
    simp only [Bool.not_true, cond_false]
    rw [h6]
    simp only [Option.bind_some]
    rw [held_ok l h hh]
    simp only [Option.bind_some]
    have hU := useU_lt (n := n) at' (l.map blkL ++ h.map blkH) (Nat.two_pow_pos n)
    have hbit : ∀ j : Nat, j < n → (useU n at' 0 (l.map blkL ++ h.map blkH)).testBit j = (has l at' (j : Int) || h.any (heldP at' (j : Int))) := by
      intro j hj
      rw [useU_bit at' hj, Nat.zero_testBit, Bool.false_or, List.any_append, List.any_map, List.any_map]
      rfl
    generalize useU n at' 0 (l.map blkL ++ h.map blkH) = U at hU hbit ⊢
    have tl := tail_ok l hl at' hn hU (fun j hj hb => by
      rw [hbit j hj] at hb
      exact (Bool.or_eq_false_iff.1 hb).1)
    rw [f7_eq l (by unfold Sz; omega)]
    simp only [Option.bind_some]
    rw [f8_ok hn hU]
    simp only [Option.bind_some, Bool.not_true, cond_false]
    have hb0 : 0 ≤ blk → blk < (n : Int) → f9 (n : Int) (U : Int) blk = some (has l at' blk || h.any (heldP at' blk), ()) := by
      intro h0 h1
      have e : blk = ((blk.toNat : Nat) : Int) := by omega
      have hj : blk.toNat < n := by omega
      have h9 := f9_ok hn hU hj
      rw [hbit _ hj, ← e] at h9
      exact h9
    by_cases hfd : has l at' blk = true
    · rw [if_pos ((idx_has l at' blk).2 hfd), decide_eq_true (show (0 : Int) ≤ ((l.findIdx (findP at' blk) : Nat) : Int) by omega)]
      simp only [cond_true]
      by_cases h0 : 0 ≤ blk
      · rw [decide_eq_true h0]
        simp only [cond_true]
        by_cases h1 : blk < (n : Int)
        · rw [decide_eq_true h1, hb0 h0 h1, hfd]
          simp only [cond_true, Option.bind_some, Bool.true_or]
          exact tl
        · rw [decide_eq_false h1]
          exact tl
      · rw [decide_eq_false h0]
        exact tl
    · have hfd' : has l at' blk = false := by simpa using hfd
      rw [if_neg (fun h => hfd ((idx_has l at' blk).1 h)), decide_eq_false (show ¬ (0 : Int) ≤ -1 by omega)]
      simp only [cond_false]
      by_cases h0 : 0 ≤ blk
      · rw [decide_eq_true h0]
        simp only [cond_true]
        by_cases h1 : blk < (n : Int)
        · rw [decide_eq_true h1, hb0 h0 h1, hfd']
          simp only [cond_true, Option.bind_some, Bool.false_or, beq_self_eq_true, Bool.not_true, cond_false]
          exact tl
        · rw [decide_eq_false h1]
          exact tl
      · rw [decide_eq_false h0]
        exact tl
end Go.Proofs.Zz
