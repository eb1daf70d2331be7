/- Plain laws of chapter 21: the map of an address's blocks. -/
import Derived.Test.YtojkjedljhjleaaGreatDoorP21g
namespace Go.Proofs.Zz
open Go Go.Sy
set_option linter.unusedSimpArgs false
set_option linter.unusedVariables false

/-! a map of n blocks -/
theorem toN (n : Nat) : Int.toNat ((n : Nat) : Int) = n := rfl

theorem f76_ok {n U : Nat} (hn : n ≤ 8) (hU : U < 2 ^ n) : f76 (n : Int) (U : Int) = some (true, ()) := by
  unfold f76
  rw [decide_eq_true (show (0 : Int) ≤ (n : Int) by omega), decide_eq_true (show (n : Int) ≤ 8 by omega), decide_eq_true (show (0 : Int) ≤ (U : Int) by omega), decide_eq_false (show ¬ (n : Int) < 0 by omega)]
  simp only [cond_true, Bool.not_false, toN, Nat.min_eq_left (show n ≤ 64 by omega), fdiv_pow, Nat.div_eq_of_lt hU]
  rfl

theorem f72_ok {n : Nat} (hn : n ≤ 8) : f72 (n : Int) = some (((n : Int), ((0 : Nat) : Int)), (true, ())) := by
  unfold f72
  have := f76_ok (n := n) (U := 0) hn (Nat.two_pow_pos _)
  rw [show ((0 : Nat) : Int) = 0 from rfl] at this
  rw [this]; rfl

theorem f100_ok {n U : Nat} (hn : n ≤ 8) (hU : U < 2 ^ n) (i : Int) : f100 (n : Int) (U : Int) i = some (decide (0 ≤ i) && decide (i < (n : Int)), ()) := by
  unfold f100
  rw [f76_ok hn hU]
  simp only [Option.bind_some, cond_true]
  cases decide (0 ≤ i) <;> rfl

theorem u_lt {n U : Nat} (hn : n ≤ 8) (hU : U < 2 ^ n) : U < 256 := Nat.lt_of_lt_of_le hU (Nat.pow_le_pow_right (by decide) hn)

theorem f101_ok {n U : Nat} (hn : n ≤ 8) (hU : U < 2 ^ n) {i : Nat} (hi : i < n) : f101 (n : Int) (U : Int) (i : Int) = some (U.testBit i, ()) := by
  have hl := u_lt hn hU
  unfold f101
  rw [f100_ok hn hU, decide_eq_true (show (0 : Int) ≤ (i : Int) by omega), decide_eq_true (show (i : Int) < (n : Int) by omega)]
  simp only [Option.bind_some, Bool.and_self, cond_true]
  rw [decide_eq_false (show ¬ (i : Int) < 0 by omega)]
  simp only [Bool.not_false, cond_true, toN, Nat.min_eq_left (show i ≤ 64 by omega), fdiv_pow]
  have h1 : U / 2 ^ i < 2 ^ 63 := Nat.lt_of_le_of_lt (Nat.div_le_self _ _) (by omega)
  have := b_and (a := U / 2 ^ i) (b := 1) h1 (by decide)
  rw [show (((1 : Nat) : Int)) = 1 from rfl] at this
  rw [this, Nat.and_one_is_mod, Nat.testBit_eq_decide_div_mod_eq]
  congr 2
  rw [decide_eq_decide]
  omega

/-- one block more is used -/
def takeU (n U : Nat) (i : Int) : Nat := if 0 ≤ i ∧ i < (n : Int) ∧ U.testBit i.toNat = false then U ^^^ 2 ^ i.toNat else U

theorem takeU_lt {n U : Nat} (hU : U < 2 ^ n) (i : Int) : takeU n U i < 2 ^ n := by
  unfold takeU
  split
  · rename_i h
    exact Nat.xor_lt_two_pow hU (Nat.pow_lt_pow_right (by decide) (by omega))
  · exact hU

theorem takeU_bit {n U : Nat} (i : Int) {j : Nat} (hj : j < n) : (takeU n U i).testBit j = (U.testBit j || decide (i = (j : Int))) := by
  unfold takeU
  by_cases h : i = (j : Int)
  · subst h
    simp only [decide_true, Bool.or_true]
    split
    · rename_i h
      rw [toN, Nat.testBit_xor, Nat.testBit_two_pow_self]
      rw [toN] at h
      rw [h.2.2]; rfl
    · rename_i h
      rw [toN] at h
      cases hb : U.testBit j with
      | true => rfl
      | false => exact absurd ⟨by omega, by omega, hb⟩ h
  · rw [decide_eq_false h, Bool.or_false]
    split
    · rename_i hh
      rw [Nat.testBit_xor, Nat.testBit_two_pow, decide_eq_false (by omega), Bool.xor_false]
    · rfl

theorem f75_ok {n U : Nat} (hn : n ≤ 8) (hU : U < 2 ^ n) (i : Int) : ∃ b, f75 (n : Int) (U : Int) i = some (((n : Int), ((takeU n U i : Nat) : Int)), (b, ())) := by
  have hl := u_lt hn hU
  unfold f75 f89
  rw [f100_ok hn hU]
  simp only [Option.bind_some]
  by_cases h0 : 0 ≤ i ∧ i < (n : Int)
  · rw [decide_eq_true h0.1, decide_eq_true h0.2]
    simp only [Bool.and_self, Bool.not_true, cond_false]
    have e : i = ((i.toNat : Nat) : Int) := by omega
    have hi : i.toNat < n := by omega
    have h9 := f101_ok hn hU hi
    rw [← e] at h9
    rw [h9]
    simp only [Option.bind_some]
    cases hb : U.testBit i.toNat with
    | true =>
      have : takeU n U i = U := by unfold takeU; rw [if_neg (by rw [hb]; simp)]
      rw [this]
      exact ⟨_, rfl⟩
    | false =>
      have : takeU n U i = U ^^^ 2 ^ i.toNat := by unfold takeU; rw [if_pos ⟨h0.1, h0.2, hb⟩]
      rw [this, decide_eq_false (show ¬ i < 0 by omega)]
      have hp : 2 ^ i.toNat ≤ 2 ^ 8 := Nat.pow_le_pow_right (by decide) (by omega)
      have hx := b_xor (a := U) (b := 2 ^ i.toNat) (by omega) (by omega)
      have e2 : IntKind.wrap .i64 (1 * ((2 : Int) ^ ((min (Int.toNat i) 64) : Nat))) = ((2 ^ i.toNat : Nat) : Int) := by
        rw [Nat.min_eq_left (show i.toNat ≤ 64 by omega), Int.one_mul, show ((2 : Int) ^ i.toNat) = ((2 ^ i.toNat : Nat) : Int) by simp]
        have hq : 2 ^ i.toNat ≤ 256 := hp
        generalize 2 ^ i.toNat = q at hq ⊢
        exact w64 (by omega) (by omega)
      simp only [e2, hx]
      exact ⟨_, rfl⟩
  · have : (decide (0 ≤ i) && decide (i < (n : Int))) = false := by
      rw [Bool.and_eq_false_iff, decide_eq_false_iff_not, decide_eq_false_iff_not]
      omega
    rw [this]
    have : takeU n U i = U := by unfold takeU; rw [if_neg (by omega)]
    rw [this]
    exact ⟨_, rfl⟩

abbrev blkL (x : LT) : Int × Int := (x.2.1, x.2.2.1)
abbrev blkH (x : HT) : Int × Int := (x.1, x.2.1)

theorem rdB {l : List (Int × Int)} {j : Nat} (h : j < l.length) : rd (.pair (.int .i64) (.int .i64)) l j = l[j] := rd_lt h

/-- one block after the other -/
def useU (n : Nat) (at' : Int) (U : Nat) (l : List (Int × Int)) : Nat := l.foldl (fun U b => if b.1 = at' then takeU n U b.2 else U) U

theorem useU_lt {n : Nat} (at' : Int) : ∀ (l : List (Int × Int)) {U : Nat}, U < 2 ^ n → useU n at' U l < 2 ^ n
  | [], U, h => h
  | b :: l, U, h => by
    show useU n at' (if b.1 = at' then takeU n U b.2 else U) l < 2 ^ n
    refine useU_lt at' l ?_
    split
    · exact takeU_lt h _
    · exact h

theorem useU_bit {n : Nat} (at' : Int) {j : Nat} (hj : j < n) : ∀ (l : List (Int × Int)) (U : Nat), (useU n at' U l).testBit j = (U.testBit j || l.any fun b => decide (b.1 = at') && decide (b.2 = (j : Int)))
  | [], U => by simp [useU]
  | b :: l, U => by
    show (useU n at' (if b.1 = at' then takeU n U b.2 else U) l).testBit j = _
    rw [useU_bit at' hj l, List.any_cons]
    by_cases h : b.1 = at'
    · rw [if_pos h, takeU_bit _ hj, decide_eq_true h, Bool.true_and, Bool.or_assoc]
    · rw [if_neg h, decide_eq_false h, Bool.false_and, Bool.false_or]

theorem useU_step {n : Nat} (at' : Int) (U : Nat) (l : List (Int × Int)) {j : Nat} (h : j < l.length) : useU n at' U (l.take (j + 1)) = (if l[j].1 = at' then takeU n (useU n at' U (l.take j)) l[j].2 else useU n at' U (l.take j)) := by
  unfold useU
  rw [List.take_succ_eq_append_getElem h, List.foldl_append]
  rfl

theorem f36_ok {a b c d e f g h' : Int} (hf : fitB a b c d e f g h' = true) {n : Nat} (hn : n ≤ 8) (hgn : g / h' = (n : Int)) (l : List LT) (h : List HT) (hl : l.length ≤ 40) (hh : h.length ≤ 40) (at' : Int) :
    f36 a b c d e f g h' l h at' = some (((n : Int), ((useU n at' 0 (l.map blkL ++ h.map blkH) : Nat) : Int)), ()) := by
  unfold f36
  rw [f13_eq, hf]
  simp only [Option.bind_some, if_true, hgn, f72_ok hn]
  have cap : ∀ m : Nat, m ≤ 100 → (decide ((m + 1) * 16 ≤ 140737488355328) && decide (m + 1 ≤ 9223372036854775807)) = true := fun m hm => by
    rw [decide_eq_true (by omega), decide_eq_true (by omega)]; rfl
  have z0 : (0 : Int) = ((0 : Nat) : Int) := rfl
  have e1 : iter big u36_4 ((h, (at', ((), ((), (l, (((l.length : Nat) : Int), (0, ()))))))), (((0, (0, ())), (((n : Int), ((((0 : Nat) : Int)), ())), ())), ([], ()))) = some (.inl ((h, (at', ((), ((), ())))), (((0, (0, ())), (((n : Int), ((((0 : Nat) : Int)), ())), ())), (l.map blkL, ())))) := by
    have := it_all (u := u36_4) (fun j => ((h, (at', ((), ((), (l, (((l.length : Nat) : Int), (((j : Nat) : Int), ()))))))), (((0, (0, ())), (((n : Int), ((((0 : Nat) : Int)), ())), ())), ((l.take j).map blkL, ())))) (n := l.length)
      (y := ((h, (at', ((), ((), ())))), (((0, (0, ())), (((n : Int), ((((0 : Nat) : Int)), ())), ())), (l.map blkL, ()))))
      (fun j hj => by
        have hc := cap ((l.take j).map blkL).length (by simp; omega)
        simp only [u36_4, t36_4, ltn hj, ge0, cond_true, Bool.and_self, Int.toNat_natCast, rdL hj, f73, Option.bind_some, hc, nx hj (show l.length ≤ 9223372036854775807 by omega)]
        rw [List.take_succ_eq_append_getElem hj, List.map_append]
        rfl)
      (by simp only [u36_4, t36_4, nlt, cond_false, List.take_length])
      0 big (Nat.zero_le _) (by unfold big; omega)
    exact this
  have e2 : iter big u36_9 ((at', ((), ((), (h, (((h.length : Nat) : Int), (0, ())))))), (((0, (0, ())), (((n : Int), ((((0 : Nat) : Int)), ())), ())), (l.map blkL, ()))) = some (.inl ((at', ((), ((), ()))), (((0, (0, ())), (((n : Int), ((((0 : Nat) : Int)), ())), ())), (l.map blkL ++ h.map blkH, ())))) := by
    have := it_all (u := u36_9) (fun j => ((at', ((), ((), (h, (((h.length : Nat) : Int), (((j : Nat) : Int), ())))))), (((0, (0, ())), (((n : Int), ((((0 : Nat) : Int)), ())), ())), (l.map blkL ++ (h.take j).map blkH, ())))) (n := h.length)
      (y := ((at', ((), ((), ()))), (((0, (0, ())), (((n : Int), ((((0 : Nat) : Int)), ())), ())), (l.map blkL ++ h.map blkH, ()))))
      (fun j hj => by
        have hc := cap (l.map blkL ++ (h.take j).map blkH).length (by simp; omega)
        simp only [u36_9, t36_9, ltn hj, ge0, cond_true, Bool.and_self, Int.toNat_natCast, rdH hj, f74, Option.bind_some, hc, nx hj (show h.length ≤ 9223372036854775807 by omega)]
        rw [List.take_succ_eq_append_getElem hj, List.map_append, ← List.append_assoc]
        rfl)
      (by simp only [u36_9, t36_9, nlt, cond_false, List.take_length])
      0 big (Nat.zero_le _) (by unfold big; omega)
    simp only [List.take_zero, List.map_nil, List.append_nil] at this
    exact this
  have e3 : ∀ m : List (Int × Int), m.length ≤ 100 → iter big u36_14 ((at', ((), ((), (((m.length : Nat) : Int), (0, ()))))), (((0, (0, ())), (((n : Int), ((((0 : Nat) : Int)), ())), ())), (m, ()))) =
      some (.inl (((), ((), ())), (((0, (0, ())), (((n : Int), (((useU n at' 0 m : Nat) : Int), ())), ())), ()))) := by
    intro m hm
    have := it_all (u := u36_14) (fun j => ((at', ((), ((), (((m.length : Nat) : Int), (((j : Nat) : Int), ()))))), (((0, (0, ())), (((n : Int), (((useU n at' 0 (m.take j) : Nat) : Int), ())), ())), (m, ())))) (n := m.length)
      (y := (((), ((), ())), (((0, (0, ())), (((n : Int), (((useU n at' 0 m : Nat) : Int), ())), ())), ())))
      (fun j hj => by
        obtain ⟨b, hb⟩ := f75_ok hn (useU_lt at' (m.take j) (Nat.two_pow_pos n)) m[j].2
        simp only [u36_14, t36_14, ltn hj, ge0, cond_true, Bool.and_self, Int.toNat_natCast, rdB hj, decide_eq_true hj, nx hj (show m.length ≤ 9223372036854775807 by omega), hb, Option.bind_some]
        rw [useU_step at' 0 m hj]
        by_cases he : m[j].1 = at'
        · rw [if_pos he, decide_eq_true he]; rfl
        · rw [if_neg he, decide_eq_false he]; rfl)
      (by simp only [u36_14, t36_14, nlt, cond_false, List.take_length])
      0 big (Nat.zero_le _) (by unfold big; omega)
    exact this
  rw [e1]
  simp only [Option.bind_some]
  rw [e2]
  simp only [Option.bind_some]
  rw [e3 _ (by simp; omega)]
  rfl


/-! how many are used -/
def cntB (n U : Nat) : Nat := (List.range n).countP fun j => U.testBit j

theorem f77_fin : ∀ n : Fin 9, ∀ U : Fin 256, U.val < 2 ^ n.val → f77 (IntKind.wrap .u64 (U.val : Int)) = some (((cntB n.val U.val : Nat) : Int), ()) := by decide +kernel

theorem f37_ok {n U : Nat} (hn : n ≤ 8) (hU : U < 2 ^ n) : f37 (n : Int) (U : Int) = some (((cntB n U : Nat) : Int), ()) := by
  have e1 := f77_fin ⟨n, by omega⟩ ⟨U, u_lt hn hU⟩ hU
  simp only at e1
  unfold f37
  rw [f76_ok hn hU]
  simp only [Option.bind_some, Bool.not_true, cond_false, e1]

theorem countP_or_one (q : Nat → Bool) (k : Nat) (hq : q k = false) : ∀ n : Nat, (List.range n).countP (fun j => decide (k = j) || q j) = (List.range n).countP q + (if k < n then 1 else 0)
  | 0 => by simp
  | n + 1 => by
    rw [List.range_succ, List.countP_append, List.countP_append, countP_or_one q k hq n]
    simp only [List.countP_singleton]
    by_cases h : k = n
    · subst h
      rw [hq]
      simp
    · by_cases h2 : k < n
      · rw [if_pos h2, if_pos (show k < n + 1 by omega), decide_eq_false h]
        simp only [Bool.false_or]
        omega
      · rw [if_neg h2, if_neg (show ¬ k < n + 1 by omega), decide_eq_false h]
        simp only [Bool.false_or]
        omega

/-- as many bits are set as blocks of the address stand there -/
theorem cnt_use {n : Nat} (at' : Int) : ∀ (B : List (Int × Int)), B.Nodup → (∀ b ∈ B, 0 ≤ b.2 ∧ b.2 < (n : Int)) →
    ((List.range n).countP fun (j : Nat) => B.any fun b => decide (b.1 = at') && decide (b.2 = (j : Int))) = B.countP fun b => decide (b.1 = at')
  | [], _, _ => by simp
  | b :: B, hd, hr => by
    have hd' := List.nodup_cons.1 hd
    have ih := cnt_use at' B hd'.2 (fun x hx => hr x (List.mem_cons_of_mem _ hx))
    have hb := hr b (by simp)
    rw [List.countP_cons, ← ih]
    by_cases h : b.1 = at'
    · have hk : b.2 = ((b.2.toNat : Nat) : Int) := by omega
      have hq : (B.any fun x => decide (x.1 = at') && decide (x.2 = ((b.2.toNat : Nat) : Int))) = false := by
        rw [Bool.eq_false_iff]
        intro hh
        obtain ⟨x, hx, he⟩ := List.any_eq_true.1 hh
        simp only [Bool.and_eq_true, decide_eq_true_eq] at he
        have : x = b := Prod.ext (by rw [he.1, h]) (by rw [he.2, ← hk])
        exact hd'.1 (this ▸ hx)
      have := countP_or_one (fun (j : Nat) => B.any fun x => decide (x.1 = at') && decide (x.2 = (j : Int))) b.2.toNat hq n
      rw [if_pos (by omega)] at this
      rw [if_pos (by rw [decide_eq_true h]), ← this]
      refine List.countP_congr fun j _ => ?_
      rw [List.any_cons, decide_eq_true h, Bool.true_and]
      have : decide (b.2 = (j : Int)) = decide (b.2.toNat = j) := by rw [decide_eq_decide]; omega
      rw [this]
    · rw [if_neg (by rw [decide_eq_false h]; simp), Nat.add_zero]
      refine List.countP_congr fun j _ => ?_
      rw [List.any_cons, decide_eq_false h, Bool.false_and, Bool.false_or]

theorem cntB_use {n : Nat} (at' : Int) (B : List (Int × Int)) (hd : B.Nodup) (hr : ∀ b ∈ B, 0 ≤ b.2 ∧ b.2 < (n : Int)) : cntB n (useU n at' 0 B) = B.countP fun b => decide (b.1 = at') := by
  rw [← cnt_use at' B hd hr]
  unfold cntB
  refine List.countP_congr fun j hj => ?_
  rw [useU_bit at' (List.mem_range.1 hj), Nat.zero_testBit, Bool.false_or]
end Go.Proofs.Zz
