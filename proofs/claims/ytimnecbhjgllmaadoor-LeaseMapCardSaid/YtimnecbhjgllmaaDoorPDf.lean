/- Plain laws: a mapping's blocks are told; a map of blocks, bit by bit. -/
import Derived.Test.YtimnecbhjgllmaaDoorPDe
import Derived.Test.YtimnecbhjgllmaaDoorPDc
namespace Go.Proofs.Zz
open Go Go.Sy
set_option linter.unusedSimpArgs false
set_option linter.unusedVariables false

theorem f57_eq (a b c : Int) : f57 a b c = some (decide (b ≤ a) && decide (a ≤ c), ()) := by
  unfold f57
  cases decide (b ≤ a) <;> rfl

theorem sizeI_nonneg (b k : Int) : 0 ≤ sizeI b k := by
  unfold sizeI
  split
  · have := szI_pos k; omega
  · omega

theorem f66_some (a b c d e f g h : Int) : ∃ r, f66 a b c d e f g h = some (r, ()) := by
  unfold f66
  rw [f59_eq, f59_eq]
  simp only [Option.bind_some]
  have h1 := sizeI_nonneg a b
  have h2 := sizeI_nonneg c d
  generalize sizeI a b = x at h1 ⊢
  generalize sizeI c d = y at h2 ⊢
  by_cases hy : y = 0
  · subst hy
    have : (cond (decide ((0 : Int) < x)) 0 x) = 0 := by
      by_cases hx : (0 : Int) < x
      · rw [decide_eq_true hx]; rfl
      · rw [decide_eq_false hx]; show x = 0; omega
    rw [decide_eq_true this]
    exact ⟨_, rfl⟩
  · rw [decide_eq_false hy]
    cases decide ((cond (decide (y < x)) y x) = 0) <;> exact ⟨_, rfl⟩

theorem f41_some (a b c d e f g h : Int) : ∃ r, f41 a b c d e f g h = some (r, ()) ∧ (r = true → 1 ≤ h) := by
  obtain ⟨q, hq⟩ := f66_some a b c d e f g h
  unfold f41
  rw [f59_eq, f59_eq]
  simp only [Option.bind_some, f57_eq, f61_eq, hq, f65]
  generalize (decide (1 ≤ sizeI a b) && decide (sizeI a b ≤ 32)) = c1
  generalize (decide (1 ≤ sizeI c d) && decide (sizeI c d ≤ 4)) = c2
  generalize (decide (1 ≤ e) && decide (e ≤ f)) = c3
  generalize decide (f ≤ 65535) = c4
  generalize decide (MeetP a b c d) = c5
  generalize (decide (0 ≤ g) && decide (g ≤ IntKind.wrap .i64 (f - e))) = c6
  by_cases h1 : 1 ≤ h
  · have h0 : ¬ h = 0 := by omega
    rw [decide_eq_true h1, decide_eq_false h0]
    generalize decide (h ≤ 65535) = c7
    generalize decide (IntKind.wrap .i64 (Int.tdiv g h) ≤ 8) = c8
    generalize decide (q ≤ IntKind.wrap .i64 (IntKind.wrap .i64 (IntKind.wrap .i64 (f - e) + 1) - g)) = c9
    cases c1 <;> cases c2 <;> cases c5 <;> cases c3 <;> cases c4 <;> cases c6 <;> cases c7 <;> cases c8 <;> cases c9 <;> exact ⟨_, rfl, fun _ => h1⟩
  · rw [decide_eq_false h1]
    cases c1 <;> cases c2 <;> cases c5 <;> cases c3 <;> cases c4 <;> cases c6 <;> exact ⟨_, rfl, fun h => by simp at h⟩

theorem f19_some (a b c d e f g h : Int) : ∃ r, f19 a b c d e f g h = some (r, ()) := by
  obtain ⟨r, h1, h2⟩ := f41_some a b c d e f g h
  unfold f19
  rw [h1]
  simp only [Option.bind_some]
  cases r with
  | false => exact ⟨_, rfl⟩
  | true =>
    have := h2 rfl
    rw [decide_eq_false (show ¬ h = 0 by omega)]
    exact ⟨_, rfl⟩

/-! a map of n blocks -/
theorem toN (n : Nat) : Int.toNat ((n : Nat) : Int) = n := rfl

theorem f8_ok {n U : Nat} (hn : n ≤ 8) (hU : U < 2 ^ n) : f8 (n : Int) (U : Int) = some (true, ()) := by
  unfold f8
  rw [decide_eq_true (show (0 : Int) ≤ (n : Int) by omega), decide_eq_true (show (n : Int) ≤ 8 by omega), decide_eq_true (show (0 : Int) ≤ (U : Int) by omega), decide_eq_false (show ¬ (n : Int) < 0 by omega)]
  simp only [cond_true, Bool.not_false, toN, Nat.min_eq_left (show n ≤ 64 by omega), fdiv_pow, Nat.div_eq_of_lt hU]
  rfl

theorem f18_ok (x : Int) : ∃ (n : Nat) (b : Bool), n ≤ 8 ∧ f18 x = some (((n : Int), ((0 : Nat) : Int)), (b, ())) := by
  unfold f18
  by_cases h0 : 0 ≤ x
  · by_cases h8 : x ≤ 8
    · have e : x = ((x.toNat : Nat) : Int) := by omega
      have hn : x.toNat ≤ 8 := by omega
      have := f8_ok (n := x.toNat) (U := 0) hn (Nat.two_pow_pos _)
      refine ⟨x.toNat, true, hn, ?_⟩
      rw [← e] at this ⊢
      rw [show ((0 : Nat) : Int) = 0 from rfl] at this
      rw [this]; rfl
    · refine ⟨0, false, by omega, ?_⟩
      unfold f8
      rw [decide_eq_true h0, decide_eq_false h8]; rfl
  · refine ⟨0, false, by omega, ?_⟩
    unfold f8
    rw [decide_eq_false h0]; rfl

theorem f25_ok {n U : Nat} (hn : n ≤ 8) (hU : U < 2 ^ n) (i : Int) : f25 (n : Int) (U : Int) i = some (decide (0 ≤ i) && decide (i < (n : Int)), ()) := by
  unfold f25
  rw [f8_ok hn hU]
  simp only [Option.bind_some, cond_true]
  cases decide (0 ≤ i) <;> rfl

theorem u_lt {n U : Nat} (hn : n ≤ 8) (hU : U < 2 ^ n) : U < 256 := Nat.lt_of_lt_of_le hU (Nat.pow_le_pow_right (by decide) hn)

theorem f9_ok {n U : Nat} (hn : n ≤ 8) (hU : U < 2 ^ n) {i : Nat} (hi : i < n) : f9 (n : Int) (U : Int) (i : Int) = some (U.testBit i, ()) := by
  have hl := u_lt hn hU
  unfold f9
  rw [f25_ok hn hU, decide_eq_true (show (0 : Int) ≤ (i : Int) by omega), decide_eq_true (show (i : Int) < (n : Int) by omega)]
  simp only [Option.bind_some, Bool.and_self, cond_true]
  rw [decide_eq_false (show ¬ (i : Int) < 0 by omega)]
  simp only [Bool.not_false, cond_true, toN, Nat.min_eq_left (show i ≤ 64 by omega), fdiv_pow]
  have h1 : U / 2 ^ i < 2 ^ 63 := Nat.lt_of_le_of_lt (Nat.div_le_self _ _) (by omega)
  have := b_and (a := U / 2 ^ i) (b := 1) h1 (by decide)
  rw [show (((1 : Nat) : Int)) = 1 from rfl] at this
  rw [this, Nat.and_one_is_mod, Nat.testBit_eq_decide_div_mod_eq]
  congr 2
  rw [decide_eq_decide]
  omega

/-- one block more is used -/
def takeU (n U : Nat) (i : Int) : Nat := if 0 ≤ i ∧ i < (n : Int) ∧ U.testBit i.toNat = false then U ^^^ 2 ^ i.toNat else U

theorem takeU_lt {n U : Nat} (hU : U < 2 ^ n) (i : Int) : takeU n U i < 2 ^ n := by
  unfold takeU
  split
  · rename_i h
    exact Nat.xor_lt_two_pow hU (Nat.pow_lt_pow_right (by decide) (by omega))
  · exact hU

theorem takeU_bit {n U : Nat} (i : Int) {j : Nat} (hj : j < n) : (takeU n U i).testBit j = (U.testBit j || decide (i = (j : Int))) := by
  unfold takeU
  by_cases h : i = (j : Int)
  · subst h
    simp only [decide_true, Bool.or_true]
    split
    · rename_i h
      rw [toN, Nat.testBit_xor, Nat.testBit_two_pow_self]
      rw [toN] at h
      rw [h.2.2]; rfl
    · rename_i h
      rw [toN] at h
      cases hb : U.testBit j with
      | true => rfl
      | false => exact absurd ⟨by omega, by omega, hb⟩ h
  · rw [decide_eq_false h, Bool.or_false]
    split
    · rename_i hh
      rw [Nat.testBit_xor, Nat.testBit_two_pow, decide_eq_false (by omega), Bool.xor_false]
    · rfl

theorem f22_ok {n U : Nat} (hn : n ≤ 8) (hU : U < 2 ^ n) (i : Int) : ∃ b, f22 (n : Int) (U : Int) i = some (((n : Int), ((takeU n U i : Nat) : Int)), (b, ())) := by
  have hl := u_lt hn hU
  unfold f22 f42
  rw [f25_ok hn hU]
  simp only [Option.bind_some]
  by_cases h0 : 0 ≤ i ∧ i < (n : Int)
  · rw [decide_eq_true h0.1, decide_eq_true h0.2]
    simp only [Bool.and_self, Bool.not_true, cond_false]
    have e : i = ((i.toNat : Nat) : Int) := by omega
    have hi : i.toNat < n := by omega
    have h9 := f9_ok hn hU hi
    rw [← e] at h9
    rw [h9]
    simp only [Option.bind_some]
    cases hb : U.testBit i.toNat with
    | true =>
      have : takeU n U i = U := by unfold takeU; rw [if_neg (by rw [hb]; simp)]
      rw [this]
      exact ⟨_, rfl⟩
    | false =>
      have : takeU n U i = U ^^^ 2 ^ i.toNat := by unfold takeU; rw [if_pos ⟨h0.1, h0.2, hb⟩]
      rw [this, decide_eq_false (show ¬ i < 0 by omega)]
      have hp : 2 ^ i.toNat ≤ 2 ^ 8 := Nat.pow_le_pow_right (by decide) (by omega)
      have hx := b_xor (a := U) (b := 2 ^ i.toNat) (by omega) (by omega)
      have e2 : IntKind.wrap .i64 (1 * ((2 : Int) ^ ((min (Int.toNat i) 64) : Nat))) = ((2 ^ i.toNat : Nat) : Int) := by
        rw [Nat.min_eq_left (show i.toNat ≤ 64 by omega), Int.one_mul, show ((2 : Int) ^ i.toNat) = ((2 ^ i.toNat : Nat) : Int) by simp]
        have hq : 2 ^ i.toNat ≤ 256 := hp
        generalize 2 ^ i.toNat = q at hq ⊢
        exact w64 (by omega) (by omega)
      simp only [e2, hx]
      exact ⟨_, rfl⟩
  · have : (decide (0 ≤ i) && decide (i < (n : Int))) = false := by
      rw [Bool.and_eq_false_iff, decide_eq_false_iff_not, decide_eq_false_iff_not]
      omega
    rw [this]
    have : takeU n U i = U := by unfold takeU; rw [if_neg (by omega)]
    rw [this]
    exact ⟨_, rfl⟩

/-! the first free one -/
theorem free_bits : ∀ n : Fin 9, ∀ U : Fin 256, U.val < 2 ^ n.val → bitop .andNot .u64 (IntKind.wrap .u64 ((IntKind.wrap .u64 (1 * ((2 : Int) ^ ((min (Int.toNat (n.val : Int)) 64) : Nat)))) - 1)) (IntKind.wrap .u64 (U.val : Int)) = ((2 ^ n.val - 1 - U.val : Nat) : Int) := by decide +kernel
theorem first_bits : ∀ n : Fin 9, ∀ U : Fin 256, U.val < 2 ^ n.val → 0 < 2 ^ n.val - 1 - U.val → Lib.ctz 64 (2 ^ n.val - 1 - U.val) < n.val ∧ U.val.testBit (Lib.ctz 64 (2 ^ n.val - 1 - U.val)) = false := by decide +kernel

theorem f10_ok {n U : Nat} (hn : n ≤ 8) (hU : U < 2 ^ n) : ∃ i : Int, f10 (n : Int) (U : Int) = some (i, ()) ∧ (i < 0 ∨ ∃ j : Nat, i = (j : Int) ∧ j < n ∧ U.testBit j = false) := by
  have hl := u_lt hn hU
  have e1 := free_bits ⟨n, by omega⟩ ⟨U, hl⟩ hU
  have e2 := first_bits ⟨n, by omega⟩ ⟨U, hl⟩ hU
  simp only at e1 e2
  unfold f10
  rw [f8_ok hn hU]
  simp only [Option.bind_some, Bool.not_true, cond_false]
  rw [decide_eq_false (show ¬ (n : Int) < 0 by omega)]
  simp only [Bool.not_false, cond_true, e1]
  by_cases h0 : 0 < 2 ^ n - 1 - U
  · obtain ⟨h1, h2⟩ := e2 h0
    have hlt : 2 ^ n - 1 - U < 256 := by
      have : 2 ^ n ≤ 2 ^ 8 := Nat.pow_le_pow_right (by decide) hn
      omega
    have hf : fTz (((2 ^ n - 1 - U : Nat) : Int)) = some (((Lib.ctz 64 (2 ^ n - 1 - U) : Nat) : Int), ()) := by
      unfold fTz tzI
      rw [decide_eq_true (by omega), decide_eq_true (by omega), toN]; rfl
    refine ⟨((Lib.ctz 64 (2 ^ n - 1 - U) : Nat) : Int), ?_, .inr ⟨_, rfl, h1, h2⟩⟩
    have hs : u10_45_2_0 (((), (((2 ^ n - 1 - U : Nat) : Int), ())), ((((n : Int), ((U : Int), ())), ((0, ()), (((n : Int), ((U : Int), ())), (((), ((), ((), ((), ((), ((), ((), ((), ())))))))), ())))), ())) =
        some (.ret ((), ((((n : Int), ((U : Int), ())), ((((Lib.ctz 64 (2 ^ n - 1 - U) : Nat) : Int), ()), (((n : Int), ((U : Int), ())), (((), ((), ((), ((), ((), ((), ((), ((), ())))))))), ())))), ()))) := by
      simp only [u10_45_2_0, t10_45_2_0]
      rw [decide_eq_true (show (0 : Int) < ((2 ^ n - 1 - U : Nat) : Int) by omega), hf]
      rfl
    have hit : iter big u10_45_2_0 (((), (((2 ^ n - 1 - U : Nat) : Int), ())), ((((n : Int), ((U : Int), ())), ((0, ()), (((n : Int), ((U : Int), ())), (((), ((), ((), ((), ((), ((), ((), ((), ())))))))), ())))), ())) = _ :=
      it_mono (k := 1) (by unfold big; omega) (it_ret (n := 0) hs)
    rw [hit]
    rfl
  · have hz : 2 ^ n - 1 - U = 0 := by omega
    refine ⟨-1, ?_, .inl (by omega)⟩
    rw [hz]
    have hs : u10_45_2_0 (((), (((0 : Nat) : Int), ())), ((((n : Int), ((U : Int), ())), ((0, ()), (((n : Int), ((U : Int), ())), (((), ((), ((), ((), ((), ((), ((), ((), ())))))))), ())))), ())) =
        some (.out ((), ((((n : Int), ((U : Int), ())), ((0, ()), (((n : Int), ((U : Int), ())), (((), ((), ((), ((), ((), ((), ((), ((), ())))))))), ())))), ()))) := by
      simp only [u10_45_2_0, t10_45_2_0]
      rw [decide_eq_false (show ¬ (0 : Int) < ((0 : Nat) : Int) by omega)]
      rfl
    have hit : iter big u10_45_2_0 (((), (((0 : Nat) : Int), ())), ((((n : Int), ((U : Int), ())), ((0, ()), (((n : Int), ((U : Int), ())), (((), ((), ((), ((), ((), ((), ((), ((), ())))))))), ())))), ())) = _ :=
      it_mono (k := 1) (by unfold big; omega) (it_out (n := 0) hs)
    rw [hit]
    rfl
end Go.Proofs.Zz
