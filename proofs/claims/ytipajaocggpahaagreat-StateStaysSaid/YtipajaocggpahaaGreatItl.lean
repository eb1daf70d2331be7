/- Loops of plain functions; numbers that fit; bits as sums. -/
import Derived.Test.YtipajaocggpahaaGreatSym18
import Derived.IntWalk
namespace Go.Sy
open Go
set_option linter.unusedSimpArgs false
set_option linter.unusedVariables false

section
variable {α β γ : Type} {f : α → Option (R3 α β γ)}
theorem it_next {n : Nat} {x x' : α} (h : f x = some (.next x')) : iter (n + 1) f x = iter n f x' := by rw [iter, h]
theorem it_out {n : Nat} {x : α} {y : β} (h : f x = some (.out y)) : iter (n + 1) f x = some (.inl y) := by rw [iter, h]
theorem it_ret {n : Nat} {x : α} {y : γ} (h : f x = some (.ret y)) : iter (n + 1) f x = some (.inr y) := by rw [iter, h]

theorem it_mono : ∀ {k n : Nat}, k ≤ n → ∀ {x : α} {r : Sum β γ}, iter k f x = some r → iter n f x = some r
  | 0, _, _, x, r, h => by simp [iter] at h
  | k + 1, 0, hk, _, _, _ => by omega
  | k + 1, n + 1, hk, x, r, h => by
    unfold iter at h ⊢
    split at h
    · exact it_mono (by omega) h
    · exact h
    · exact h
    · simp at h

/-- a loop that keeps I and makes m less comes to what Q says -/
theorem it_inv (I : α → Prop) (m : α → Nat) (Q : Sum β γ → Prop)
    (step : ∀ x, I x → (∃ x', f x = some (.next x') ∧ I x' ∧ m x' < m x) ∨ (∃ y, f x = some (.out y) ∧ Q (.inl y)) ∨ ∃ y, f x = some (.ret y) ∧ Q (.inr y)) :
    ∀ (n : Nat) (x : α), I x → m x < n → ∃ r, iter n f x = some r ∧ Q r
  | 0, _, _, h => by omega
  | n + 1, x, hI, hm => by
    rcases step x hI with ⟨x', h1, h2, h3⟩ | ⟨y, h1, h2⟩ | ⟨y, h1, h2⟩
    · rw [it_next h1]; exact it_inv I m Q step n x' h2 (by omega)
    · exact ⟨_, it_out h1, h2⟩
    · exact ⟨_, it_ret h1, h2⟩

/-- a loop that tells at each state what it comes to -/
theorem it_tells (I : α → Prop) (m : α → Nat) (g : α → Sum β γ)
    (step : ∀ x, I x → (∃ x', f x = some (.next x') ∧ I x' ∧ m x' < m x ∧ g x' = g x) ∨ (∃ y, f x = some (.out y) ∧ g x = .inl y) ∨ ∃ y, f x = some (.ret y) ∧ g x = .inr y) :
    ∀ (n : Nat) (x : α), I x → m x < n → iter n f x = some (g x)
  | 0, _, _, h => by omega
  | n + 1, x, hI, hm => by
    rcases step x hI with ⟨x', h1, h2, h3, h4⟩ | ⟨y, h1, h2⟩ | ⟨y, h1, h2⟩
    · rw [it_next h1, it_tells I m g step n x' h2 (by omega), h4]
    · rw [it_out h1, h2]
    · rw [it_ret h1, h2]
end

theorem w64 {x : Int} (h1 : -9223372036854775808 ≤ x) (h2 : x ≤ 9223372036854775807) : IntKind.wrap .i64 x = x := IntWalk.i64_in _ ⟨h1, h2⟩
theorem w32 {x : Int} (h1 : -2147483648 ≤ x) (h2 : x ≤ 2147483647) : IntKind.wrap .i32 x = x := by rw [IntKind.wrap_i32]; omega
theorem w8 {x : Int} (h1 : 0 ≤ x) (h2 : x ≤ 255) : IntKind.wrap .u8 x = x := by rw [IntKind.wrap_u8]; omega

theorem bv_ofInt {n : Nat} (h : n < 2 ^ 64) : (BitVec.ofInt 64 (n : Int)).toNat = n := by
  simp [BitVec.toNat_ofInt]; omega

theorem b_and {a b : Nat} (ha : a < 2 ^ 63) (hb : b < 2 ^ 63) : bitop .and .i64 (a : Int) (b : Int) = ((a &&& b : Nat) : Int) := by
  have h : a &&& b ≤ a := Nat.and_le_left
  show IntKind.wrap .i64 ((BitVec.ofInt 64 (a : Int) &&& BitVec.ofInt 64 (b : Int)).toNat : Int) = _
  rw [BitVec.toNat_and, bv_ofInt (by omega), bv_ofInt (by omega), w64 (by omega) (by omega)]

theorem b_or {a b : Nat} (ha : a < 2 ^ 63) (hb : b < 2 ^ 63) : bitop .or .i64 (a : Int) (b : Int) = ((a ||| b : Nat) : Int) := by
  have h : a ||| b < 2 ^ 63 := Nat.or_lt_two_pow ha hb
  show IntKind.wrap .i64 ((BitVec.ofInt 64 (a : Int) ||| BitVec.ofInt 64 (b : Int)).toNat : Int) = _
  rw [BitVec.toNat_or, bv_ofInt (by omega), bv_ofInt (by omega), w64 (by omega) (by omega)]

theorem b_xor {a b : Nat} (ha : a < 2 ^ 63) (hb : b < 2 ^ 63) : bitop .xor .i64 (a : Int) (b : Int) = ((a ^^^ b : Nat) : Int) := by
  have h : a ^^^ b < 2 ^ 63 := Nat.xor_lt_two_pow ha hb
  show IntKind.wrap .i64 ((BitVec.ofInt 64 (a : Int) ^^^ BitVec.ofInt 64 (b : Int)).toNat : Int) = _
  rw [BitVec.toNat_xor, bv_ofInt (by omega), bv_ofInt (by omega), w64 (by omega) (by omega)]

theorem b_and_mask {a m : Nat} (ha : a < 2 ^ 63) (hm : m < 63) : bitop .and .i64 (a : Int) (((2 ^ m : Nat) : Int) - 1) = ((a % 2 ^ m : Nat) : Int) := by
  have h1 : 1 ≤ 2 ^ m := Nat.one_le_two_pow
  have h2 : 2 ^ m ≤ 2 ^ 62 := Nat.pow_le_pow_right (by omega) (by omega)
  have e : ((2 ^ m : Nat) : Int) - 1 = ((2 ^ m - 1 : Nat) : Int) := by omega
  rw [e, b_and ha (by omega), Nat.and_two_pow_sub_one_eq_mod]

/-- a number of whole steps, and one below a step, joined -/
theorem b_or_add {a b m : Nat} (ha : a < 2 ^ 62) (hd : a % 2 ^ m = 0) (hb : b < 2 ^ m) (hm : m ≤ 62) : bitop .or .i64 (a : Int) (b : Int) = ((a + b : Nat) : Int) := by
  have h2 : 2 ^ m ≤ 2 ^ 62 := Nat.pow_le_pow_right (by omega) hm
  rw [b_or (by omega) (by omega)]
  have : a = 2 ^ m * (a / 2 ^ m) := by have := Nat.div_add_mod a (2 ^ m); omega
  rw [this, Nat.two_pow_add_eq_or_of_lt hb]

theorem fdiv_pow (a m : Nat) : Int.fdiv (a : Int) ((2 : Int) ^ m) = ((a / 2 ^ m : Nat) : Int) := by
  rw [show ((2 : Int) ^ m) = ((2 ^ m : Nat) : Int) by simp, Int.fdiv_eq_ediv_of_nonneg _ (Int.natCast_nonneg _)]; rfl
end Go.Sy
