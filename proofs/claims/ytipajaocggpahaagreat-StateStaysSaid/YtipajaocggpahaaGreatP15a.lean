/- The addresses' functions in the model's words. -/
import Derived.Test.YtipajaocggpahaaGreatPure15
import Derived.Test.YtipajaocggpahaaGreatM1
namespace Go.Proofs.Zz
open Go Go.Sy
set_option linter.unusedSimpArgs false
set_option linter.unusedVariables false

theorem f99_eq (b k : Int) : f99 b k = some (decide (MayP b k), ()) := by
  unfold f99
  by_cases h1 : 0 ≤ k
  case neg => simp [h1, MayP]
  by_cases h2 : k ≤ 32
  case neg => simp [h1, h2, MayP]
  by_cases h3 : 0 ≤ b
  case neg => simp [h1, h2, h3, MayP]
  by_cases h4 : b < 4294967296
  case neg => simp [h1, h2, h3, h4, MayP]
  have w : IntKind.wrap .i64 (32 - k) = 32 - k := w64 (by omega) (by omega)
  have hneg : decide (IntKind.wrap .i64 (32 - k) < 0) = false := by rw [w]; simp; omega
  have hs := szI_le h1
  have hp := szI_pos k
  rw [shl_sz h1 h2, hneg, w64 (show -9223372036854775808 ≤ szI k - 1 by omega) (by omega)]
  obtain ⟨n, rfl⟩ : ∃ n : Nat, b = n := ⟨b.toNat, by omega⟩
  have e : bitop .and .i64 (n : Int) (szI k - 1) = (n : Int) % szI k := by
    unfold szI
    rw [b_and_mask (by omega) (by omega)]; rfl
  simp only [h1, h2, h3, h4, e, decide_true, cond_true, Bool.not_false, MayP, true_and]

theorem f71_eq (b k : Int) : f71 b k = some (sizeI b k, ()) := by
  unfold f71
  rw [f99_eq]
  unfold sizeI
  by_cases h : MayP b k
  · have w : IntKind.wrap .i64 (32 - k) = 32 - k := w64 (by have := h.1; have := h.2.1; omega) (by have := h.1; have := h.2.1; omega)
    have hneg : decide (IntKind.wrap .i64 (32 - k) < 0) = false := by rw [w]; have := h.2.1; simp; omega
    simp only [Option.bind_some, h, decide_true, Bool.not_true, cond_false, hneg, Bool.not_false, cond_true, if_true, shl_sz h.1 h.2.1]
  · simp [h]

theorem f100_eq (b k a : Int) : f100 b k a = some (indexI b k a, ()) := by
  unfold f100
  rw [f99_eq]
  unfold indexI
  by_cases hm : MayP b k
  case neg => simp [hm]
  by_cases h1 : a < 0
  · have h : ¬ (b ≤ a) := by have := hm.2.2.1; omega
    simp [hm, h1, h]
  by_cases h2 : 4294967296 ≤ a
  · have h : ¬ (a < b + szI k) := by have := may_room hm; omega
    simp [hm, h1, h2, h]
  have w : IntKind.wrap .i64 (32 - k) = 32 - k := w64 (by have := hm.1; have := hm.2.1; omega) (by have := hm.1; have := hm.2.1; omega)
  have hneg : decide (IntKind.wrap .i64 (32 - k) < 0) = false := by rw [w]; have := hm.2.1; simp; omega
  have hmin : min (Int.toNat (IntKind.wrap .i64 (32 - k))) 64 = (32 - k).toNat := by rw [w, Nat.min_eq_left]; have := hm.1; omega
  obtain ⟨n, rfl⟩ : ∃ n : Nat, b = n := ⟨b.toNat, by have := hm.2.2.1; omega⟩
  obtain ⟨j, rfl⟩ : ∃ j : Nat, a = j := ⟨a.toNat, by omega⟩
  have hb := hm.2.2.2.1
  have hn : n % 2 ^ (32 - k).toNat = 0 := by
    have := hm.2.2.2.2
    unfold szI at this
    have h : (n : Int) % ((2 ^ (32 - k).toNat : Nat) : Int) = ((n % 2 ^ (32 - k).toNat : Nat) : Int) := rfl
    rw [h] at this
    omega
  have e : decide (Int.fdiv (bitop .xor .i64 (j : Int) (n : Int)) ((2 : Int) ^ ((min (Int.toNat (IntKind.wrap .i64 (32 - k))) 64) : Nat)) = 0) = decide ((n : Int) ≤ j ∧ (j : Int) < n + szI k) := by
    rw [hmin, b_xor (by omega) (by omega), fdiv_pow]
    have h1 : (j ^^^ n) / 2 ^ (32 - k).toNat = (j / 2 ^ (32 - k).toNat) ^^^ (n / 2 ^ (32 - k).toNat) := by
      rw [← Nat.shiftRight_eq_div_pow, ← Nat.shiftRight_eq_div_pow, ← Nat.shiftRight_eq_div_pow, Nat.shiftRight_xor_distrib]
    have h2 : (j ^^^ n) / 2 ^ (32 - k).toNat = 0 ↔ j / 2 ^ (32 - k).toNat = n / 2 ^ (32 - k).toNat := by
      rw [h1]; exact xor_zero _ _
    have h3 := div_same (a := j) (Nat.two_pow_pos (32 - k).toNat) hn
    unfold szI
    rw [decide_eq_decide]
    constructor
    · intro h
      have := h3.1 (h2.1 (by omega))
      omega
    · intro h
      have := h2.2 (h3.2 (by omega))
      omega
  rw [e]
  simp only [hm, h1, h2, hneg, decide_true, decide_false, Option.bind_some, Bool.not_true, Bool.not_false, cond_false, cond_true, true_and]
  by_cases hin : (n : Int) ≤ j ∧ (j : Int) < n + szI k
  · rw [decide_eq_true hin, if_pos hin, w64 (by omega) (by omega)]; rfl
  · rw [decide_eq_false hin, if_neg hin]; rfl

theorem f73_eq (b k b' k' : Int) : f73 b k b' k' = some (decide (MeetP b k b' k'), ()) := by
  unfold f73
  rw [f99_eq, f99_eq, f100_eq, f100_eq]
  unfold MeetP
  by_cases h1 : MayP b k
  case neg => simp [h1]
  by_cases h2 : MayP b' k'
  case neg => simp [h1, h2]
  have e1 := index_ne b k b'
  have e2 := index_ne b' k' b
  simp only [h1, h2, true_and] at e1 e2
  by_cases h3 : indexI b k b' = -1
  · have : ¬ (b ≤ b' ∧ b' < b + szI k) := fun h => e1.2 h h3
    by_cases h4 : indexI b' k' b = -1
    · have h5 : ¬ (b' ≤ b ∧ b < b' + szI k') := fun h => e2.2 h h4
      simp [h1, h2, h3, h4, this, h5]
    · have h5 := e2.1 h4
      simp [h1, h2, h3, h4, this, h5]
  · have := e1.1 h3
    simp [h1, h2, h3, this]
end Go.Proofs.Zz

