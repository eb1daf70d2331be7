/- The addresses' functions in plain words: prefixes. -/
import Derived.Test.YtojkjedljhjleaaGreatDoorPure21
import Derived.Test.YtojkjedljhjleaaGreatDoorItl
import Derived.Test.YtojkjedljhjleaaGreatDoorIt2
namespace Go.Proofs.Zz
open Go Go.Sy
set_option linter.unusedSimpArgs false
set_option linter.unusedVariables false

/-- 2 ^ (32 - k) -/
def szI (k : Int) : Int := ((2 ^ (32 - k).toNat : Nat) : Int)

def MayP (b k : Int) : Prop := 0 ≤ k ∧ k ≤ 32 ∧ 0 ≤ b ∧ b < 4294967296 ∧ b % szI k = 0
instance (b k : Int) : Decidable (MayP b k) := by unfold MayP; infer_instance

theorem szI_pos (k : Int) : 1 ≤ szI k := by unfold szI; have : 1 ≤ 2 ^ (32 - k).toNat := Nat.one_le_two_pow; omega
theorem szI_le {k : Int} (h : 0 ≤ k) : szI k ≤ 4294967296 := by
  unfold szI
  have : 2 ^ (32 - k).toNat ≤ 2 ^ 32 := Nat.pow_le_pow_right (by omega) (by omega)
  omega

theorem shl_sz {k : Int} (h0 : 0 ≤ k) (h1 : k ≤ 32) : IntKind.wrap .i64 (1 * ((2 : Int) ^ ((min (Int.toNat (IntKind.wrap .i64 (32 - k))) 64) : Nat))) = szI k := by
  rw [w64 (show -9223372036854775808 ≤ 32 - k by omega) (by omega), Nat.min_eq_left (by omega)]
  have := szI_le h0
  have := szI_pos k
  have e : (1 : Int) * ((2 : Int) ^ (32 - k).toNat) = szI k := by simp [szI]
  rw [e, w64 (by omega) (by omega)]

theorem f68_eq (b k : Int) : f68 b k = some (decide (MayP b k), ()) := by
  unfold f68
  by_cases h1 : 0 ≤ k
  case neg => simp [h1, MayP]
  by_cases h2 : k ≤ 32
  case neg => simp [h1, h2, MayP]
  by_cases h3 : 0 ≤ b
  case neg => simp [h1, h2, h3, MayP]
  by_cases h4 : b < 4294967296
  case neg => simp [h1, h2, h3, h4, MayP]
  have w : IntKind.wrap .i64 (32 - k) = 32 - k := w64 (by omega) (by omega)
  have hneg : decide (IntKind.wrap .i64 (32 - k) < 0) = false := by rw [w]; simp; omega
  have hs := szI_le h1
  have hp := szI_pos k
  rw [shl_sz h1 h2, hneg, w64 (show -9223372036854775808 ≤ szI k - 1 by omega) (by omega)]
  obtain ⟨n, rfl⟩ : ∃ n : Nat, b = n := ⟨b.toNat, by omega⟩
  have e : bitop .and .i64 (n : Int) (szI k - 1) = (n : Int) % szI k := by
    unfold szI
    rw [b_and_mask (by omega) (by omega)]; rfl
  simp only [h1, h2, h3, h4, e, decide_true, cond_true, Bool.not_false, MayP, true_and]

def sizeI (b k : Int) : Int := if MayP b k then szI k else 0

theorem f34_eq (b k : Int) : f34 b k = some (sizeI b k, ()) := by
  unfold f34
  rw [f68_eq]
  unfold sizeI
  by_cases h : MayP b k
  · have w : IntKind.wrap .i64 (32 - k) = 32 - k := w64 (by have := h.1; have := h.2.1; omega) (by have := h.1; have := h.2.1; omega)
    have hneg : decide (IntKind.wrap .i64 (32 - k) < 0) = false := by rw [w]; have := h.2.1; simp; omega
    simp only [Option.bind_some, h, decide_true, Bool.not_true, cond_false, hneg, Bool.not_false, cond_true, if_true, shl_sz h.1 h.2.1]
  · simp [h]

theorem szI_dvd {k : Int} (h : 0 ≤ k) : (4294967296 : Int) % szI k = 0 := by
  unfold szI
  have : (2 ^ (32 - k).toNat : Nat) ∣ 2 ^ 32 := Nat.pow_dvd_pow 2 (by omega)
  have h2 := Nat.mod_eq_zero_of_dvd this
  have : ((2 ^ 32 % 2 ^ (32 - k).toNat : Nat) : Int) = 0 := by rw [h2]; rfl
  simpa using this

theorem add_le_of_mod {b N m : Int} (hm : 0 < m) (hb : b % m = 0) (hN : N % m = 0) (h : b < N) : b + m ≤ N := by
  obtain ⟨x, rfl⟩ := Int.dvd_of_emod_eq_zero hb
  obtain ⟨y, rfl⟩ := Int.dvd_of_emod_eq_zero hN
  have : x < y := by
    rcases Int.lt_or_le x y with h' | h'
    · exact h'
    · have := Int.mul_le_mul_of_nonneg_left h' (Int.le_of_lt hm); omega
  have := Int.mul_le_mul_of_nonneg_left (show x + 1 ≤ y by omega) (Int.le_of_lt hm)
  rw [Int.mul_add, Int.mul_one] at this
  exact this

theorem may_room {b k : Int} (h : MayP b k) : b + szI k ≤ 4294967296 :=
  add_le_of_mod (by have := szI_pos k; omega) h.2.2.2.2 (szI_dvd h.1) h.2.2.2.1

theorem f40_eq (b k i : Int) : f40 b k i = some (if 0 ≤ i ∧ i < sizeI b k then (b + i, true, ()) else (0, false, ())) := by
  unfold f40
  rw [f34_eq]
  by_cases h0 : i < 0
  · have : ¬ (0 ≤ i ∧ i < sizeI b k) := by omega
    simp [h0, this]
  by_cases h1 : sizeI b k ≤ i
  · have : ¬ (0 ≤ i ∧ i < sizeI b k) := by omega
    simp [h0, h1, this]
  have hlt : 0 ≤ i ∧ i < sizeI b k := by omega
  have hm : MayP b k := by
    by_cases hm : MayP b k
    · exact hm
    · unfold sizeI at h1; rw [if_neg hm] at h1; omega
  have hsz : sizeI b k = szI k := by unfold sizeI; rw [if_pos hm]
  obtain ⟨n, rfl⟩ : ∃ n : Nat, b = n := ⟨b.toNat, by have := hm.2.2.1; omega⟩
  obtain ⟨j, rfl⟩ : ∃ j : Nat, i = j := ⟨i.toNat, by omega⟩
  have e : bitop .or .i64 (n : Int) (j : Int) = (n : Int) + j := by
    rw [b_or_add (m := (32 - k).toNat) (by have := hm.2.2.2.1; omega) ?_ ?_ (by have := hm.1; omega)]; rfl
    · have := hm.2.2.2.2
      unfold szI at this
      have h : (n : Int) % ((2 ^ (32 - k).toNat : Nat) : Int) = ((n % 2 ^ (32 - k).toNat : Nat) : Int) := rfl
      rw [h] at this
      omega
    · have := hlt.2
      rw [hsz] at this
      unfold szI at this
      omega
  simp only [h0, h1, hlt, decide_false, cond_false, Option.bind_some, e, and_self, if_true, and_true]

def indexI (b k a : Int) : Int := if MayP b k ∧ b ≤ a ∧ a < b + szI k then a - b else -1

theorem xor_zero (a b : Nat) : a ^^^ b = 0 ↔ a = b := by
  constructor
  · intro h
    have : (a ^^^ b) ^^^ b = 0 ^^^ b := by rw [h]
    rwa [Nat.xor_assoc, Nat.xor_self, Nat.xor_zero, Nat.zero_xor] at this
  · intro h; rw [h, Nat.xor_self]

theorem div_same {n a m : Nat} (hm : 0 < m) (hn : n % m = 0) : a / m = n / m ↔ n ≤ a ∧ a < n + m := by
  obtain ⟨x, rfl⟩ := Nat.dvd_of_mod_eq_zero hn
  rw [Nat.mul_div_cancel_left _ hm]
  constructor
  · intro h
    have h1 := Nat.div_mul_le_self a m
    have h2 := Nat.lt_div_mul_add hm (a := a)
    rw [h] at h1 h2
    rw [Nat.mul_comm m x]
    omega
  · intro ⟨h1, h2⟩
    rw [Nat.mul_comm m x] at h1 h2
    rw [Nat.div_eq_iff hm]
    constructor
    · omega
    · omega

theorem f48_eq (b k a : Int) : f48 b k a = some (indexI b k a, ()) := by
  unfold f48
  rw [f68_eq]
  unfold indexI
  by_cases hm : MayP b k
  case neg => simp [hm]
  by_cases h1 : a < 0
  · have h : ¬ (b ≤ a) := by have := hm.2.2.1; omega
    simp [hm, h1, h]
  by_cases h2 : 4294967296 ≤ a
  · have h : ¬ (a < b + szI k) := by have := may_room hm; omega
    simp [hm, h1, h2, h]
  have w : IntKind.wrap .i64 (32 - k) = 32 - k := w64 (by have := hm.1; have := hm.2.1; omega) (by have := hm.1; have := hm.2.1; omega)
  have hneg : decide (IntKind.wrap .i64 (32 - k) < 0) = false := by rw [w]; have := hm.2.1; simp; omega
  have hmin : min (Int.toNat (IntKind.wrap .i64 (32 - k))) 64 = (32 - k).toNat := by rw [w, Nat.min_eq_left]; have := hm.1; omega
  obtain ⟨n, rfl⟩ : ∃ n : Nat, b = n := ⟨b.toNat, by have := hm.2.2.1; omega⟩
  obtain ⟨j, rfl⟩ : ∃ j : Nat, a = j := ⟨a.toNat, by omega⟩
  have hb := hm.2.2.2.1
  have hn : n % 2 ^ (32 - k).toNat = 0 := by
    have := hm.2.2.2.2
    unfold szI at this
    have h : (n : Int) % ((2 ^ (32 - k).toNat : Nat) : Int) = ((n % 2 ^ (32 - k).toNat : Nat) : Int) := rfl
    rw [h] at this
    omega
  have e : decide (Int.fdiv (bitop .xor .i64 (j : Int) (n : Int)) ((2 : Int) ^ ((min (Int.toNat (IntKind.wrap .i64 (32 - k))) 64) : Nat)) = 0) = decide ((n : Int) ≤ j ∧ (j : Int) < n + szI k) := by
    rw [hmin, b_xor (by omega) (by omega), fdiv_pow]
    have h1 : (j ^^^ n) / 2 ^ (32 - k).toNat = (j / 2 ^ (32 - k).toNat) ^^^ (n / 2 ^ (32 - k).toNat) := by
      rw [← Nat.shiftRight_eq_div_pow, ← Nat.shiftRight_eq_div_pow, ← Nat.shiftRight_eq_div_pow, Nat.shiftRight_xor_distrib]
    have h2 : (j ^^^ n) / 2 ^ (32 - k).toNat = 0 ↔ j / 2 ^ (32 - k).toNat = n / 2 ^ (32 - k).toNat := by
      rw [h1]; exact xor_zero _ _
    have h3 := div_same (a := j) (Nat.two_pow_pos (32 - k).toNat) hn
    unfold szI
    rw [decide_eq_decide]
    constructor
    · intro h
      have := h3.1 (h2.1 (by omega))
      omega
    · intro h
      have := h2.2 (h3.2 (by omega))
      omega
  rw [e]
  simp only [hm, h1, h2, hneg, decide_true, decide_false, Option.bind_some, Bool.not_true, Bool.not_false, cond_false, cond_true, true_and]
  by_cases hin : (n : Int) ≤ j ∧ (j : Int) < n + szI k
  · rw [decide_eq_true hin, if_pos hin, w64 (by omega) (by omega)]; rfl
  · rw [decide_eq_false hin, if_neg hin]; rfl

def MeetP (b k b' k' : Int) : Prop := MayP b k ∧ MayP b' k' ∧ ((b ≤ b' ∧ b' < b + szI k) ∨ (b' ≤ b ∧ b < b' + szI k'))
instance (b k b' k' : Int) : Decidable (MeetP b k b' k') := by unfold MeetP; infer_instance

theorem index_ne (b k a : Int) : indexI b k a ≠ -1 ↔ MayP b k ∧ b ≤ a ∧ a < b + szI k := by
  unfold indexI
  split
  · rename_i h; constructor
    · exact fun _ => h
    · intro _; omega
  · rename_i h; constructor
    · exact fun h' => absurd rfl h'
    · exact fun h' => absurd h' h

theorem index_nonneg (b k a : Int) : 0 ≤ indexI b k a ↔ MayP b k ∧ b ≤ a ∧ a < b + szI k := by
  unfold indexI
  split
  · rename_i h; constructor
    · exact fun _ => h
    · intro _; omega
  · rename_i h; constructor
    · intro h'; omega
    · exact fun h' => absurd h' h

theorem f56_eq (b k b' k' : Int) : f56 b k b' k' = some (decide (MeetP b k b' k'), ()) := by
  unfold f56
  rw [f68_eq, f68_eq, f48_eq, f48_eq]
  unfold MeetP
  by_cases h1 : MayP b k
  case neg => simp [h1]
  by_cases h2 : MayP b' k'
  case neg => simp [h1, h2]
  have e1 := index_ne b k b'
  have e2 := index_ne b' k' b
  simp only [h1, h2, true_and] at e1 e2
  by_cases h3 : indexI b k b' = -1
  · have : ¬ (b ≤ b' ∧ b' < b + szI k) := fun h => e1.2 h h3
    by_cases h4 : indexI b' k' b = -1
    · have h5 : ¬ (b' ≤ b ∧ b < b' + szI k') := fun h => e2.2 h h4
      simp [h1, h2, h3, h4, this, h5]
    · have h5 := e2.1 h4
      simp [h1, h2, h3, h4, this, h5]
  · have := e1.1 h3
    simp [h1, h2, h3, this]
end Go.Proofs.Zz
