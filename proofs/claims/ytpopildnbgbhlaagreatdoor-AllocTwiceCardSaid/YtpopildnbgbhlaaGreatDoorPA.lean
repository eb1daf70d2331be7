/- P13a, P13b, P13c, P13d, P13e, P13g, P13h. -/
import Derived.Test.YtpopildnbgbhlaaGreatDoorPU
import Derived.Test.YtpopildnbgbhlaaGreatDoorFI
namespace Go.Proofs.Zz
open Go Go.Sy
set_option linter.unusedSimpArgs false
set_option linter.unusedVariables false
theorem f95_eq (b k : Int) : f95 b k = some (decide (MayP b k), ()) := by
 unfold f95
 by_cases h1 : 0 ≤ k
 case neg => simp [h1, MayP]
 by_cases h2 : k ≤ 32
 case neg => simp [h1, h2, MayP]
 by_cases h3 : 0 ≤ b
 case neg => simp [h1, h2, h3, MayP]
 by_cases h4 : b < 4294967296
 case neg => simp [h1, h2, h3, h4, MayP]
 have w : IntKind.wrap .i64 (32 - k) = 32 - k := w64 (by omega) (by omega)
 have hneg : decide (IntKind.wrap .i64 (32 - k) < 0) = false := by rw [w]; simp; omega
 have hs := szI_le h1
 have hp := szI_pos k
 rw [shl_sz h1 h2, hneg, w64 (show -9223372036854775808 ≤ szI k - 1 by omega) (by omega)]
 obtain ⟨n, rfl⟩ : ∃ n : Nat, b = n := ⟨b.toNat, by omega⟩
 have e : bitop .and .i64 (n : Int) (szI k - 1) = (n : Int) % szI k := by
  unfold szI
  rw [b_and_mask (by omega) (by omega)]; rfl
 simp only [h1, h2, h3, h4, e, decide_true, cond_true, Bool.not_false, MayP, true_and]
theorem f49_eq (b k : Int) : f49 b k = some (sizeI b k, ()) := by
 unfold f49
 rw [f95_eq]
 unfold sizeI
 by_cases h : MayP b k
 ·have w : IntKind.wrap .i64 (32 - k) = 32 - k := w64 (by have := h.1; have := h.2.1; omega) (by have := h.1; have := h.2.1; omega)
  have hneg : decide (IntKind.wrap .i64 (32 - k) < 0) = false := by rw [w]; have := h.2.1; simp; omega
  simp only [Option.bind_some, h, decide_true, Bool.not_true, cond_false, hneg, Bool.not_false, cond_true, if_true, shl_sz h.1 h.2.1]
 ·simp [h]
theorem f118_eq (b k a : Int) : f118 b k a = some (indexI b k a, ()) := by
 unfold f118
 rw [f95_eq]
 unfold indexI
 by_cases hm : MayP b k
 case neg => simp [hm]
 by_cases h1 : a < 0
 ·have h : ¬ (b ≤ a) := by have := hm.2.2.1; omega
  simp [hm, h1, h]
 by_cases h2 : 4294967296 ≤ a
 ·have h : ¬ (a < b + szI k) := by have := may_room hm; omega
  simp [hm, h1, h2, h]
 have w : IntKind.wrap .i64 (32 - k) = 32 - k := w64 (by have := hm.1; have := hm.2.1; omega) (by have := hm.1; have := hm.2.1; omega)
 have hneg : decide (IntKind.wrap .i64 (32 - k) < 0) = false := by rw [w]; have := hm.2.1; simp; omega
 have hmin : min (Int.toNat (IntKind.wrap .i64 (32 - k))) 64 = (32 - k).toNat := by rw [w, Nat.min_eq_left]; have := hm.1; omega
 obtain ⟨n, rfl⟩ : ∃ n : Nat, b = n := ⟨b.toNat, by have := hm.2.2.1; omega⟩
 obtain ⟨j, rfl⟩ : ∃ j : Nat, a = j := ⟨a.toNat, by omega⟩
 have hb := hm.2.2.2.1
 have hn : n % 2 ^ (32 - k).toNat = 0 := by
  have := hm.2.2.2.2
  unfold szI at this
  have h : (n : Int) % ((2 ^ (32 - k).toNat : Nat) : Int) = ((n % 2 ^ (32 - k).toNat : Nat) : Int) := rfl
  rw [h] at this
  omega
 have e : decide (Int.fdiv (bitop .xor .i64 (j : Int) (n : Int)) ((2 : Int) ^ ((min (Int.toNat (IntKind.wrap .i64 (32 - k))) 64) : Nat)) = 0) = decide ((n : Int) ≤ j ∧ (j : Int) < n + szI k) := by
  rw [hmin, b_xor (by omega) (by omega), fdiv_pow]
  have h1 : (j ^^^ n) / 2 ^ (32 - k).toNat = (j / 2 ^ (32 - k).toNat) ^^^ (n / 2 ^ (32 - k).toNat) := by
   rw [← Nat.shiftRight_eq_div_pow, ← Nat.shiftRight_eq_div_pow, ← Nat.shiftRight_eq_div_pow, Nat.shiftRight_xor_distrib]
  have h2 : (j ^^^ n) / 2 ^ (32 - k).toNat = 0 ↔ j / 2 ^ (32 - k).toNat = n / 2 ^ (32 - k).toNat := by
   rw [h1]; exact xor_zero _ _
  have h3 := div_same (a := j) (Nat.two_pow_pos (32 - k).toNat) hn
  unfold szI
  rw [decide_eq_decide]
  constructor
  ·intro h
   have := h3.1 (h2.1 (by omega))
   omega
  ·intro h
   have := h2.2 (h3.2 (by omega))
   omega
 rw [e]
 simp only [hm, h1, h2, hneg, decide_true, decide_false, Option.bind_some, Bool.not_true, Bool.not_false, cond_false, cond_true, true_and]
 by_cases hin : (n : Int) ≤ j ∧ (j : Int) < n + szI k
 ·rw [decide_eq_true hin, if_pos hin, w64 (by omega) (by omega)]; rfl
 ·rw [decide_eq_false hin, if_neg hin]; rfl
theorem f83_eq (b k b' k' : Int) : f83 b k b' k' = some (decide (MeetP b k b' k'), ()) := by
 unfold f83
 rw [f95_eq, f95_eq, f118_eq, f118_eq]
 unfold MeetP
 by_cases h1 : MayP b k
 case neg => simp [h1]
 by_cases h2 : MayP b' k'
 case neg => simp [h1, h2]
 have e1 := index_ne b k b'
 have e2 := index_ne b' k' b
 simp only [h1, h2, true_and] at e1 e2
 by_cases h3 : indexI b k b' = -1
 ·have : ¬ (b ≤ b' ∧ b' < b + szI k) := fun h => e1.2 h h3
  by_cases h4 : indexI b' k' b = -1
  ·have h5 : ¬ (b' ≤ b ∧ b < b' + szI k') := fun h => e2.2 h h4
   simp [h1, h2, h3, h4, this, h5]
  ·have h5 := e2.1 h4
   simp [h1, h2, h3, h4, this, h5]
 ·have := e1.1 h3
  simp [h1, h2, h3, this]
theorem f80_eq (a b c : Int) : f80 a b c = some (decide (b ≤ a) && decide (a ≤ c), ()) := by
 unfold f80
 cases decide (b ≤ a) <;> rfl
theorem f44_eq (a b c : Int) : f44 a b c = some (decide (b ≤ a) && decide (a ≤ c), ()) := by
 unfold f44
 cases decide (b ≤ a) <;> rfl
theorem f78_fit {a b c d e f g h : Int} (hx : 1 ≤ sizeI a b) (hy : 1 ≤ sizeI c d) : f51 a b c d e f g h = some (ratI (sizeI a b) (sizeI c d), ()) := by
 unfold f51
 rw [f49_eq, f49_eq]
 simp only [Option.bind_some]
 have hx2 := (sizeI_bound a b).2
 generalize sizeI a b = x at hx hx2 ⊢
 generalize sizeI c d = y at hy ⊢
 have : (cond (decide (y < x)) y x) ≠ 0 := by
  by_cases h : y < x
  ·rw [decide_eq_true h]; show y ≠ 0; omega
  ·rw [decide_eq_false h]; show x ≠ 0; omega
 rw [decide_eq_false this, decide_eq_false (show ¬ y = 0 by omega)]
 simp only [Bool.not_false, cond_true, cond_false]
 have e1 : IntKind.wrap .i64 (x - 1) = x - 1 := w64 (by omega) (by omega)
 have h1 : 0 ≤ (x - 1) / y := Int.ediv_nonneg (by omega) (by omega)
 have h2 : (x - 1) / y ≤ x - 1 := Int.ediv_le_self _ (by omega)
 have e2 : Int.tdiv (x - 1) y = (x - 1) / y := Int.tdiv_eq_ediv_of_nonneg (by omega)
 rw [e1, e2, w64 (x := (x - 1) / y) (by omega) (by omega), w64 (x := (x - 1) / y + 1) (by omega) (by omega)]
 rfl
theorem f78_some (a b c d e f g h : Int) : ∃ r, f51 a b c d e f g h = some (r, ()) := by
 unfold f51
 rw [f49_eq, f49_eq]
 simp only [Option.bind_some]
 have h1 := (sizeI_bound a b).1
 have h2 := (sizeI_bound c d).1
 generalize sizeI a b = x at h1 ⊢
 generalize sizeI c d = y at h2 ⊢
 by_cases hy : y = 0
 ·subst hy
  have : (cond (decide ((0 : Int) < x)) 0 x) = 0 := by
   by_cases hx : (0 : Int) < x
   ·rw [decide_eq_true hx]; rfl
   ·rw [decide_eq_false hx]; show x = 0; omega
  rw [decide_eq_true this]
  exact ⟨_, rfl⟩
 ·rw [decide_eq_false hy]
  cases decide ((cond (decide (y < x)) y x) = 0) <;> exact ⟨_, rfl⟩
theorem f87_eq {e f g : Int} (h1 : 1 ≤ e) (h2 : e ≤ f) (h3 : f ≤ 65535) (h4 : 0 ≤ g) (h5 : g ≤ f - e) (a b c d h : Int) : f87 a b c d e f g h = some (f - e + 1 - g, ()) := by
 unfold f87
 rw [w64 (x := f - e) (by omega) (by omega), w64 (x := f - e + 1) (by omega) (by omega), w64 (by omega) (by omega)]
theorem f38_ok (a b c d e f g h : Int) : ∃ r, f43 a b c d e f g h = some (r, ()) ∧ (r = true ↔ FitP ((a, b), (c, d), e, f, g, h)) := by
 obtain ⟨q, hq⟩ := f78_some a b c d e f g h
 unfold f43
 rw [f49_eq, f49_eq]
 simp only [Option.bind_some, f80_eq, f83_eq, hq]
 by_cases c1 : 1 ≤ sizeI a b ∧ sizeI a b ≤ 32
 case neg =>
  have : (decide (1 ≤ sizeI a b) && decide (sizeI a b ≤ 32)) = false := by rw [Bool.and_eq_false_iff, decide_eq_false_iff_not, decide_eq_false_iff_not]; omega
  rw [this]
  exact ⟨_, rfl, by simp, fun F => absurd ⟨F.x1, F.x2⟩ c1⟩
 rw [decide_eq_true c1.1, decide_eq_true c1.2]
 by_cases c2 : 1 ≤ sizeI c d ∧ sizeI c d ≤ 4
 case neg =>
  have : (decide (1 ≤ sizeI c d) && decide (sizeI c d ≤ 4)) = false := by rw [Bool.and_eq_false_iff, decide_eq_false_iff_not, decide_eq_false_iff_not]; omega
  rw [this]
  exact ⟨_, rfl, by simp, fun F => absurd ⟨F.y1, F.y2⟩ c2⟩
 rw [decide_eq_true c2.1, decide_eq_true c2.2]
 simp only [Bool.and_self, cond_true, Bool.not_true, cond_false, Bool.not_not]
 by_cases cm : MeetP a b c d
 ·rw [decide_eq_true cm]
  exact ⟨_, rfl, by simp, fun F => absurd cm F.meet⟩
 rw [decide_eq_false cm]
 simp only [cond_false]
 by_cases c3 : 1 ≤ e ∧ e ≤ f
 case neg =>
  have : (decide (1 ≤ e) && decide (e ≤ f)) = false := by rw [Bool.and_eq_false_iff, decide_eq_false_iff_not, decide_eq_false_iff_not]; omega
  rw [this]
  exact ⟨_, rfl, by simp, fun F => absurd ⟨F.lo1, F.lo2⟩ c3⟩
 rw [decide_eq_true c3.1, decide_eq_true c3.2]
 simp only [Bool.and_self, cond_true]
 by_cases c4 : f ≤ 65535
 case neg =>
  rw [decide_eq_false c4]
  exact ⟨_, rfl, by simp, fun F => absurd F.hi c4⟩
 rw [decide_eq_true c4, w64 (x := f - e) (by omega) (by omega)]
 simp only [Bool.not_true, cond_false]
 by_cases c6 : 0 ≤ g ∧ g ≤ f - e
 case neg =>
  have : (decide (0 ≤ g) && decide (g ≤ f - e)) = false := by rw [Bool.and_eq_false_iff, decide_eq_false_iff_not, decide_eq_false_iff_not]; omega
  rw [this]
  exact ⟨_, rfl, by simp, fun F => absurd ⟨F.g1, F.g2⟩ c6⟩
 rw [decide_eq_true c6.1, decide_eq_true c6.2]
 simp only [Bool.and_self, cond_true]
 by_cases c7 : 1 ≤ h ∧ h ≤ 65535
 case neg =>
  have : (decide (1 ≤ h) && decide (h ≤ 65535)) = false := by rw [Bool.and_eq_false_iff, decide_eq_false_iff_not, decide_eq_false_iff_not]; omega
  rw [this]
  exact ⟨_, rfl, by simp, fun F => absurd ⟨F.h1, F.h2⟩ c7⟩
 rw [decide_eq_true c7.1, decide_eq_true c7.2, decide_eq_false (show ¬ h = 0 by omega)]
 simp only [Bool.and_self, cond_true, Bool.not_false]
 have e2 : Int.tdiv g h = g / h := Int.tdiv_eq_ediv_of_nonneg c6.1
 have p1 : 0 ≤ g / h := Int.ediv_nonneg c6.1 (by omega)
 have p2 : g / h ≤ g := Int.ediv_le_self _ c6.1
 rw [e2, w64 (by omega) (by omega)]
 by_cases c8 : g / h ≤ 8
 case neg =>
  rw [decide_eq_false c8]
  exact ⟨_, rfl, by simp, fun F => absurd F.blk c8⟩
 rw [decide_eq_true c8, f87_eq c3.1 c3.2 c4 c6.1 c6.2]
 simp only [Bool.not_true, cond_false, Option.bind_some]
 rw [f78_fit c1.1 c2.1, Option.some.injEq, Prod.mk.injEq] at hq
 obtain ⟨hq, _⟩ := hq
 by_cases c9 : q ≤ f - e + 1 - g
 ·rw [decide_eq_true c9]
  exact ⟨_, rfl, fun _ => ⟨c1.1, c1.2, c2.1, c2.2, cm, c3.1, c3.2, c4, c6.1, c6.2, c7.1, c7.2, c8, by rw [← hq] at c9; exact c9⟩, fun _ => rfl⟩
 ·rw [decide_eq_false c9]
  exact ⟨_, rfl, by simp, fun F => absurd (by have := F.sh; rw [← hq]; exact this) c9⟩
theorem f43_eq (D : DT) : f43 D.1.1 D.1.2 D.2.1.1 D.2.1.2 D.2.2.1 D.2.2.2.1 D.2.2.2.2.1 D.2.2.2.2.2 = some (decide (FitP D), ()) := by
 obtain ⟨r, h1, h2⟩ := f38_ok D.1.1 D.1.2 D.2.1.1 D.2.1.2 D.2.2.1 D.2.2.2.1 D.2.2.2.2.1 D.2.2.2.2.2
 rw [h1]
 have : r = decide (FitP D) := by
  by_cases hf : FitP D
  ·rw [decide_eq_true hf]; exact h2.2 hf
  ·rw [decide_eq_false hf]
   cases r with
   | false => rfl
   | true => exact absurd (h2.1 rfl) hf
 rw [this]
section
variable {D : DT}
theorem f103_fit (F : FitP D) : f52 D.1.1 D.1.2 D.2.1.1 D.2.1.2 D.2.2.1 D.2.2.2.1 D.2.2.2.2.1 D.2.2.2.2.2 = some (each D, ()) := by
 have hr := F.rat1
 have he := F.each1
 unfold f52
 rw [f43_eq, decide_eq_true F, f87_eq F.lo1 F.lo2 F.hi F.g1 F.g2, f78_fit F.x1 F.y1]
 simp only [Option.bind_some, Bool.not_true, cond_false]
 have er : ratI (sizeI D.1.1 D.1.2) (sizeI D.2.1.1 D.2.1.2) = rat D := rfl
 rw [er, decide_eq_false (show ¬ rat D = 0 by omega)]
 simp only [Bool.not_false, cond_true]
 have hs : 0 ≤ hiI D - loI D + 1 - dynI D := by have := F.g2; omega
 have p2 : (hiI D - loI D + 1 - dynI D) / rat D ≤ hiI D - loI D + 1 - dynI D := Int.ediv_le_self _ hs
 have e2 : Int.tdiv (hiI D - loI D + 1 - dynI D) (rat D) = each D := Int.tdiv_eq_ediv_of_nonneg hs
 unfold each at he e2 ⊢
 rw [e2, w64 (by omega) (by have := F.hi; have := F.lo1; have := F.g1; omega)]
theorem f19_eq (sub : Int) : f19 D.1.1 D.1.2 D.2.1.1 D.2.1.2 D.2.2.1 D.2.2.2.1 D.2.2.2.2.1 D.2.2.2.2.2 sub = some (if SubP D sub then baseI D sub else (0, 0, 0), decide (SubP D sub), ()) := by
 unfold f19
 rw [f43_eq]
 simp only [Option.bind_some]
 by_cases F : FitP D
 case neg =>
  have : ¬ SubP D sub := fun h => F h.1
  rw [decide_eq_false F, decide_eq_false this, if_neg this]; rfl
 rw [decide_eq_true F]
 simp only [Bool.not_true, cond_false]
 by_cases h0 : sub < 0
 ·have : ¬ SubP D sub := fun h => by have := h.2.1; omega
  rw [decide_eq_true h0, decide_eq_false this, if_neg this]; rfl
 rw [decide_eq_false h0, f49_eq]
 simp only [cond_false, Option.bind_some]
 have ex : sizeI D.1.1 D.1.2 = szX D := rfl
 by_cases h1 : szX D ≤ sub
 ·have : ¬ SubP D sub := fun h => by have := h.2.2; omega
  rw [ex, decide_eq_true h1, decide_eq_false this, if_neg this]; rfl
 have hS : SubP D sub := ⟨F, by omega, by omega⟩
 rw [ex, decide_eq_false h1, f78_fit F.x1 F.y1, f103_fit F, decide_eq_true hS, if_pos hS]
 simp only [cond_false, Option.bind_some]
 have er : ratI (sizeI D.1.1 D.1.2) (sizeI D.2.1.1 D.2.1.2) = rat D := rfl
 rw [er]
 have hr := F.rat1
 have he := F.each1
 obtain ⟨q1, q2, q3, q4, q5⟩ := F.base (sub := sub) (by omega) (by omega)
 rw [decide_eq_false (show ¬ rat D = 0 by omega)]
 simp only [Bool.not_false, cond_true]
 have t1 : Int.tdiv sub (rat D) = sub / rat D := Int.tdiv_eq_ediv_of_nonneg (by omega)
 have t2 : Int.tmod sub (rat D) = sub % rat D := Int.tmod_eq_emod_of_nonneg (by omega)
 have hy2 := F.y2
 have hhi := F.hi
 have hlo := F.lo1
 have hg := F.g1
 unfold baseI
 unfold baseFrom at q3 q4 ⊢
 rw [t1, t2]
 generalize sub % rat D * each D = k at q3 q4 q5 ⊢
 generalize each D = w at he q4 ⊢
 rw [w64 (x := sub / rat D) (by omega) (by omega), w64 (x := k) (by omega) (by omega), w64 (x := loI D + k) (by omega) (by omega), w64 (x := loI D + k + w) (by omega) (by omega), w64 (x := loI D + k + w - 1) (by omega) (by omega)]
theorem f50_eq : f50 D.1.1 D.1.2 D.2.1.1 D.2.1.2 D.2.2.1 D.2.2.2.1 D.2.2.2.2.1 D.2.2.2.2.2 = some (if FitP D then blks D else 0, ()) := by
 unfold f50
 rw [f43_eq]
 simp only [Option.bind_some]
 by_cases F : FitP D
 case neg => rw [decide_eq_false F, if_neg F]; rfl
 rw [decide_eq_true F, if_pos F]
 have h1 := F.h1
 have g1 := F.g1
 simp only [Bool.not_true, cond_false]
 rw [decide_eq_false (show ¬ wdI D = 0 by omega)]
 have e2 : Int.tdiv D.2.2.2.2.1 D.2.2.2.2.2 = blks D := Int.tdiv_eq_ediv_of_nonneg g1
 have p1 : 0 ≤ blks D := Int.ediv_nonneg g1 (by omega)
 have := F.blk
 rw [e2, w64 (by omega) (by omega)]
 rfl
theorem f18_eq (at' blk : Int) : f18 D.1.1 D.1.2 D.2.1.1 D.2.1.2 D.2.2.1 D.2.2.2.1 D.2.2.2.2.1 D.2.2.2.2.2 at' blk = some (if BlkP D at' blk then blkI D at' blk else (0, 0, 0), decide (BlkP D at' blk), ()) := by
 unfold f18
 rw [f49_eq, f50_eq]
 simp only [Option.bind_some]
 have ey : sizeI D.2.1.1 D.2.1.2 = szY D := rfl
 rw [ey]
 by_cases h0 : at' < 0
 ·have : ¬ BlkP D at' blk := fun h => by have := h.2.1.1; omega
  rw [decide_eq_true h0, decide_eq_false this, if_neg this]; rfl
 rw [decide_eq_false h0]
 simp only [cond_false]
 by_cases h1 : szY D ≤ at'
 ·have : ¬ BlkP D at' blk := fun h => by have := h.2.1.2; omega
  rw [decide_eq_true h1, decide_eq_false this, if_neg this]; rfl
 rw [decide_eq_false h1]
 simp only [cond_false]
 by_cases h2 : blk < 0
 ·have : ¬ BlkP D at' blk := fun h => by have := h.2.2.1; omega
  rw [decide_eq_true h2, decide_eq_false this, if_neg this]; rfl
 rw [decide_eq_false h2]
 simp only [cond_false]
 by_cases F : FitP D
 case neg =>
  have : ¬ BlkP D at' blk := fun h => F h.1
  rw [if_neg F, decide_eq_true (show (0 : Int) ≤ blk by omega), decide_eq_false this, if_neg this]; rfl
 rw [if_pos F]
 by_cases h3 : blks D ≤ blk
 ·have : ¬ BlkP D at' blk := fun h => by have := h.2.2.2; omega
  rw [decide_eq_true h3, decide_eq_false this, if_neg this]; rfl
 have hB : BlkP D at' blk := ⟨F, by omega, by omega, by omega⟩
 rw [decide_eq_false h3, decide_eq_true hB, if_pos hB]
 obtain ⟨q1, q2⟩ := F.block (blk := blk) (by omega) (by omega)
 have := F.g2
 have := F.hi
 have := F.lo1
 have := F.h1
 have := F.g1
 simp only [cond_false]
 unfold blkI
 generalize blk * wdI D = k at q1 q2 ⊢
 rw [w64 (x := k) (by omega) (by omega), w64 (x := hiI D - dynI D) (by omega) (by omega), w64 (x := hiI D - dynI D + 1) (by omega) (by omega), w64 (x := hiI D - dynI D + 1 + k) (by omega) (by omega), w64 (x := hiI D - dynI D + 1 + k + wdI D) (by omega) (by omega), w64 (x := hiI D - dynI D + 1 + k + wdI D - 1) (by omega) (by omega)]
end
theorem f55_eq (a b c at' : Int) : f55 a b c at' = some (hasB (a, b, c) at', ()) := by
 unfold f55 hasB
 by_cases h1 : 0 ≤ a
 ·rw [decide_eq_true h1]
  by_cases h2 : a ≤ 4
  ·rw [decide_eq_true h2]
   by_cases h3 : 1 ≤ b
   ·rw [decide_eq_true h3]
    by_cases h4 : b ≤ 4
    ·rw [decide_eq_true h4, w64 (x := a + b) (by omega) (by omega)]
     cases decide (a ≤ at') <;> rfl
    ·rw [decide_eq_false h4]; rfl
   ·rw [decide_eq_false h3]; rfl
  ·rw [decide_eq_false h2]; rfl
 ·rw [decide_eq_false h1]; rfl
theorem f20_eq (l : List HT) (hl : Sz l) (at' : Int) : f20 l at' = some (poolOf l at', ()) := by
 unfold f20
 have e : iter big u20_53_2_0 ((l, (), ((l.length : Nat) : Int), 0, ()), ((at', ()), ()), ()) = _ :=
  it_idx l (fun p => hasB p at') (fun j => ((l, (), ((l.length : Nat) : Int), ((j : Nat) : Int), ()), ((at', ()), ()), ())) (fun j => ((((j : Nat) : Int), ()), ((at', ()), ()), ()))
   (y := ((), ((at', ()), ()), ())) (fun j h => by
    simp only [u20_53_2_0, t20_53_2_0, ltn h, ge0, cond_true, Bool.and_self, Int.toNat_natCast, rdH h, f55_eq, Option.bind_some, nx h hl])
   (by simp only [u20_53_2_0, t20_53_2_0, nlt, cond_false]) (fuel := big) (by unfold big; omega)
 rw [e]
 unfold poolOf
 split <;> rfl
theorem f94_eq (a b c d : Int) : f94 a b c d = some (decide (ltB c d a b), ()) := by
 unfold f94
 by_cases h1 : c < a
 ·rw [decide_eq_true h1, decide_eq_true (show ltB c d a b from .inl h1)]; rfl
 ·rw [decide_eq_false h1]
  by_cases h2 : a = c
  ·rw [decide_eq_true h2]
   have : (d < b) ↔ ltB c d a b := by unfold ltB; omega
   simp only [cond_false, cond_true, decide_eq_decide.2 this]
  ·rw [decide_eq_false h2, decide_eq_false (show ¬ ltB c d a b by unfold ltB; omega)]; rfl
theorem f57_eq (a b c d e : Int) : f57 a b c d e = some ((b, c), ()) := by unfold f57 f98; rfl
theorem f22_eq (l : List LT) (hl : Sz l) (a b : Int) : f22 l a b = some (findL l a b, ()) := by
 unfold f22
 have e : iter big u22_96_2_0 ((l, (), ((l.length : Nat) : Int), 0, ()), ((a, b, ()), ((), ()), ()), ()) = _ :=
  it_idx l (isL a b) (fun j => ((l, (), ((l.length : Nat) : Int), ((j : Nat) : Int), ()), ((a, b, ()), ((), ()), ()), ())) (fun j => ((((j : Nat) : Int), ()), ((a, b, ()), ((), ()), ()), ()))
   (y := ((), ((a, b, ()), ((), ()), ()), ())) (fun j h => by
    simp only [u22_96_2_0, t22_96_2_0, ltn h, ge0, cond_true, Bool.and_self, Int.toNat_natCast, rdL h, f57_eq, Option.bind_some, isL, Bool.and_true, nx h hl])
   (by simp only [u22_96_2_0, t22_96_2_0, nlt, cond_false]) (fuel := big) (by unfold big; omega)
 rw [e]
 unfold findL
 split <;> rfl
theorem f91_eq {p q : HT} {out : Int} (hp : FitsP p out) (hq : FitsP q out) (ho : out ≤ 4) : f91 p.1 p.2.1 p.2.2 q.1 q.2.1 q.2.2 = some (meetB p q, ()) := by
 obtain ⟨p1, p2, p3, p4, _⟩ := hp
 obtain ⟨q1, q2, q3, q4, _⟩ := hq
 unfold f91 meetB
 rw [w64 (x := q.1 + q.2.1) (by omega) (by omega), w64 (x := p.1 + p.2.1) (by omega) (by omega)]
 cases decide (p.1 < q.1 + q.2.1) <;> rfl
theorem f92_eq (p : HT) (out : Int) (h0 : 0 ≤ out) (h1 : out ≤ 4) : f92 p.1 p.2.1 p.2.2 out = some (decide (FitsP p out), ()) := by
 unfold f92 FitsP
 by_cases c1 : 0 ≤ p.1
 ·by_cases c2 : 1 ≤ p.2.1
  ·by_cases c3 : p.1 < out
   ·rw [w64 (x := out - p.1) (by omega) (by omega)]
    by_cases c4 : p.2.1 ≤ out - p.1
    ·by_cases c5 : 0 ≤ p.2.2
     ·simp [c1, c2, c3, c4, c5]
     ·simp [c1, c2, c3, c4, c5]
    ·simp [c1, c2, c3, c4]
   ·simp [c1, c2, c3]
  ·simp [c1, c2]
 ·simp [c1]
def POK (M : List HT) (out : Int) : Prop := (∀ p ∈ M, FitsP p out) ∧ M.Pairwise fun p q => meetB q p = false
theorem POK.take {l : List HT} {out : Int} (h : POK l out) (j : Nat) : POK (l.take j) out :=
 ⟨fun p hp => h.1 p (List.mem_of_mem_take hp), h.2.sublist (List.take_sublist j l)⟩
theorem POK.snoc {l : List HT} {out : Int} {j : Nat} (hj : j < l.length) : POK (l.take (j + 1)) out ↔ POK (l.take j) out ∧ FitsP l[j] out ∧ (l.take j).any (fun q => meetB l[j] q) = false := by
 rw [take_snoc hj]
 unfold POK
 rw [List.pairwise_append]
 constructor
 ·intro ⟨h1, h2, h3, h4⟩
  refine ⟨⟨fun p hp => h1 p (List.mem_append.2 (.inl hp)), h2⟩, h1 _ (List.mem_append.2 (.inr (List.mem_singleton.2 rfl))), ?_⟩
  rw [List.any_eq_false]
  intro q hq
  rw [h4 q hq _ (List.mem_singleton.2 rfl)]; simp
 ·intro ⟨⟨h1, h2⟩, h3, h4⟩
  refine ⟨fun p hp => ?_, h2, List.pairwise_singleton _ _, fun a ha b hb => ?_⟩
  ·rcases List.mem_append.1 hp with hp | hp
   ·exact h1 p hp
   ·rw [List.mem_singleton] at hp; rw [hp]; exact h3
  ·rw [List.mem_singleton] at hb; subst hb
   rw [List.any_eq_false] at h4
   simpa using h4 a ha
theorem inner41 (l : List HT) (hl : Sz l) (p : HT) (out : Int) (hp : FitsP p out) (ho : out ≤ 4) (hf : ∀ q ∈ l, FitsP q out) :
  iter big u45_53_2_0 ((l, (), ((l.length : Nat) : Int), 0, ()), ((p.1, p.2.1, p.2.2, ()), ()), ()) =
   some (if l.findIdx (fun q => meetB p q) < l.length then .inr ((((l.findIdx (fun q => meetB p q) : Nat) : Int), ()), ((p.1, p.2.1, p.2.2, ()), ()), ()) else .inl ((), ((p.1, p.2.1, p.2.2, ()), ()), ())) :=
 it_idx l (fun q => meetB p q) (fun j => ((l, (), ((l.length : Nat) : Int), ((j : Nat) : Int), ()), ((p.1, p.2.1, p.2.2, ()), ()), ())) (fun j => ((((j : Nat) : Int), ()), ((p.1, p.2.1, p.2.2, ()), ()), ()))
  (y := ((), ((p.1, p.2.1, p.2.2, ()), ()), ())) (fun j h => by
   simp only [u45_53_2_0, t45_53_2_0, ltn h, ge0, cond_true, Bool.and_self, Int.toNat_natCast, rdH h, f91_eq hp (hf _ (List.getElem_mem h)) ho, Option.bind_some, nx h hl])
  (by simp only [u45_53_2_0, t45_53_2_0, nlt, cond_false]) (fuel := big) (by unfold big; omega)
theorem f45_eq (l : List HT) (out : Int) : f45 l out = some (decide (PoolsP l out), ()) := by
 unfold f45
 by_cases h0 : out < 0
 ·rw [decide_eq_true h0, decide_eq_false (show ¬ PoolsP l out from fun h => by have := h.out0; omega)]; rfl
 rw [decide_eq_false h0]
 by_cases h4 : 4 < out
 ·rw [decide_eq_true h4, decide_eq_false (show ¬ PoolsP l out from fun h => by have := h.out4; omega)]; rfl
 rw [decide_eq_false h4]
 by_cases h3 : 3 < l.length
 ·rw [decide_eq_true (show (3 : Int) < ((l.length : Nat) : Int) by omega), decide_eq_false (show ¬ PoolsP l out from fun h => by have := h.len; omega)]; rfl
 rw [decide_eq_false (show ¬ (3 : Int) < ((l.length : Nat) : Int) by omega)]
 simp only [cond_false]
 let st : Nat → X45_4 := fun j => ((l, out, l, ((l.length : Nat) : Int), ((j : Nat) : Int), ()), (), ())
 obtain ⟨r, e1, e2⟩ := it_inv (f := u45_4) (fun x => ∃ j, x = st j ∧ j ≤ l.length ∧ POK (l.take j) out) (fun x => l.length - x.1.2.2.2.2.1.toNat)
  (fun r => match r with
   | .inl _ => POK l out
   | .inr z => z.1.1 = false ∧ ¬ POK l out) (by
  rintro x ⟨j, rfl, hj1, hj2⟩
  rcases Nat.lt_or_ge j l.length with hlt | hge
  ·have hb1 := f92_eq l[j] out (by omega) (by omega)
   have hsn := POK.snoc (out := out) hlt
   by_cases hfit : FitsP l[j] out
   case neg =>
    rw [decide_eq_false hfit] at hb1
    refine .inr (.inr ⟨((false, ()), (), ()), ?_, rfl, fun h => hfit (hsn.1 (h.take _)).2.1⟩)
    simp only [st, u45_4, t45_4, ltn hlt, ge0, cond_true, Bool.and_self, Int.toNat_natCast, rdH hlt, hb1, Option.bind_some, Bool.not_false]
   rw [decide_eq_true hfit] at hb1
   have htake : List.drop 0 (List.take j l) = l.take j := by simp
   have hin := inner41 (l.take j) (by unfold Sz; simp; omega) l[j] out hfit (by omega) hj2.1
   have hle : decide (((j : Nat) : Int) ≤ ((l.length : Nat) : Int)) = true := decide_eq_true (by omega)
   by_cases hm : (l.take j).findIdx (fun q => meetB l[j] q) < (l.take j).length
   ·rw [if_pos hm] at hin
    refine .inr (.inr ⟨((false, ()), (), ()), ?_, rfl, fun h => ?_⟩)
    ·simp only [st, u45_4, t45_4, ltn hlt, ge0, cond_true, Bool.and_self, Int.toNat_natCast, rdH hlt, hb1, Option.bind_some, Bool.not_true, cond_false, hle, htake, hin]
    ·have h1 := (hsn.1 (h.take _)).2.2
     rw [← idx_none, if_pos hm] at h1
     omega
   ·rw [if_neg hm] at hin
    have hno : (l.take j).any (fun q => meetB l[j] q) = false := by rw [← idx_none, if_neg hm]
    refine .inl ⟨st (j + 1), ?_, ⟨j + 1, rfl, by omega, hsn.2 ⟨hj2, hfit, hno⟩⟩, ?_⟩
    ·simp only [st, u45_4, t45_4, ltn hlt, ge0, cond_true, Bool.and_self, Int.toNat_natCast, rdH hlt, hb1, Option.bind_some, Bool.not_true, cond_false, hle, htake, hin, nx hlt (show l.length ≤ 9223372036854775807 by omega)]
    ·show l.length - Int.toNat (((j + 1 : Nat) : Int)) < l.length - Int.toNat ((j : Nat) : Int)
     omega
  ·have : j = l.length := by omega
   subst this
   refine .inr (.inl ⟨((), (), ()), ?_, ?_⟩)
   ·simp only [st, u45_4, t45_4, nlt, cond_false]
   ·rw [List.take_length] at hj2; exact hj2)
  big (st 0) ⟨0, rfl, by omega, by rw [List.take_zero]; exact ⟨by simp, by simp⟩⟩ (by simp only [st]; unfold big; omega)
 have e1' : iter big u45_4 ((l, out, l, ((l.length : Nat) : Int), 0, ()), (), ()) = some r := e1
 rw [e1']
 cases r with
 | inl y =>
  have e2 : POK l out := e2
  rw [decide_eq_true (show PoolsP l out from ⟨by omega, by omega, by omega, e2.1, e2.2⟩)]; rfl
 | inr z =>
  obtain ⟨k1, k2⟩ := e2
  rw [decide_eq_false (show ¬ PoolsP l out from fun h => k2 ⟨h.fits, h.apart⟩)]
  show some (z.1.1, ()) = _
  rw [k1]
theorem f28_eq (p : PT) : f28 p.1 p.2.1 p.2.2.1 p.2.2.2 = some (decide (PolP p), ()) := by
 unfold f28 PolP
 simp only [f44_eq, Option.bind_some, and_dec]
 by_cases h1 : 1 ≤ p.1 ∧ p.1 ≤ 8
 ·by_cases h2 : 1 ≤ p.2.1 ∧ p.2.1 ≤ 1048576
  ·simp [h1, h2]
  ·rw [decide_eq_true h1, decide_eq_false h2]
   simp [h2]
 ·rw [decide_eq_false h1]; simp [h1]
theorem mPut_cons (p : Int × Int) (l : List (Int × Int)) (x v : Int) : mPut (p :: l) x v = if x = p.1 then (p.1, v) :: l else p :: mPut l x v := by
 unfold mPut
 by_cases h : x = p.1
 ·simp [mHas, mIdx, mSet, h]
 ·rw [if_neg h]
  simp only [mHas, mIdx, decide_eq_false h, cond_false]
  cases mHas l x <;> rfl
theorem mVal_put (x v y : Int) : ∀ (l : List (Int × Int)), mVal (mPut l x v) y = if y = x then v else mVal l y
 | [] => by
  show mVal [(x, v)] y = _
  by_cases h : y = x <;> simp [mVal, h]
 | p :: l => by
  rw [mPut_cons]
  by_cases h : x = p.1
  ·rw [if_pos h]
   simp only [mVal]
   by_cases h2 : y = p.1
   ·simp [h2, h]
   ·rw [decide_eq_false h2, if_neg (by rw [h]; exact h2)]; rfl
  ·rw [if_neg h]
   simp only [mVal]
   by_cases h2 : y = p.1
   ·rw [decide_eq_true h2, if_neg (by rw [h2]; exact fun e => h e.symm)]; rfl
   ·rw [decide_eq_false h2]
    simp only [cond_false]
    exact mVal_put x v y l
section
variable {D : DT} {p : PT} {now : Int} {P H : List HT} {L : List LT}
abbrev st43 (D : DT) (p : PT) (now : Int) (P : List HT) (L : List LT) (H : List HT) (j : Nat) (mp : List (Int × Int)) : X47_3 :=
 (((), (), L, ((L.length : Nat) : Int), ((j : Nat) : Int), ()), ((D.1.1, D.1.2, D.2.1.1, D.2.1.2, D.2.2.1, D.2.2.2.1, D.2.2.2.2.1, D.2.2.2.2.2, p.1, p.2.1, p.2.2.1, p.2.2.2, now, P, L, H, ()), mp, ()), ())
theorem cnt_le (L : List LT) (s : Int) : cnt L s ≤ L.length := List.countP_le_length
theorem step43 (hp : PolP p) (h0 : 0 ≤ now) (h1 : now ≤ 1073741824) (hP : Sz P) (hL : Sz L) (j : Nat) (mp : List (Int × Int)) (hj : j < L.length) (hmp : ∀ s, mVal mp s = ((cnt (L.take j) s : Nat) : Int)) :
  (u47_3 (st43 D p now P L H j mp) = some (.ret ((false, ()), (), ())) ∧ ¬ (LeaseOK D p now P L[j] ∧ ((cnt (L.take j) L[j].1 + 1 : Nat) : Int) ≤ p.1 ∧ ∀ (h0 : 0 < j), ltL (L[j - 1]'(by omega)) L[j])) ∨
  ((∃ mp', u47_3 (st43 D p now P L H j mp) = some (.next (st43 D p now P L H (j + 1) mp')) ∧ ∀ s, mVal mp' s = ((cnt (L.take (j + 1)) s : Nat) : Int)) ∧
   LeaseOK D p now P L[j] ∧ ((cnt (L.take j) L[j].1 + 1 : Nat) : Int) ≤ p.1 ∧ ∀ (h0 : 0 < j), ltL (L[j - 1]'(by omega)) L[j]) := by
 obtain ⟨p1, p2, p3, pr⟩ := p
 have hc : cnt (L.take j) L[j].1 ≤ j := Nat.le_trans (cnt_le _ _) (by rw [List.length_take]; omega)
 have hv : mVal mp L[j].1 + 1 = ((cnt (L.take j) L[j].1 + 1 : Nat) : Int) := by rw [hmp]; omega
 have hw : IntKind.wrap .i64 (mVal mp L[j].1 + 1) = ((cnt (L.take j) L[j].1 + 1 : Nat) : Int) := by rw [w64 (by omega) (by unfold Sz at hL; omega), hv]
 have hi : IntKind.wrap .i64 (now - p2) = now - p2 := by have h2 : 1 ≤ p2 ∧ p2 ≤ 1048576 := hp.2.1; exact w64 (by omega) (by omega)
 simp only [st43, u47_3, t47_3, ltn hj, ge0, cond_true, Bool.and_self, Int.toNat_natCast, rdL hj, f19_eq, f18_eq, Option.bind_some, f20_eq P hP, nx hj hL, mVal_put, if_true, hw, hi]
 by_cases hS : SubP D L[j].1
 case neg => rw [decide_eq_false hS]; exact .inl ⟨rfl, fun h => hS h.1.sub⟩
 rw [decide_eq_true hS, if_pos hS]
 by_cases hB : BlkP D L[j].2.1 L[j].2.2.1
 case neg => rw [decide_eq_false hB]; exact .inl ⟨rfl, fun h => hB h.1.blk⟩
 rw [decide_eq_true hB]
 simp only [Bool.not_true, cond_false]
 by_cases hI : poolOf P L[j].2.1 = -1
 ·rw [decide_eq_true hI]
  refine .inl ⟨rfl, fun h => ?_⟩
  have := h.1.pool
  rw [(poolOf_none _ _).1 hI] at this
  simp at this
 rw [decide_eq_false hI]
 have hpool : inB P L[j].2.1 = true := by
  cases hb : inB P L[j].2.1 with
  | true => rfl
  | false => exact absurd ((poolOf_none _ _).2 hb) hI
 simp only [cond_false]
 have hlt1 : 0 < j → j - 1 < L.length := fun _ => by omega
 have fin : ∀ (hpr : pr = true → L[j].1 / rat D = L[j].2.1) (X : Option (R3 X47_3 Y47_3 Z47_3)),
   X = (cond (decide (p1 < ((cnt (L.take j) L[j].1 + 1 : Nat) : Int))) (some (.ret ((false, ()), (), ()))) (cond (decide (L[j].2.2.2.1 < 0)) (some (.ret ((false, ()), (), ()))) (cond (decide (L[j].2.2.2.2 < L[j].2.2.2.1)) (some (.ret ((false, ()), (), ())))
    (cond (decide (now < L[j].2.2.2.2)) (some (.ret ((false, ()), (), ()))) (cond (decide (L[j].2.2.2.2 ≤ now - p2)) (some (.ret ((false, ()), (), ())))
     (if (∀ (h0 : 0 < j), ltL (L[j - 1]'(by omega)) L[j]) then some (.next (st43 D (p1, p2, p3, pr) now P L H (j + 1) (mPut mp L[j].1 ((cnt (L.take j) L[j].1 + 1 : Nat) : Int)))) else some (.ret ((false, ()), (), ())))))))) →
   (X = some (.ret ((false, ()), (), ())) ∧ ¬ (LeaseOK D (p1, p2, p3, pr) now P L[j] ∧ ((cnt (L.take j) L[j].1 + 1 : Nat) : Int) ≤ p1 ∧ ∀ (h0 : 0 < j), ltL (L[j - 1]'(by omega)) L[j])) ∨
   ((∃ mp', X = some (.next (st43 D (p1, p2, p3, pr) now P L H (j + 1) mp')) ∧ ∀ s, mVal mp' s = ((cnt (L.take (j + 1)) s : Nat) : Int)) ∧
    LeaseOK D (p1, p2, p3, pr) now P L[j] ∧ ((cnt (L.take j) L[j].1 + 1 : Nat) : Int) ≤ p1 ∧ ∀ (h0 : 0 < j), ltL (L[j - 1]'(by omega)) L[j]) := by
  intro hpr X hX
  subst hX
  by_cases c1 : p1 < ((cnt (L.take j) L[j].1 + 1 : Nat) : Int)
  ·rw [decide_eq_true c1]; exact .inl ⟨rfl, fun h => by have := h.2.1; omega⟩
  rw [decide_eq_false c1]
  by_cases c2 : L[j].2.2.2.1 < 0
  ·rw [decide_eq_true c2]; exact .inl ⟨rfl, fun h => by have := h.1.from0; omega⟩
  rw [decide_eq_false c2]
  by_cases c3 : L[j].2.2.2.2 < L[j].2.2.2.1
  ·rw [decide_eq_true c3]; exact .inl ⟨rfl, fun h => by have := h.1.last1; omega⟩
  rw [decide_eq_false c3]
  by_cases c4 : now < L[j].2.2.2.2
  ·rw [decide_eq_true c4]; exact .inl ⟨rfl, fun h => by have := h.1.last2; omega⟩
  rw [decide_eq_false c4]
  by_cases c5 : L[j].2.2.2.2 ≤ now - p2
  ·rw [decide_eq_true c5]; exact .inl ⟨rfl, fun h => by have : now - p2 < L[j].2.2.2.2 := h.1.idle; omega⟩
  rw [decide_eq_false c5]
  simp only [cond_false]
  by_cases c6 : ∀ (h0 : 0 < j), ltL (L[j - 1]'(by omega)) L[j]
  ·rw [if_pos c6]
   refine .inr ⟨⟨_, rfl, fun s => ?_⟩, ⟨hS, hB, hpool, hpr, by omega, by omega, by omega, show now - p2 < L[j].2.2.2.2 by omega⟩, by show _ ≤ p1; omega, c6⟩
   rw [mVal_put, take_snoc hj, cnt_snoc, hmp]
   by_cases e : s = L[j].1
   ·subst e; rw [if_pos rfl, if_pos rfl]
   ·rw [if_neg e, if_neg (fun h => e h.symm)]; rfl
  ·rw [if_neg c6]; exact .inl ⟨rfl, fun h => c6 h.2.2⟩
 have tail : ∀ (N : R3 X47_3 Y47_3 Z47_3), (cond (decide ((0 : Int) < ((j : Nat) : Int)))
   (cond (decide (0 ≤ IntKind.wrap .i64 (((j : Nat) : Int) - 1)) && decide (IntKind.wrap .i64 (((j : Nat) : Int) - 1) < ((L.length : Nat) : Int)))
    (cond (decide (0 ≤ IntKind.wrap .i64 (((j : Nat) : Int) - 1)) && decide (IntKind.wrap .i64 (((j : Nat) : Int) - 1) < ((L.length : Nat) : Int)))
     ((f94 L[j].2.1 L[j].2.2.1 (rd (.pair (.int .i64) (.pair (.int .i64) (.pair (.int .i64) (.pair (.int .i64) (.int .i64))))) L (Int.toNat (IntKind.wrap .i64 (((j : Nat) : Int) - 1)))).2.1 (rd (.pair (.int .i64) (.pair (.int .i64) (.pair (.int .i64) (.pair (.int .i64) (.int .i64))))) L (Int.toNat (IntKind.wrap .i64 (((j : Nat) : Int) - 1)))).2.2.1).bind fun y24 =>
      cond (!y24.1) (some (R3.ret ((false, ()), (), ()))) (some N))
     none) none) (some N)) = if (∀ (h0 : 0 < j), ltL (L[j - 1]'(by omega)) L[j]) then some N else some (.ret ((false, ()), (), ())) := by
  intro N
  by_cases h0 : 0 < j
  ·have hw : IntKind.wrap .i64 (((j : Nat) : Int) - 1) = ((j - 1 : Nat) : Int) := by rw [w64 (by omega) (by unfold Sz at hL; omega)]; omega
   rw [decide_eq_true (show (0 : Int) < ((j : Nat) : Int) by omega), hw, ge0, ltn (hlt1 h0), Int.toNat_natCast, rdL (hlt1 h0), f94_eq]
   simp only [cond_true, Bool.and_self, Option.bind_some]
   by_cases hl : ltL (L[j - 1]'(by omega)) L[j]
   ·rw [if_pos (fun _ => hl)]
    unfold ltL at hl
    rw [decide_eq_true hl]; rfl
   ·rw [if_neg (fun h => hl (h h0))]
    unfold ltL at hl
    rw [decide_eq_false hl]; rfl
  ·rw [decide_eq_false (show ¬ (0 : Int) < ((j : Nat) : Int) by omega), if_pos (fun h => absurd h h0)]; rfl
 have hbase : (baseI D L[j].1).1 = L[j].1 / rat D := rfl
 cases pr with
 | true =>
  simp only [cond_true, if_true, hbase]
  by_cases hq : L[j].1 / rat D = L[j].2.1
  ·rw [decide_eq_true hq]
   simp only [Bool.not_true, cond_false]
   refine fin (fun _ => hq) _ ?_
   rw [tail]
  ·rw [decide_eq_false hq]
   exact .inl ⟨rfl, fun h => hq (h.1.pair rfl)⟩
 | false =>
  simp only [cond_false]
  refine fin (fun h => by simp at h) _ ?_
  rw [tail]
theorem f47_eq (hp : PolP p) (h0 : 0 ≤ now) (h1 : now ≤ 1073741824) (hP : Sz P) (hL : Sz L) :
  f47 D.1.1 D.1.2 D.2.1.1 D.2.1.2 D.2.2.1 D.2.2.2.1 D.2.2.2.2.1 D.2.2.2.2.2 p.1 p.2.1 p.2.2.1 p.2.2.2 now P L H = some (decide (LeasesP D p now P L ∧ L.length ≤ 32), ()) := by
 unfold f47
 obtain ⟨r, e1, e2⟩ := it_inv (f := u47_3) (fun x => ∃ j mp, x = st43 D p now P L H j mp ∧ j ≤ L.length ∧ LeasesP D p now P (L.take j) ∧ ∀ s, mVal mp s = ((cnt (L.take j) s : Nat) : Int)) (fun x => L.length - x.1.2.2.2.2.1.toNat)
  (fun r => match r with
   | .inl y => LeasesP D p now P L ∧ y.2.1.1.2.2.2.2.2.2.2.2.2.2.2.2.2.2.1 = L
   | .inr z => z.1.1 = false ∧ ¬ LeasesP D p now P L) (by
  rintro x ⟨j, mp, rfl, hj1, hj2, hmp⟩
  rcases Nat.lt_or_ge j L.length with hlt | hge
  ·rcases step43 (D := D) (H := H) hp h0 h1 hP hL j mp hlt hmp with ⟨hs, hn⟩ | ⟨⟨mp', hs, hm'⟩, k⟩
   ·exact .inr (.inr ⟨_, hs, rfl, fun h => hn ((LeasesP.snoc hlt (h.take j)).1 (h.take (j + 1)))⟩)
   ·refine .inl ⟨_, hs, ⟨j + 1, mp', rfl, by omega, (LeasesP.snoc hlt hj2).2 k, hm'⟩, ?_⟩
    show L.length - Int.toNat (((j + 1 : Nat) : Int)) < L.length - Int.toNat ((j : Nat) : Int)
    omega
  ·have : j = L.length := by omega
   subst this
   refine .inr (.inl ⟨_, by simp only [st43, u47_3, t47_3, nlt, cond_false]; rfl, ?_, rfl⟩)
   rw [List.take_length] at hj2; exact hj2)
  big (st43 D p now P L H 0 []) ⟨0, [], rfl, by omega, by rw [List.take_zero]; exact LeasesP.nil, fun s => by rw [List.take_zero]; rfl⟩ (by
   show L.length - Int.toNat ((0 : Nat) : Int) < big
   unfold big; unfold Sz at hL; omega)
 have e1' : iter big u47_3 (((), (), L, ((L.length : Nat) : Int), 0, ()), ((D.1.1, D.1.2, D.2.1.1, D.2.1.2, D.2.2.1, D.2.2.2.1, D.2.2.2.2.1, D.2.2.2.2.2, p.1, p.2.1, p.2.2.1, p.2.2.2, now, P, L, H, ()), [], ()), ()) = some r := e1
 rw [e1']
 cases r with
 | inl y =>
  obtain ⟨k1, k2⟩ := e2
  simp only [Option.bind_some, k2]
  have : (((L.length : Nat) : Int) ≤ 32) ↔ (LeasesP D p now P L ∧ L.length ≤ 32) := ⟨fun h => ⟨k1, by omega⟩, fun h => by have := h.2; omega⟩
  rw [decide_eq_decide.2 this]
 | inr z =>
  obtain ⟨k1, k2⟩ := e2
  simp only [Option.bind_some, k1]
  rw [decide_eq_false (fun h => k2 h.1)]
abbrev st44 (D : DT) (p : PT) (now : Int) (P : List HT) (L : List LT) (H : List HT) (j : Nat) : X48_2 :=
 (((), H, ((H.length : Nat) : Int), ((j : Nat) : Int), ()), ((D.1.1, D.1.2, D.2.1.1, D.2.1.2, D.2.2.1, D.2.2.2.1, D.2.2.2.2.1, D.2.2.2.2.2, p.1, p.2.1, p.2.2.1, p.2.2.2, now, P, L, H, ()), ()), ())
theorem step44 (h0 : 0 ≤ now) (h1 : now ≤ 1073741824) (hL : Sz L) (hH : Sz H) (j : Nat) (hj : j < H.length) :
  (u48_2 (st44 D p now P L H j) = some (.ret ((false, ()), (), ())) ∧ ¬ (HeldOK D now L H[j] ∧ ∀ (h0 : 0 < j), ltH (H[j - 1]'(by omega)) H[j])) ∨
  (u48_2 (st44 D p now P L H j) = some (.next (st44 D p now P L H (j + 1))) ∧ HeldOK D now L H[j] ∧ ∀ (h0 : 0 < j), ltH (H[j - 1]'(by omega)) H[j]) := by
 simp only [st44, u48_2, t48_2, ltn hj, ge0, cond_true, Bool.and_self, Int.toNat_natCast, rdH hj, f18_eq, f44_eq, Option.bind_some, f22_eq L hL, nx hj hH,
  w64 (show -9223372036854775808 ≤ now + 1 by omega) (by omega), w64 (show -9223372036854775808 ≤ now + 1048576 by omega) (by omega)]
 by_cases hB : BlkP D H[j].1 H[j].2.1
 case neg => rw [decide_eq_false hB]; exact .inl ⟨rfl, fun h => hB h.1.blk⟩
 rw [decide_eq_true hB]
 simp only [Bool.not_true, cond_false]
 by_cases hT : now + 1 ≤ H[j].2.2 ∧ H[j].2.2 ≤ now + 1048576
 case neg => rw [and_dec, decide_eq_false hT]; exact .inl ⟨rfl, fun h => hT ⟨h.1.till1, h.1.till2⟩⟩
 rw [and_dec, decide_eq_true hT]
 simp only [Bool.not_true, cond_false]
 by_cases hI : findL L H[j].1 H[j].2.1 = -1
 case neg =>
  rw [decide_eq_false hI]
  exact .inl ⟨rfl, fun h => hI ((findL_none _ _ _).2 h.1.free)⟩
 rw [decide_eq_true hI]
 simp only [Bool.not_true, cond_false]
 have hOK : HeldOK D now L H[j] := ⟨hB, hT.1, hT.2, (findL_none _ _ _).1 hI⟩
 by_cases hj0 : 0 < j
 ·have hw : IntKind.wrap .i64 (((j : Nat) : Int) - 1) = ((j - 1 : Nat) : Int) := by rw [w64 (by omega) (by unfold Sz at hH; omega)]; omega
  have hl1 : j - 1 < H.length := by omega
  rw [decide_eq_true (show (0 : Int) < ((j : Nat) : Int) by omega), hw, ge0, ltn hl1, Int.toNat_natCast, rdH hl1, f94_eq]
  simp only [cond_true, Bool.and_self, Option.bind_some]
  by_cases hl : ltH (H[j - 1]'(by omega)) H[j]
  ·unfold ltH at hl
   rw [decide_eq_true hl]
   exact .inr ⟨rfl, hOK, fun _ => hl⟩
  ·have hl' := hl
   unfold ltH at hl'
   rw [decide_eq_false hl']
   exact .inl ⟨rfl, fun h => hl (h.2 hj0)⟩
 ·rw [decide_eq_false (show ¬ (0 : Int) < ((j : Nat) : Int) by omega)]
  exact .inr ⟨rfl, hOK, fun h => absurd h hj0⟩
theorem f48_eq (h0 : 0 ≤ now) (h1 : now ≤ 1073741824) (hL : Sz L) (hH : Sz H) :
  f48 D.1.1 D.1.2 D.2.1.1 D.2.1.2 D.2.2.1 D.2.2.2.1 D.2.2.2.2.1 D.2.2.2.2.2 p.1 p.2.1 p.2.2.1 p.2.2.2 now P L H = some (decide (HeldsP D now L H), ()) := by
 unfold f48
 obtain ⟨r, e1, e2⟩ := it_inv (f := u48_2) (fun x => ∃ j, x = st44 D p now P L H j ∧ j ≤ H.length ∧ HeldsP D now L (H.take j)) (fun x => H.length - x.1.2.2.2.1.toNat)
  (fun r => match r with
   | .inl y => HeldsP D now L H
   | .inr z => z.1.1 = false ∧ ¬ HeldsP D now L H) (by
  rintro x ⟨j, rfl, hj1, hj2⟩
  rcases Nat.lt_or_ge j H.length with hlt | hge
  ·rcases step44 (D := D) (p := p) (P := P) h0 h1 hL hH j hlt with ⟨hs, hn⟩ | ⟨hs, k⟩
   ·exact .inr (.inr ⟨_, hs, rfl, fun h => hn ((HeldsP.snoc hlt (h.take j)).1 (h.take (j + 1)))⟩)
   ·refine .inl ⟨_, hs, ⟨j + 1, rfl, by omega, (HeldsP.snoc hlt hj2).2 k⟩, ?_⟩
    show H.length - Int.toNat (((j + 1 : Nat) : Int)) < H.length - Int.toNat ((j : Nat) : Int)
    omega
  ·have : j = H.length := by omega
   subst this
   refine .inr (.inl ⟨((), (), ()), ?_, ?_⟩)
   ·simp only [st44, u48_2, t48_2, nlt, cond_false]
   ·rw [List.take_length] at hj2; exact hj2)
  big (st44 D p now P L H 0) ⟨0, rfl, by omega, by rw [List.take_zero]; exact HeldsP.nil⟩ (by
   show H.length - Int.toNat ((0 : Nat) : Int) < big
   unfold big; unfold Sz at hH; omega)
 have e1' : iter big u48_2 (((), H, ((H.length : Nat) : Int), 0, ()), ((D.1.1, D.1.2, D.2.1.1, D.2.1.2, D.2.2.1, D.2.2.2.1, D.2.2.2.2.1, D.2.2.2.2.2, p.1, p.2.1, p.2.2.1, p.2.2.2, now, P, L, H, ()), ()), ()) = some r := e1
 rw [e1']
 cases r with
 | inl y =>
  have e2 : HeldsP D now L H := e2
  rw [decide_eq_true e2]; rfl
 | inr z =>
  obtain ⟨k1, k2⟩ := e2
  simp only [Option.bind_some, k1]
  rw [decide_eq_false k2]
end
theorem f15_eq (s : ST) (hP : Sz s.2.2.2.1) (hL : Sz s.2.2.2.2.1) (hH : Sz s.2.2.2.2.2) :
  f15 s.1.1.1 s.1.1.2 s.1.2.1.1 s.1.2.1.2 s.1.2.2.1 s.1.2.2.2.1 s.1.2.2.2.2.1 s.1.2.2.2.2.2 s.2.1.1 s.2.1.2.1 s.2.1.2.2.1 s.2.1.2.2.2 s.2.2.1 s.2.2.2.1 s.2.2.2.2.1 s.2.2.2.2.2 = some (decide (MayS s), ()) := by
 unfold f15
 rw [f43_eq]
 simp only [Option.bind_some]
 by_cases c1 : FitP s.1
 case neg => rw [decide_eq_false c1, decide_eq_false (fun h => c1 (MayS.fit h))]; rfl
 rw [decide_eq_true c1, f28_eq]
 simp only [Option.bind_some, cond_true]
 by_cases c2 : PolP s.2.1
 case neg => rw [decide_eq_false c2, decide_eq_false (fun h => c2 (MayS.pol h))]; rfl
 rw [decide_eq_true c2, f44_eq, and_dec]
 simp only [Option.bind_some, cond_true]
 by_cases c3 : 0 ≤ s.2.2.1 ∧ s.2.2.1 ≤ 1073741824
 case neg => rw [decide_eq_false c3, decide_eq_false (fun h => c3 ⟨MayS.now0 h, MayS.now1 h⟩)]; rfl
 rw [decide_eq_true c3]
 have h42 : f46 s.1.1.1 s.1.1.2 s.1.2.1.1 s.1.2.1.2 s.1.2.2.1 s.1.2.2.2.1 s.1.2.2.2.2.1 s.1.2.2.2.2.2 s.2.1.1 s.2.1.2.1 s.2.1.2.2.1 s.2.1.2.2.2 s.2.2.1 s.2.2.2.1 s.2.2.2.2.1 s.2.2.2.2.2 = some (szY s.1, ()) := by
  unfold f46; rw [f49_eq]; rfl
 rw [h42]
 simp only [Option.bind_some, cond_true, f45_eq]
 by_cases c4 : PoolsP s.2.2.2.1 (szY s.1)
 case neg => rw [decide_eq_false c4, decide_eq_false (fun h => c4 (MayS.pools h))]; rfl
 rw [decide_eq_true c4, f47_eq c2 c3.1 c3.2 hP hL]
 simp only [Option.bind_some, cond_true]
 by_cases c5 : LeasesP s.1 s.2.1 s.2.2.1 s.2.2.2.1 s.2.2.2.2.1 ∧ s.2.2.2.2.1.length ≤ 32
 case neg => rw [decide_eq_false c5, decide_eq_false (fun h => c5 ⟨MayS.leases h, MayS.len h⟩)]; rfl
 rw [decide_eq_true c5, f48_eq c3.1 c3.2 hL hH]
 simp only [Option.bind_some, cond_true]
 by_cases c6 : HeldsP s.1 s.2.2.1 s.2.2.2.2.1 s.2.2.2.2.2
 case neg => rw [decide_eq_false c6, decide_eq_false (fun h => c6 (MayS.helds h))]
 rw [decide_eq_true c6, decide_eq_true (show MayS s from ⟨c1, c2, c3.1, c3.2, c4, c5.1, c5.2, c6⟩)]
theorem fCP (l : List HT) (hl : l.length ≤ 1000) : fClonePool l = some (l, ()) := by
 unfold fClonePool fClone
 rw [Nat.ble_eq_true_of_le (show l.length * 24 ≤ 140737488355328 by omega)]; rfl
theorem fCL (l : List LT) (hl : l.length ≤ 1000) : fCloneLease l = some (l, ()) := by
 unfold fCloneLease fClone
 rw [Nat.ble_eq_true_of_le (show l.length * 40 ≤ 140737488355328 by omega)]; rfl
theorem fCH (l : List HT) (hl : l.length ≤ 1000) : fCloneHeld l = some (l, ()) := by
 unfold fCloneHeld fClone
 rw [Nat.ble_eq_true_of_le (show l.length * 24 ≤ 140737488355328 by omega)]; rfl
theorem f61_eq (l m : List HT) (hl : Sz l) : f61 l m = some (decide (l = m), ()) := by
 unfold f61
 by_cases hlen : l.length = m.length
 ·rw [decide_eq_true (show ((l.length : Nat) : Int) = ((m.length : Nat) : Int) by omega)]
  simp only [Bool.not_true, cond_false]
  have e : iter big u61_4 ((l, m, ((l.length : Nat) : Int), 0, ()), (), ()) = _ := it_any (fun j => ((l, m, ((l.length : Nat) : Int), ((j : Nat) : Int), ()), (), ())) (fun j => !decide (rd (.pair (.int .i64) (.pair (.int .i64) (.int .i64))) l j = rd (.pair (.int .i64) (.pair (.int .i64) (.int .i64))) m j))
   (n := l.length) (z := ((false, ()), (), ())) (y := ((), (), ())) (fun j hj => by
    simp only [u61_4, t61_4, ltn hj, ge0, ltn (show j < m.length by omega), nx hj hl, cond_true, Bool.and_self, Int.toNat_natCast, ht_eq])
   (by simp only [u61_4, t61_4, nlt, cond_false]) 0 big (Nat.zero_le _) (by unfold big; omega)
  rw [e, any_range_eq hlen _ (fun j h => by rw [rd_lt h, rd_lt (by omega)])]
  cases decide (l = m) <;> rfl
 ·rw [decide_eq_false (show ¬ ((l.length : Nat) : Int) = ((m.length : Nat) : Int) by omega), decide_eq_false (fun h => hlen (by rw [h]))]
  rfl
theorem f79_eq (l m : List HT) (hl : Sz l) : f79 l m = some (decide (l = m), ()) := by
 unfold f79
 by_cases hlen : l.length = m.length
 ·rw [decide_eq_true (show ((l.length : Nat) : Int) = ((m.length : Nat) : Int) by omega)]
  simp only [Bool.not_true, cond_false]
  have e : iter big u79_4 ((l, m, ((l.length : Nat) : Int), 0, ()), (), ()) = _ := it_any (fun j => ((l, m, ((l.length : Nat) : Int), ((j : Nat) : Int), ()), (), ())) (fun j => !decide (rd (.pair (.int .i64) (.pair (.int .i64) (.int .i64))) l j = rd (.pair (.int .i64) (.pair (.int .i64) (.int .i64))) m j))
   (n := l.length) (z := ((false, ()), (), ())) (y := ((), (), ())) (fun j hj => by
    simp only [u79_4, t79_4, ltn hj, ge0, ltn (show j < m.length by omega), nx hj hl, cond_true, Bool.and_self, Int.toNat_natCast, ht_eq])
   (by simp only [u79_4, t79_4, nlt, cond_false]) 0 big (Nat.zero_le _) (by unfold big; omega)
  rw [e, any_range_eq hlen _ (fun j h => by rw [rd_lt h, rd_lt (by omega)])]
  cases decide (l = m) <;> rfl
 ·rw [decide_eq_false (show ¬ ((l.length : Nat) : Int) = ((m.length : Nat) : Int) by omega), decide_eq_false (fun h => hlen (by rw [h]))]
  rfl
theorem f60_eq (l m : List LT) (hl : Sz l) : f60 l m = some (decide (l = m), ()) := by
 unfold f60
 by_cases hlen : l.length = m.length
 ·rw [decide_eq_true (show ((l.length : Nat) : Int) = ((m.length : Nat) : Int) by omega)]
  simp only [Bool.not_true, cond_false]
  have e : iter big u60_4 ((l, m, ((l.length : Nat) : Int), 0, ()), (), ()) = _ := it_any (fun j => ((l, m, ((l.length : Nat) : Int), ((j : Nat) : Int), ()), (), ())) (fun j => !decide (rd (.pair (.int .i64) (.pair (.int .i64) (.pair (.int .i64) (.pair (.int .i64) (.int .i64))))) l j = rd (.pair (.int .i64) (.pair (.int .i64) (.pair (.int .i64) (.pair (.int .i64) (.int .i64))))) m j))
   (n := l.length) (z := ((false, ()), (), ())) (y := ((), (), ())) (fun j hj => by
    simp only [u60_4, t60_4, ltn hj, ge0, ltn (show j < m.length by omega), nx hj hl, cond_true, Bool.and_self, Int.toNat_natCast, lt_eq])
   (by simp only [u60_4, t60_4, nlt, cond_false]) 0 big (Nat.zero_le _) (by unfold big; omega)
  rw [e, any_range_eq hlen _ (fun j h => by rw [rd_lt h, rd_lt (by omega)])]
  cases decide (l = m) <;> rfl
 ·rw [decide_eq_false (show ¬ ((l.length : Nat) : Int) = ((m.length : Nat) : Int) by omega), decide_eq_false (fun h => hlen (by rw [h]))]
  rfl
theorem f26_eq (l m : List HT) (hl : Sz l) : f26 l m = some (decide (l = m), ()) := by unfold f26; rw [f61_eq l m hl]; rfl
theorem f25_eq (l m : List LT) (hl : Sz l) : f25 l m = some (decide (l = m), ()) := by unfold f25; rw [f60_eq l m hl]; rfl
theorem f42_eq (l m : List HT) (hl : Sz l) : f42 l m = some (decide (l = m), ()) := by unfold f42; rw [f79_eq l m hl]; rfl
structure Sm (s : ST) : Prop where
 p : s.2.2.2.1.length ≤ 1000
 l : s.2.2.2.2.1.length ≤ 1000
 h : s.2.2.2.2.2.length ≤ 1000
theorem Sm.szP {s : ST} (h : Sm s) : Sz s.2.2.2.1 := by have := h.p; unfold Sz; omega
theorem Sm.szL {s : ST} (h : Sm s) : Sz s.2.2.2.2.1 := by have := h.l; unfold Sz; omega
theorem Sm.szH {s : ST} (h : Sm s) : Sz s.2.2.2.2.2 := by have := h.h; unfold Sz; omega
theorem f14_eq (s t : ST) (h : Sm s) :
  f14 s.1.1.1 s.1.1.2 s.1.2.1.1 s.1.2.1.2 s.1.2.2.1 s.1.2.2.2.1 s.1.2.2.2.2.1 s.1.2.2.2.2.2 s.2.1.1 s.2.1.2.1 s.2.1.2.2.1 s.2.1.2.2.2 s.2.2.1 s.2.2.2.1 s.2.2.2.2.1 s.2.2.2.2.2
   t.1.1.1 t.1.1.2 t.1.2.1.1 t.1.2.1.2 t.1.2.2.1 t.1.2.2.2.1 t.1.2.2.2.2.1 t.1.2.2.2.2.2 t.2.1.1 t.2.1.2.1 t.2.1.2.2.1 t.2.1.2.2.2 t.2.2.1 t.2.2.2.1 t.2.2.2.2.1 t.2.2.2.2.2 = some (decide (s = t), ()) := by
 unfold f14
 rw [f26_eq _ _ h.szP, f25_eq _ _ h.szL, f42_eq _ _ h.szH]
 obtain ⟨⟨⟨a, b⟩, ⟨c, d⟩, e, f, g, w⟩, ⟨q, i, o, p⟩, n, P, L, H⟩ := s
 obtain ⟨⟨⟨a', b'⟩, ⟨c', d'⟩, e', f', g', w'⟩, ⟨q', i', o', p'⟩, n', P', L', H'⟩ := t
 simp only [Option.bind_some]
 by_cases h1 : a = a' ∧ b = b' ∧ c = c' ∧ d = d' ∧ e = e' ∧ f = f' ∧ g = g' ∧ w = w'
 case neg =>
  have : ((decide (a = a') && (decide (b = b') && true)) && ((decide (c = c') && (decide (d = d') && true)) && (decide (e = e') && (decide (f = f') && (decide (g = g') && (decide (w = w') && true)))))) = false := by
   rw [Bool.eq_false_iff]
   intro h
   simp only [Bool.and_eq_true, decide_eq_true_eq, and_true] at h
   exact h1 ⟨h.1.1, h.1.2, h.2.1.1, h.2.1.2, h.2.2.1, h.2.2.2.1, h.2.2.2.2.1, h.2.2.2.2.2⟩
  have hne : ¬ ((((a, b), (c, d), e, f, g, w), (q, i, o, p), n, P, L, H) : ST) = (((a', b'), (c', d'), e', f', g', w'), (q', i', o', p'), n', P', L', H') := by
   intro h
   simp only [Prod.mk.injEq] at h
   exact h1 ⟨h.1.1.1, h.1.1.2, h.1.2.1.1, h.1.2.1.2, h.1.2.2.1, h.1.2.2.2.1, h.1.2.2.2.2.1, h.1.2.2.2.2.2⟩
  rw [this, decide_eq_false hne]; rfl
 obtain ⟨rfl, rfl, rfl, rfl, rfl, rfl, rfl, rfl⟩ := h1
 simp only [decide_true, Bool.and_self, cond_true, Bool.and_true, Bool.true_and]
 by_cases h2 : q = q' ∧ i = i' ∧ o = o' ∧ p = p'
 case neg =>
  have : (decide (q = q') && (decide (i = i') && (decide (o = o') && (p == p')))) = false := by
   rw [Bool.eq_false_iff]
   intro h
   simp only [Bool.and_eq_true, decide_eq_true_eq, beq_iff_eq] at h
   exact h2 ⟨h.1, h.2.1, h.2.2.1, h.2.2.2⟩
  have hne : ¬ ((((a, b), (c, d), e, f, g, w), (q, i, o, p), n, P, L, H) : ST) = (((a, b), (c, d), e, f, g, w), (q', i', o', p'), n', P', L', H') := by
   intro h
   simp only [Prod.mk.injEq, true_and] at h
   exact h2 ⟨h.1.1, h.1.2.1, h.1.2.2.1, h.1.2.2.2⟩
  rw [this, decide_eq_false hne]; rfl
 obtain ⟨rfl, rfl, rfl, rfl⟩ := h2
 simp only [decide_true, Bool.and_self, cond_true, Bool.and_true, Bool.true_and, beq_self_eq_true]
 by_cases h3 : n = n'
 case neg =>
  have hne : ¬ ((((a, b), (c, d), e, f, g, w), (q, i, o, p), n, P, L, H) : ST) = (((a, b), (c, d), e, f, g, w), (q, i, o, p), n', P', L', H') := fun k => h3 (congrArg (fun s : ST => s.2.2.1) k)
  rw [decide_eq_false h3, decide_eq_false hne]; rfl
 subst h3
 simp only [decide_true, cond_true]
 by_cases h4 : P = P'
 case neg =>
  have hne : ¬ ((((a, b), (c, d), e, f, g, w), (q, i, o, p), n, P, L, H) : ST) = (((a, b), (c, d), e, f, g, w), (q, i, o, p), n, P', L', H') := fun k => h4 (congrArg (fun s : ST => s.2.2.2.1) k)
  rw [decide_eq_false h4, decide_eq_false hne]; rfl
 subst h4
 simp only [decide_true, cond_true]
 by_cases h5 : L = L'
 case neg =>
  have hne : ¬ ((((a, b), (c, d), e, f, g, w), (q, i, o, p), n, P, L, H) : ST) = (((a, b), (c, d), e, f, g, w), (q, i, o, p), n, P, L', H') := fun k => h5 (congrArg (fun s : ST => s.2.2.2.2.1) k)
  rw [decide_eq_false h5, decide_eq_false hne]; rfl
 subst h5
 simp only [decide_true, cond_true]
 by_cases h6 : H = H'
 case neg =>
  have hne : ¬ ((((a, b), (c, d), e, f, g, w), (q, i, o, p), n, P, L, H) : ST) = (((a, b), (c, d), e, f, g, w), (q, i, o, p), n, P, L, H') := fun k => h6 (congrArg (fun s : ST => s.2.2.2.2.2) k)
  rw [decide_eq_false h6, decide_eq_false hne]
 subst h6
 simp
theorem f40_eq (s : ST) (h : Sm s) :
  f40 s.1.1.1 s.1.1.2 s.1.2.1.1 s.1.2.1.2 s.1.2.2.1 s.1.2.2.2.1 s.1.2.2.2.2.1 s.1.2.2.2.2.2 s.2.1.1 s.2.1.2.1 s.2.1.2.2.1 s.2.1.2.2.2 s.2.2.1 s.2.2.2.1 s.2.2.2.2.1 s.2.2.2.2.2 = some (s, ()) := by
 unfold f40
 rw [fCP _ h.p, fCL _ h.l, fCH _ h.h]; rfl
theorem f70_eq (H : List HT) (hH : H.length ≤ 1000) (now : Int) : f70 H now = some (cleanH H now, ()) := by
 have hS : Sz H := by unfold Sz; omega
 unfold f70
 rw [fCH H hH]
 simp only [Option.bind_some]
 have e : iter big u70_138_2_0 (((), (), ((H.length : Nat) : Int), 0, ()), ((now, ()), H, ()), ()) = _ :=
  it_idx H (fun x => decide (x.2.2 ≤ now)) (fun j => (((), (), ((H.length : Nat) : Int), ((j : Nat) : Int), ()), ((now, ()), H, ()), ())) (fun j => ((((j : Nat) : Int), ()), ((now, ()), H, ()), ()))
   (y := ((), ((now, ()), H, ()), ())) (fun j h => by
    simp only [u70_138_2_0, t70_138_2_0, ltn h, ge0, cond_true, Bool.and_self, Int.toNat_natCast, rdH h, decide_eq_true h, nx h hS])
   (by simp only [u70_138_2_0, t70_138_2_0, nlt, cond_false]) (fuel := big) (by unfold big; omega)
 rw [e]
 by_cases hlt : H.findIdx (fun x => decide (x.2.2 ≤ now)) < H.length
 ·rw [if_pos hlt]
  simp only [Option.bind_some]
  rw [decide_eq_false (show ¬ ((H.findIdx (fun x => decide (x.2.2 ≤ now)) : Nat) : Int) = -1 by omega), nx hlt hS]
  simp only [cond_false]
  obtain ⟨k, l', k1, k2, k3, k4⟩ := del_all (u := u70_113_5_0) (fun x : HT => decide (x.2.2 ≤ now)) (fun i j l => (((), (), ((i : Nat) : Int), ((j : Nat) : Int), ()), ((now, ()), l, ()), ()))
   (fun i l => (((), ((i : Nat) : Int), ()), ((now, ()), l, ()), ())) H (fun i j l h hi hN => by
    have hsz : l.length ≤ 9223372036854775807 := by omega
    simp only [u70_113_5_0, t70_113_5_0, ltn h, ge0, cond_true, Bool.and_self, Int.toNat_natCast, rdH h, decide_eq_true h, nx h hsz]
    by_cases hd : l[j].2.2 ≤ now
    ·rw [decide_eq_true hd]; simp only [Bool.not_true, cond_false, if_true]
    ·rw [decide_eq_false hd, ltn (show i < l.length by omega), decide_eq_true (show i < l.length by omega), nx (show i < l.length by omega) hsz]; rfl)
   (fun i l h => by simp only [u70_113_5_0, t70_113_5_0, nlt, cond_false]) (by unfold big; omega) hlt
  rw [k1]
  simp only [Option.bind_some, Nat.sub_zero, Nat.zero_add, Int.zero_add, Int.toNat_natCast, ge0, Bool.true_and]
  have hk : k ≤ l'.length := by rw [k2, k4]; exact List.length_filter_le _ _
  have hlen : (l'.take k ++ List.replicate (l'.length - k) ((0, 0, 0) : HT) ++ l'.drop (k + (l'.length - k))).length = l'.length := by
   simp only [List.length_append, List.length_take, List.length_replicate, List.length_drop]; omega
  rw [dec_le hk, dec_le (Nat.le_refl l'.length)]
  simp only [Bool.and_self, cond_true, hlen]
  rw [dec_le hk]
  simp only [cond_true]
  rw [List.append_assoc, List.take_append_of_le_length (by rw [List.length_take]; omega), List.take_take, Nat.min_self, k3]
  rfl
 ·rw [if_neg hlt]
  simp only [Option.bind_some]
  have : cleanH H now = H := by
   unfold cleanH
   rw [List.filter_eq_self]
   intro x hx
   rw [List.findIdx_lt_length] at hlt
   cases hd : decide (x.2.2 ≤ now) with
   | false => rfl
   | true => exact absurd ⟨x, hx, hd⟩ hlt
  rw [this]
theorem f149_eq (x y : Int) : f149 x y = some (if x < y then -1 else if y < x then 1 else 0, ()) := by
 unfold f149 f174
 simp only [decide_true, Bool.not_true, Option.bind_some, cond_false]
 by_cases h1 : x < y
 ·simp [h1]
 ·by_cases h2 : y < x
  ·simp [h1, h2]
  ·simp [h1, h2]
theorem f148_eq (x y : Int) : f148 [x, y] = some (if x = 0 then y else x, ()) := by
 unfold f148
 by_cases hx : x = 0
 ·by_cases hy : y = 0
  ·subst hx hy
   have e : iter big u148_3 ((0, [0, 0], (([0, 0] : List Int).length : Int), 0, ()), (), ()) = some (.inl ((0, ()), (), ())) := it_mono (k := 3) (by unfold big; omega) (by kernel_rfl)
   rw [e]; rfl
  ·subst hx
   have e : iter big u148_3 ((0, [0, y], (([0, y] : List Int).length : Int), 0, ()), (), ()) = some (.inr ((y, ()), (), ())) :=
    it_first (fun j => ((0, [0, y], (([0, y] : List Int).length : Int), ((j : Nat) : Int), ()), (), ())) (n := 1) (fun j hj => by
     have : j = 0 := by omega
     subst this
     simp [u148_3, t148_3, rd, w64]) (by
     simp [u148_3, t148_3, rd, hy]) 0 big (by omega) (by unfold big; omega)
   rw [e]; rfl
 ·have e : iter big u148_3 ((0, [x, y], (([x, y] : List Int).length : Int), 0, ()), (), ()) = some (.inr ((x, ()), (), ())) :=
    it_first (fun j => ((0, [x, y], (([x, y] : List Int).length : Int), ((j : Nat) : Int), ()), (), ())) (n := 0) (fun j hj => by omega) (by
     simp [u148_3, t148_3, rd, hx]) 0 big (by omega) (by unfold big; omega)
  rw [e]; simp [hx]
theorem f127_eq (b c : Int × Int) : ∃ r, f127 b.1 b.2 c.1 c.2 = some (r, ()) ∧ decide (0 < r) = decide (ltP c b) := by
 obtain ⟨b1, b2⟩ := b
 obtain ⟨c1, c2⟩ := c
 unfold f127
 rw [f149_eq, f149_eq]
 simp only [Option.bind_some]
 rw [f148_eq]
 refine ⟨_, rfl, ?_⟩
 unfold ltP ltB
 simp only
 rcases Int.lt_trichotomy b1 c1 with h | h | h
 ·rw [if_pos h]
  have h1 : ¬ c1 < b1 := by omega
  have h2 : ¬ c1 = b1 := by omega
  simp [h1, h2]
 ·subst h
  simp only [Int.lt_irrefl, if_false, if_true]
  rcases Int.lt_trichotomy b2 c2 with h | h | h
  ·have : ¬ c2 < b2 := by omega
   simp [h, this]
  ·subst h; simp
  ·have : ¬ b2 < c2 := by omega
   simp [h, this]
 ·have h1 : ¬ b1 < c1 := by omega
  have h2 : ¬ b1 = c1 := by omega
  simp [h, h1, h2]
theorem f102_eq (l : List LT) (hl : Sz l) (a b : Int) : f102 l a b = some (((l.findIdx (behK kL (a, b)) : Nat) : Int), ()) := by
 unfold f102
 have e : iter big u102_96_2_0 ((l, (), ((l.length : Nat) : Int), 0, ()), ((a, b, ()), ((), ()), ()), ()) = _ :=
  it_idx l (behK kL (a, b)) (fun j => ((l, (), ((l.length : Nat) : Int), ((j : Nat) : Int), ()), ((a, b, ()), ((), ()), ()), ())) (fun j => ((((j : Nat) : Int), ()), ((a, b, ()), ((), ()), ()), ()))
   (y := ((), ((a, b, ()), ((), ()), ()), ())) (fun j h => by
    obtain ⟨r, h1, h2⟩ := f127_eq (kL l[j]) (a, b)
    have h1' : f127 l[j].2.1 l[j].2.2.1 a b = some (r, ()) := h1
    simp only [u102_96_2_0, t102_96_2_0, ltn h, ge0, cond_true, Bool.and_self, Int.toNat_natCast, rdL h, f57_eq, Option.bind_some, h1', h2, behK, nx h hl])
   (by simp only [u102_96_2_0, t102_96_2_0, nlt, cond_false]) (fuel := big) (by unfold big; omega)
 rw [e]
 by_cases hlt : l.findIdx (behK kL (a, b)) < l.length
 ·rw [if_pos hlt]
  simp only [Option.bind_some]
  rw [decide_eq_false (by omega)]; rfl
 ·rw [if_neg hlt]
  have : l.findIdx (behK kL (a, b)) = l.length := Nat.le_antisymm List.findIdx_le_length (by omega)
  rw [this]; rfl
theorem f129_eq (a b c : Int) : f129 a b c = some ((a, b), ()) := by unfold f129 f122; rfl
theorem f131_eq (l : List HT) (hl : Sz l) (a b : Int) : f131 l a b = some (((l.findIdx (behK kH (a, b)) : Nat) : Int), ()) := by
 unfold f131
 have e : iter big u131_138_2_0 ((l, (), ((l.length : Nat) : Int), 0, ()), ((a, b, ()), ((), ()), ()), ()) = _ :=
  it_idx l (behK kH (a, b)) (fun j => ((l, (), ((l.length : Nat) : Int), ((j : Nat) : Int), ()), ((a, b, ()), ((), ()), ()), ())) (fun j => ((((j : Nat) : Int), ()), ((a, b, ()), ((), ()), ()), ()))
   (y := ((), ((a, b, ()), ((), ()), ()), ())) (fun j h => by
    obtain ⟨r, h1, h2⟩ := f127_eq (kH l[j]) (a, b)
    have h1' : f127 l[j].1 l[j].2.1 a b = some (r, ()) := h1
    simp only [u131_138_2_0, t131_138_2_0, ltn h, ge0, cond_true, Bool.and_self, Int.toNat_natCast, rdH h, f129_eq, Option.bind_some, h1', h2, behK, nx h hl])
   (by simp only [u131_138_2_0, t131_138_2_0, nlt, cond_false]) (fuel := big) (by unfold big; omega)
 rw [e]
 by_cases hlt : l.findIdx (behK kH (a, b)) < l.length
 ·rw [if_pos hlt]
  simp only [Option.bind_some]
  rw [decide_eq_false (by omega)]; rfl
 ·rw [if_neg hlt]
  have : l.findIdx (behK kH (a, b)) = l.length := Nat.le_antisymm List.findIdx_le_length (by omega)
  rw [this]; rfl
theorem insLease_eq (l : List LT) (hl : l.length ≤ 1000) (x : LT) : fInsLease l ((l.findIdx (behK kL (kL x)) : Nat) : Int) [x] = some (insK kL l x) := by
 have hle : l.findIdx (behK kL (kL x)) ≤ l.length := List.findIdx_le_length
 unfold fInsLease fIns
 rw [ge0, dec_le hle, Nat.ble_eq_true_of_le (show (List.length l + 1) * 40 ≤ 140737488355328 by omega)]
 rfl
theorem insHeld_eq (l : List HT) (hl : l.length ≤ 1000) (x : HT) : fInsHeld l ((l.findIdx (behK kH (kH x)) : Nat) : Int) [x] = some (insK kH l x) := by
 have hle : l.findIdx (behK kH (kH x)) ≤ l.length := List.findIdx_le_length
 unfold fInsHeld fIns
 rw [ge0, dec_le hle, Nat.ble_eq_true_of_le (show (List.length l + 1) * 24 ≤ 140737488355328 by omega)]
 rfl
theorem f63_eq (l : List LT) (hl : l.length ≤ 1000) (x : LT) : f63 l x.1 x.2.1 x.2.2.1 x.2.2.2.1 x.2.2.2.2 = some ((putL l x).1, (putL l x).2, ()) := by
 have hs : Sz l := by unfold Sz; omega
 unfold f63 putL
 rw [fCL l hl, f22_eq l hs]
 simp only [Option.bind_some]
 by_cases hh : hasL l x.2.1 x.2.2.1 = true
 ·rw [if_pos (.inl hh), decide_eq_false (fun h => by rw [findL_none] at h; rw [h] at hh; cases hh)]; rfl
 ·have hn : hasL l x.2.1 x.2.2.1 = false := by simpa using hh
  rw [decide_eq_true ((findL_none _ _ _).2 hn)]
  simp only [Bool.not_true, cond_false]
  by_cases h32 : 32 ≤ l.length
  ·rw [decide_eq_true (show (32 : Int) ≤ ((l.length : Nat) : Int) by omega), if_pos (.inr h32)]; rfl
  ·rw [decide_eq_false (show ¬ (32 : Int) ≤ ((l.length : Nat) : Int) by omega), if_neg (by rintro (h | h); exact hh h; exact h32 h)]
   simp only [cond_false, f57_eq, Option.bind_some, f102_eq l hs]
   have : fInsLease l ((l.findIdx (behK kL (x.2.1, x.2.2.1)) : Nat) : Int) [(x.1, x.2.1, x.2.2.1, x.2.2.2.1, x.2.2.2.2)] = some (insK kL l x) := insLease_eq l hl x
   rw [this]; rfl
theorem f24_eq (l : List LT) (hl : l.length ≤ 1000) (a b : Int) : f24 l a b = some (if hasL l a b = true then (delL l a b, true, ()) else (l, false, ())) := by
 have hs : Sz l := by unfold Sz; omega
 unfold f24
 rw [fCL l hl, f22_eq l hs]
 simp only [Option.bind_some]
 by_cases hh : hasL l a b = true
 ·have hne : findL l a b ≠ -1 := fun h => by rw [findL_none] at h; rw [h] at hh; cases hh
  have hlt : l.findIdx (isL a b) < l.length := by
   rcases Nat.lt_or_ge (l.findIdx (isL a b)) l.length with h | h
   ·exact h
   ·exact absurd (by unfold findL; rw [if_neg (by omega)]) hne
  have hf : findL l a b = ((l.findIdx (isL a b) : Nat) : Int) := by unfold findL; rw [if_pos hlt]
  rw [if_pos hh, hf]
  unfold delL
  generalize l.findIdx (isL a b) = i at hlt
  rw [decide_eq_false (show ¬ ((i : Int) = -1) by omega), nx hlt hs]
  simp only [cond_false, Nat.zero_add, Nat.sub_zero, Int.toNat_natCast, List.take_length, ge0, Int.zero_add, Bool.true_and, List.length_drop, List.drop_zero]
  rw [decide_eq_true (show ((i : Nat) : Int) ≤ ((i + 1 : Nat) : Int) by omega), dec_le (show i + 1 ≤ l.length by omega), dec_le (Nat.le_refl l.length), decide_eq_false (show ¬ ((i : Nat) : Int) = ((i + 1 : Nat) : Int) by omega), dec_le (show i ≤ l.length by omega)]
  simp only [Bool.and_self, cond_true, cond_false]
  rw [decide_eq_true (show i + (l.length - (i + 1)) ≤ l.length by omega)]
  have hlen : (l.take i ++ l.drop (i + 1) ++ l.drop (i + (l.length - (i + 1)))).length = l.length := by
   simp only [List.length_append, List.length_take, List.length_drop]; omega
  simp only [cond_true, hlen]
  rw [dec_le (show i + (l.length - (i + 1)) ≤ l.length by omega), dec_le (Nat.le_refl l.length)]
  simp only [Bool.and_self, cond_true]
  congr 2
  rw [List.eraseIdx_eq_take_drop_succ]
  have hn : (l.take i ++ l.drop (i + 1)).length = i + (l.length - (i + 1)) := by
   simp only [List.length_append, List.length_take, List.length_drop]; omega
  have e1 : (l.take i ++ l.drop (i + 1) ++ l.drop (i + (l.length - (i + 1)))).take (i + (l.length - (i + 1))) = l.take i ++ l.drop (i + 1) := List.take_left' hn
  rw [e1, List.append_assoc, List.take_left' hn]
 ·have hn : hasL l a b = false := by simpa using hh
  rw [if_neg hh, decide_eq_true ((findL_none _ _ _).2 hn)]
  rfl
theorem and_pair (a b c d : Int) : (decide (a = c) && (decide (b = d) && true)) = decide (((a, b) : Int × Int) = (c, d)) := by
 simp [Prod.ext_iff]
theorem f103_eq (H : List HT) (hH : H.length ≤ 900) (x : HT) : f103 H x.1 x.2.1 x.2.2 = some (holdH H x, ()) := by
 have hS : Sz H := by unfold Sz; omega
 unfold f103
 rw [fCH H (by omega)]
 simp only [Option.bind_some]
 have e : iter big u103_138_2_0 (((), (), ((H.length : Nat) : Int), 0, ()), ((x.1, x.2.1, x.2.2, ()), H, ()), ()) = _ :=
  it_idx H (fun y => decide (kH y = kH x)) (fun j => (((), (), ((H.length : Nat) : Int), ((j : Nat) : Int), ()), ((x.1, x.2.1, x.2.2, ()), H, ()), ())) (fun j => ((((j : Nat) : Int), ()), ((x.1, x.2.1, x.2.2, ()), H, ()), ()))
   (y := ((), ((x.1, x.2.1, x.2.2, ()), H, ()), ())) (fun j h => by
    simp only [u103_138_2_0, t103_138_2_0, ltn h, ge0, cond_true, Bool.and_self, Int.toNat_natCast, rdH h, decide_eq_true h, nx h hS, f129_eq, Option.bind_some, and_pair]; rfl)
   (by simp only [u103_138_2_0, t103_138_2_0, nlt, cond_false]) (fuel := big) (by unfold big; omega)
 rw [e]
 have hins : ∀ (l : List HT), l.length ≤ 1000 → fInsHeld l ((l.findIdx (behK kH (x.1, x.2.1)) : Nat) : Int) [(x.1, x.2.1, x.2.2)] = some (insK kH l x) := fun l hl => insHeld_eq l hl x
 by_cases hlt : H.findIdx (fun y => decide (kH y = kH x)) < H.length
 ·rw [if_pos hlt]
  simp only [Option.bind_some]
  rw [decide_eq_false (show ¬ ((H.findIdx (fun y => decide (kH y = kH x)) : Nat) : Int) = -1 by omega), nx hlt hS]
  simp only [cond_false]
  obtain ⟨k, l', k1, k2, k3, k4⟩ := del_all (u := u103_113_5_0) (fun y : HT => decide (kH y = kH x)) (fun i j l => (((), (), ((i : Nat) : Int), ((j : Nat) : Int), ()), ((x.1, x.2.1, x.2.2, ()), l, ()), ()))
   (fun i l => (((), ((i : Nat) : Int), ()), ((x.1, x.2.1, x.2.2, ()), l, ()), ())) H (fun i j l h hi hN => by
    have hsz : l.length ≤ 9223372036854775807 := by omega
    simp only [u103_113_5_0, t103_113_5_0, ltn h, ge0, cond_true, Bool.and_self, Int.toNat_natCast, rdH h, decide_eq_true h, nx h hsz, f129_eq, Option.bind_some, and_pair]
    show cond (!decide (kH l[j] = kH x)) _ _ = _
    by_cases hd : kH l[j] = kH x
    ·rw [decide_eq_true hd]; simp only [Bool.not_true, cond_false, if_true]
    ·rw [decide_eq_false hd, ltn (show i < l.length by omega), decide_eq_true (show i < l.length by omega), nx (show i < l.length by omega) hsz]; rfl)
   (fun i l h => by simp only [u103_113_5_0, t103_113_5_0, nlt, cond_false]) (by unfold big; omega) hlt
  rw [k1]
  simp only [Option.bind_some, Nat.sub_zero, Nat.zero_add, Int.zero_add, Int.toNat_natCast, ge0, Bool.true_and, f129_eq]
  have hk : k ≤ l'.length := by rw [k2, k4]; exact List.length_filter_le _ _
  have hlen : (l'.take k ++ List.replicate (l'.length - k) ((0, 0, 0) : HT) ++ l'.drop (k + (l'.length - k))).length = l'.length := by
   simp only [List.length_append, List.length_take, List.length_replicate, List.length_drop]; omega
  rw [dec_le hk, dec_le (Nat.le_refl l'.length)]
  simp only [Bool.and_self, cond_true, hlen]
  rw [dec_le hk]
  simp only [cond_true]
  have hfin : (l'.take k ++ List.replicate (l'.length - k) ((0, 0, 0) : HT) ++ l'.drop (k + (l'.length - k))).take k = H.filter fun y => !decide (kH y = kH x) := by
   rw [List.append_assoc, List.take_append_of_le_length (by rw [List.length_take]; omega), List.take_take, Nat.min_self, k3]
  have hlf : (H.filter fun y => !decide (kH y = kH x)).length ≤ H.length := List.length_filter_le _ _
  rw [hfin, List.drop_zero, f131_eq _ (by unfold Sz; omega)]
  simp only [Option.bind_some]
  rw [hins (H.filter fun y => !decide (kH y = kH x)) (by omega)]; rfl
 ·rw [if_neg hlt]
  simp only [Option.bind_some, f129_eq]
  have hfil : (H.filter fun y => !decide (kH y = kH x)) = H := by
   rw [List.filter_eq_self]
   intro y hy
   rw [List.findIdx_lt_length] at hlt
   cases hd : decide (kH y = kH x) with
   | false => rfl
   | true => exact absurd ⟨y, hy, hd⟩ hlt
  rw [f131_eq _ hS]
  simp only [Option.bind_some]
  rw [hins H (by omega)]
  unfold holdH
  rw [hfil]; rfl
theorem f98_eq (a b c d e : Int) : f98 a b c d e = some (((b, c), a, b, c, d, e), ()) := by unfold f98; rfl
theorem f75_eq (l : List LT) (hl : l.length ≤ 1000) : f75 l = some (busyL l, ()) := by
 unfold f75
 let acc : Nat → List Int := fun j => (l.take j).map (·.2.1)
 have ha : ∀ j, j ≤ l.length → (acc j).length = j := fun j h => by simp only [acc, List.length_map, List.length_take]; omega
 have e : iter big u75_3 ((l, ((l.length : Nat) : Int), 0, ()), (), [], ()) = _ := it_all (fun j => ((l, ((l.length : Nat) : Int), ((j : Nat) : Int), ()), (), acc j, ())) (n := l.length) (y := ((), (), acc l.length, ())) (fun j hj => by
   have h1 := ha j (by omega)
   have hacc : acc (j + 1) = acc j ++ [l[j].2.1] := by
    simp only [acc]
    rw [take_snoc hj, List.map_append]; rfl
   simp only [u75_3, t75_3, ltn hj, ge0, Bool.and_self, cond_true, Int.toNat_natCast, nx hj (show l.length ≤ 9223372036854775807 by omega), hacc, f98_eq, Option.bind_some, rdL hj]
   rw [decide_eq_true (show ((acc j).length + 1) * 8 ≤ 140737488355328 by omega), decide_eq_true (show (acc j).length + 1 ≤ 9223372036854775807 by omega)]
   rfl) (by simp only [u75_3, t75_3, nlt, cond_false]) 0 big (by omega) (by unfold big; omega)
 have hfin : acc l.length = l.map (·.2.1) := by simp only [acc, List.take_length]
 rw [e]
 simp only [Option.bind_some, hfin]
 have hS : fSort (l.map (·.2.1)) = some ((l.map (·.2.1)).mergeSort fun x y => decide (x ≤ y)) := by
  unfold fSort
  rw [show ltN (List.length (l.map (·.2.1))) 4611686018427387904 = true from by rw [List.length_map]; exact Nat.ble_eq_true_of_le (by omega)]; rfl
 have hlen : ((l.map (·.2.1)).mergeSort fun x y => decide (x ≤ y)).length = (l.map (·.2.1)).length := List.length_mergeSort _
 have hC : fCompact ((l.map (·.2.1)).mergeSort fun x y => decide (x ≤ y)) = some (busyL l) := by
  unfold fCompact busyL
  rw [show ltN (List.length ((l.map (·.2.1)).mergeSort fun x y => decide (x ≤ y))) 4611686018427387904 = true from by rw [hlen, List.length_map]; exact Nat.ble_eq_true_of_le (by omega)]; rfl
 rw [hS]
 simp only [Option.bind_some, hlen, Nat.beq_refl, Bool.and_self, cond_true, hC]
theorem it_anyR {α β γ : Type} {u : α → Option (R3 α β γ)} (st : Nat → α) (p : Nat → Bool) {n : Nat} {y : β} {z : γ} (hs : ∀ j, j < n → u (st j) = cond (p j) (some (.ret z)) (some (.next (st (j + 1))))) (he : u (st n) = some (.out y)) (hn : n < big) :
  iter big u (st 0) = some (cond ((List.range n).any p) (.inr z) (.inl y)) := by
 have := it_any st p hs he 0 big (Nat.zero_le _) (by omega)
 rw [this, Nat.sub_zero, List.range_eq_range']
theorem getD_lt {l : List HT} {j : Nat} (h : j < l.length) : l.getD j (0, 0, 0) = l[j] := by
 rw [List.getD_eq_getElem?_getD, List.getElem?_eq_getElem h]; rfl
theorem f157_eq {out : Int} (P : List HT) (hP : PoolsP P out) (v1 v3 v4 v5 v6 : Int) (busy : List Int) (but : Int) (p : HT) :
  f157 v1 out v3 v4 v5 v6 busy P but p.1 p.2.1 p.2.2 = some (roomE P out but p, ()) := by
 unfold f157 roomE
 rw [f92_eq p out hP.out0 hP.out4]
 simp only [Option.bind_some]
 by_cases hf : FitsP p out
 case neg => rw [decide_eq_false hf, if_pos hf]; rfl
 rw [decide_eq_true hf, if_neg (fun h => h hf)]
 simp only [Bool.not_true, cond_false]
 have hl := hP.len
 have hsz : P.length ≤ 9223372036854775807 := by omega
 have e := it_anyR (u := u157_4) (fun j => ((P, but, (), P, ((P.length : Nat) : Int), ((j : Nat) : Int), ()), ((p.1, p.2.1, p.2.2, ()), ()), ()))
  (fun j => !decide ((j : Int) = but) && meetB p (P.getD j (0, 0, 0))) (n := P.length) (y := ((P, but, ()), (), ())) (z := ((11, ()), (), ()))
  (fun j hj => by
   simp only [u157_4, t157_4, ltn hj, ge0, cond_true, Bool.and_self, Int.toNat_natCast, rdH hj, nx hj hsz, f91_eq hf (hP.fits _ (List.getElem_mem hj)) hP.out4, Option.bind_some, getD_lt hj]
   by_cases hb : (j : Int) = but
   ·rw [decide_eq_true hb]; rfl
   ·rw [decide_eq_false hb]
    cases meetB p P[j] <;> rfl)
  (by simp only [u157_4, t157_4, nlt, cond_false]) (by unfold big; omega)
 have e' : iter big u157_4 ((P, but, (), P, ((P.length : Nat) : Int), 0, ()), ((p.1, p.2.1, p.2.2, ()), ()), ()) = _ := e
 rw [e']
 cases ha : (List.range P.length).any (fun j => !decide ((j : Int) = but) && meetB p (P.getD j (0, 0, 0))) with
 | true => rfl
 | false =>
  simp only [cond_false, Option.bind_some, Bool.false_eq_true, if_false]
  by_cases hb : but = -1
  ·by_cases h3 : P.length = 3
   ·rw [decide_eq_true hb, decide_eq_true (show ((P.length : Nat) : Int) = 3 by omega), if_pos ⟨hb, h3⟩]; rfl
   ·rw [decide_eq_true hb, decide_eq_false (show ¬ ((P.length : Nat) : Int) = 3 by omega), if_neg (fun h => h3 h.2)]; rfl
  ·rw [decide_eq_false hb, if_neg (fun h => hb h.1)]; rfl
section
variable {out : Int} {P : List HT}
theorem f72_eq (hS : P.length ≤ 1000) (a n : Int) : f72 P out a n = some ((addP P out a n).1, (addP P out a n).2, ()) := by
 unfold f72 f115 f139 addP
 rw [fCP P hS]
 simp only [Option.bind_some, f45_eq, decide_true, Bool.not_true, cond_false, cond_true]
 by_cases hP : PoolsP P out
 case neg =>
  rw [decide_eq_false hP, if_pos hP]; rfl
 rw [decide_eq_true hP, if_neg (fun h => h hP)]
 have h158 := f157_eq P hP 0 0 a n 0 [] (-1) (a, n, 0)
 simp only [Bool.not_true, cond_false]
 simp only at h158
 simp only [h158, Option.bind_some]
 by_cases he : roomE P out (-1) (a, n, 0) = 0
 ·rw [if_neg (fun h => h he), decide_eq_true he, decide_eq_true (show (P.length + 1) * 24 ≤ 140737488355328 by omega), decide_eq_true (show P.length + 1 ≤ 9223372036854775807 by omega)]
  rfl
 ·rw [if_pos he, decide_eq_false he]; rfl
theorem nthP_rd {k : Int} (h0 : 0 ≤ k) (h1 : k < (P.length : Int)) : rd (.pair (.int .i64) (.pair (.int .i64) (.int .i64))) P (Int.toNat k) = nthP P k := by
 have hk : k.toNat < P.length := by omega
 rw [rdH hk]
 exact (getD_lt hk).symm
theorem f73_eq (hS : P.length ≤ 1000) (k : Int) : f73 P out k = some ((drainP P out k).1, (drainP P out k).2, ()) := by
 unfold f73 f115 f139 drainP
 rw [fCP P hS]
 simp only [Option.bind_some, f45_eq]
 by_cases hP : PoolsP P out
 case neg => rw [decide_eq_false hP, if_pos hP]; rfl
 rw [decide_eq_true hP, if_neg (fun h => h hP)]
 by_cases h0 : k < 0
 ·rw [decide_eq_true h0, if_pos (.inl h0)]; rfl
 by_cases h1 : (P.length : Int) ≤ k
 ·rw [decide_eq_false h0, decide_eq_true h1, if_pos (.inr h1)]; rfl
 rw [decide_eq_false h0, decide_eq_false h1, if_neg (by rintro (h | h); exact h0 h; exact h1 h)]
 rw [nthP_rd (P := P) (k := k) (by omega) (by omega), decide_eq_true (show (0 : Int) ≤ k by omega), decide_eq_true (show k < ((P.length : Nat) : Int) by omega)]
 by_cases h2 : (nthP P k).2.2 = 1
 ·rw [decide_eq_true h2, if_pos h2]; rfl
 ·rw [decide_eq_false h2, if_neg h2]
  have hk : k.toNat < P.length := by omega
  simp only [decide_eq_true hk]
  rfl
theorem lost0 (hP : PoolsP P out) {k : Int} (h0 : 0 ≤ k) (h1 : k < (P.length : Int)) (busy : List Int) (hb : Sz busy) (v1 n : Int) (q : HT) :
  iter big u139_184_2_0 ((busy, (), ((busy.length : Nat) : Int), 0, ()), ((v1, out, k, 0, n, 0, busy, ()), (P, ()), (q.1, q.2.1, q.2.2, ()), (q.1, q.2.1, q.2.2, ()), ()), ()) =
  some (if busy.findIdx (fun at' => hasB (nthP P k) at' && !hasB q at') < busy.length then .inr ((((busy.findIdx (fun at' => hasB (nthP P k) at' && !hasB q at') : Nat) : Int), ()), ((v1, out, k, 0, n, 0, busy, ()), (P, ()), (q.1, q.2.1, q.2.2, ()), (q.1, q.2.1, q.2.2, ()), ()), ())
   else .inl ((), ((v1, out, k, 0, n, 0, busy, ()), (P, ()), (q.1, q.2.1, q.2.2, ()), (q.1, q.2.1, q.2.2, ()), ()), ())) :=
 it_idx busy (fun at' => hasB (nthP P k) at' && !hasB q at') (fun j => ((busy, (), ((busy.length : Nat) : Int), ((j : Nat) : Int), ()), ((v1, out, k, 0, n, 0, busy, ()), (P, ()), (q.1, q.2.1, q.2.2, ()), (q.1, q.2.1, q.2.2, ()), ()), ()))
  (fun j => ((((j : Nat) : Int), ()), ((v1, out, k, 0, n, 0, busy, ()), (P, ()), (q.1, q.2.1, q.2.2, ()), (q.1, q.2.1, q.2.2, ()), ()), ()))
  (y := ((), ((v1, out, k, 0, n, 0, busy, ()), (P, ()), (q.1, q.2.1, q.2.2, ()), (q.1, q.2.1, q.2.2, ()), ()), ()))
  (fun j h => by
   have e1 : hasB ((nthP P k).1, (nthP P k).2.1, (nthP P k).2.2) busy[j] = hasB (nthP P k) busy[j] := rfl
   have e2 : hasB (q.1, q.2.1, q.2.2) busy[j] = hasB q busy[j] := rfl
   simp only [u139_184_2_0, t139_184_2_0, ltn h, ge0, cond_true, Bool.and_self, Int.toNat_natCast, rdI h, nx h hb, decide_eq_true h0, decide_eq_true h1, nthP_rd h0 h1, f55_eq, Option.bind_some, e1, e2]
   cases hasB (nthP P k) busy[j] <;> cases hasB q busy[j] <;> rfl)
  (by simp only [u139_184_2_0, t139_184_2_0, nlt, cond_false]) (fuel := big) (by unfold big; unfold Sz at hb; omega)
theorem lost1 (hP : PoolsP P out) {k : Int} (h0 : 0 ≤ k) (h1 : k < (P.length : Int)) (busy : List Int) (hb : Sz busy) (v1 : Int) :
  iter big u139_184_2_1 ((busy, (), ((busy.length : Nat) : Int), 0, ()), ((v1, out, k, 0, 0, 0, busy, ()), (P, ()), (0, 0, 0, ()), ()), ()) =
  some (if busy.findIdx (fun at' => hasB (nthP P k) at' && !hasB (0, 0, 0) at') < busy.length then .inr ((((busy.findIdx (fun at' => hasB (nthP P k) at' && !hasB (0, 0, 0) at') : Nat) : Int), ()), ((v1, out, k, 0, 0, 0, busy, ()), (P, ()), (0, 0, 0, ()), ()), ())
   else .inl ((), ((v1, out, k, 0, 0, 0, busy, ()), (P, ()), (0, 0, 0, ()), ()), ())) :=
 it_idx busy (fun at' => hasB (nthP P k) at' && !hasB (0, 0, 0) at') (fun j => ((busy, (), ((busy.length : Nat) : Int), ((j : Nat) : Int), ()), ((v1, out, k, 0, 0, 0, busy, ()), (P, ()), (0, 0, 0, ()), ()), ()))
  (fun j => ((((j : Nat) : Int), ()), ((v1, out, k, 0, 0, 0, busy, ()), (P, ()), (0, 0, 0, ()), ()), ()))
  (y := ((), ((v1, out, k, 0, 0, 0, busy, ()), (P, ()), (0, 0, 0, ()), ()), ()))
  (fun j h => by
   have e1 : hasB ((nthP P k).1, (nthP P k).2.1, (nthP P k).2.2) busy[j] = hasB (nthP P k) busy[j] := rfl
   simp only [u139_184_2_1, t139_184_2_1, ltn h, ge0, cond_true, Bool.and_self, Int.toNat_natCast, rdI h, nx h hb, decide_eq_true h0, decide_eq_true h1, nthP_rd h0 h1, f55_eq, Option.bind_some, e1]
   cases hasB (nthP P k) busy[j] <;> cases hasB (0, 0, 0) busy[j] <;> rfl)
  (by simp only [u139_184_2_1, t139_184_2_1, nlt, cond_false]) (fuel := big) (by unfold big; unfold Sz at hb; omega)
theorem idx_any {α : Type} (l : List α) (q : α → Bool) : l.findIdx q < l.length ↔ l.any q = true := by
 rw [List.findIdx_lt_length, List.any_eq_true]
theorem f74_eq (hS : P.length ≤ 1000) (k n : Int) (busy : List Int) (hb : Sz busy) : f74 P out k n busy = some ((sizeP P out k n busy).1, (sizeP P out k n busy).2, ()) := by
 unfold f74 f115 f139 sizeP
 rw [fCP P hS]
 simp only [Option.bind_some, f45_eq]
 by_cases hP : PoolsP P out
 case neg => rw [decide_eq_false hP, if_pos hP]; rfl
 rw [decide_eq_true hP, if_neg (fun h => h hP)]
 by_cases h0 : k < 0
 ·rw [decide_eq_true h0, if_pos (.inl h0)]; rfl
 by_cases h1 : (P.length : Int) ≤ k
 ·rw [decide_eq_false h0, decide_eq_true h1, if_pos (.inr h1)]; rfl
 rw [decide_eq_false h0, decide_eq_false h1, if_neg (by rintro (h | h); exact h0 h; exact h1 h)]
 have g0 : (0 : Int) ≤ k := by omega
 have g1 : k < ((P.length : Nat) : Int) := by omega
 rw [nthP_rd (P := P) (k := k) g0 g1, decide_eq_true g0, decide_eq_true g1]
 have h158 := f157_eq P hP 2 k 0 n 0 busy k ((nthP P k).1, n, (nthP P k).2.2)
 simp only at h158
 have d1 : decide ((2 : Int) = 0) = false := rfl
 have d2 : decide ((2 : Int) = 1) = false := rfl
 have d3 : decide ((2 : Int) = 2) = true := rfl
 simp only [d1, d2, decide_true, Bool.not_false, Bool.not_true, cond_true, cond_false, Bool.and_self, h158, Option.bind_some]
 by_cases he : roomE P out k ((nthP P k).1, n, (nthP P k).2.2) = 0
 case neg => rw [if_pos he, decide_eq_false he]; simp only [Bool.not_false, cond_true, Option.bind_some, decide_eq_false he]
 rw [if_neg (fun h => h he), decide_eq_true he, lost0 hP g0 g1 busy hb 2 n ((nthP P k).1, n, (nthP P k).2.2)]
 unfold lostB
 simp only [Bool.not_true, cond_false]
 by_cases hl : busy.any (fun at' => hasB (nthP P k) at' && !hasB ((nthP P k).1, n, (nthP P k).2.2) at') = true
 ·rw [if_pos ((idx_any busy _).2 hl), if_pos hl]
  simp only [Option.bind_some, ge0, cond_true]
  rfl
 ·rw [if_neg (fun h => hl ((idx_any busy _).1 h)), if_neg hl]
  have hk : k.toNat < P.length := by omega
  simp only [Option.bind_some, decide_true, Bool.not_true, cond_false, decide_eq_true hk, cond_true]
theorem f76_eq (hS : P.length ≤ 1000) (k : Int) (busy : List Int) (hb : Sz busy) : f76 P out k busy = some ((goneP P out k busy).1, (goneP P out k busy).2, ()) := by
 unfold f76 f115 f139 goneP
 rw [fCP P hS]
 simp only [Option.bind_some, f45_eq]
 by_cases hP : PoolsP P out
 case neg => rw [decide_eq_false hP, if_pos hP]; rfl
 rw [decide_eq_true hP, if_neg (fun h => h hP)]
 by_cases h0 : k < 0
 ·rw [decide_eq_true h0, if_pos (.inl h0)]; rfl
 by_cases h1 : (P.length : Int) ≤ k
 ·rw [decide_eq_false h0, decide_eq_true h1, if_pos (.inr h1)]; rfl
 rw [decide_eq_false h0, decide_eq_false h1, if_neg (by rintro (h | h); exact h0 h; exact h1 h)]
 have g0 : (0 : Int) ≤ k := by omega
 have g1 : k < ((P.length : Nat) : Int) := by omega
 rw [nthP_rd (P := P) (k := k) g0 g1, decide_eq_true g0, decide_eq_true g1]
 have d1 : decide ((3 : Int) = 0) = false := rfl
 have d2 : decide ((3 : Int) = 1) = false := rfl
 have d3 : decide ((3 : Int) = 2) = false := rfl
 have d4 : decide ((3 : Int) = 3) = true := rfl
 simp only [d1, d2, d3, decide_true, Bool.not_false, Bool.not_true, cond_true, cond_false, Bool.and_self, Option.bind_some]
 by_cases he : (nthP P k).2.2 = 0
 ·rw [if_pos (.inl he), decide_eq_true he]; rfl
 rw [decide_eq_false he, lost1 hP g0 g1 busy hb 3]
 unfold lostB
 simp only [cond_false]
 by_cases hl : busy.any (fun at' => hasB (nthP P k) at' && !hasB (0, 0, 0) at') = true
 ·rw [if_pos ((idx_any busy _).2 hl), if_pos (.inr hl)]
  simp only [Option.bind_some, ge0, cond_true]
  rfl
 rw [if_neg (fun h => hl ((idx_any busy _).1 h)), if_neg (by rintro (h | h); exact he h; exact hl h)]
 have hk : k.toNat < P.length := by omega
 obtain ⟨i, rfl⟩ : ∃ i : Nat, k = (i : Int) := ⟨k.toNat, by omega⟩
 have hlt : i < P.length := by omega
 simp only [Option.bind_some, decide_true, Bool.not_true, cond_false]
 rw [nx hlt (by omega)]
 simp only [cond_false, Nat.zero_add, Nat.sub_zero, Int.toNat_natCast, List.take_length, ge0, Int.zero_add, Bool.true_and, List.length_drop, List.drop_zero]
 rw [decide_eq_true (show ((i : Nat) : Int) ≤ ((i + 1 : Nat) : Int) by omega), dec_le (show i + 1 ≤ P.length by omega), dec_le (Nat.le_refl P.length), decide_eq_false (show ¬ ((i : Nat) : Int) = ((i + 1 : Nat) : Int) by omega), dec_le (show i ≤ P.length by omega)]
 simp only [Bool.and_self, cond_true, cond_false]
 rw [decide_eq_true (show i + (P.length - (i + 1)) ≤ P.length by omega)]
 have hlen : (P.take i ++ P.drop (i + 1) ++ P.drop (i + (P.length - (i + 1)))).length = P.length := by
  simp only [List.length_append, List.length_take, List.length_drop]; omega
 simp only [cond_true, hlen]
 rw [dec_le (show i + (P.length - (i + 1)) ≤ P.length by omega), dec_le (Nat.le_refl P.length)]
 simp only [Bool.and_self, cond_true, Option.bind_some]
 congr 2
 rw [List.eraseIdx_eq_take_drop_succ]
 have hn : (P.take i ++ P.drop (i + 1)).length = i + (P.length - (i + 1)) := by
  simp only [List.length_append, List.length_take, List.length_drop]; omega
 have e1 : (P.take i ++ P.drop (i + 1) ++ P.drop (i + (P.length - (i + 1)))).take (i + (P.length - (i + 1))) = P.take i ++ P.drop (i + 1) := List.take_left' hn
 rw [e1, List.append_assoc, List.take_left' hn]
end
end Go.Proofs.Zz
