/- The mapping's functions in the model's words. -/
import Derived.Test.YtipajaocggpahaaGreatP15a
namespace Go.Proofs.Zz
open Go Go.Sy
set_option linter.unusedSimpArgs false
set_option linter.unusedVariables false

theorem f69_eq (a b c : Int) : f69 a b c = some (decide (b ≤ a) && decide (a ≤ c), ()) := by
  unfold f69
  cases decide (b ≤ a) <;> rfl

theorem f40_eq (a b c : Int) : f40 a b c = some (decide (b ≤ a) && decide (a ≤ c), ()) := by
  unfold f40
  cases decide (b ≤ a) <;> rfl

theorem f78_fit {a b c d e f g h : Int} (hx : 1 ≤ sizeI a b) (hy : 1 ≤ sizeI c d) : f78 a b c d e f g h = some (ratI (sizeI a b) (sizeI c d), ()) := by
  unfold f78
  rw [f71_eq, f71_eq]
  simp only [Option.bind_some]
  have hx2 := (sizeI_bound a b).2
  generalize sizeI a b = x at hx hx2 ⊢
  generalize sizeI c d = y at hy ⊢
  have : (cond (decide (y < x)) y x) ≠ 0 := by
    by_cases h : y < x
    · rw [decide_eq_true h]; show y ≠ 0; omega
    · rw [decide_eq_false h]; show x ≠ 0; omega
  rw [decide_eq_false this, decide_eq_false (show ¬ y = 0 by omega)]
  simp only [Bool.not_false, cond_true, cond_false]
  have e1 : IntKind.wrap .i64 (x - 1) = x - 1 := w64 (by omega) (by omega)
  have h1 : 0 ≤ (x - 1) / y := Int.ediv_nonneg (by omega) (by omega)
  have h2 : (x - 1) / y ≤ x - 1 := Int.ediv_le_self _ (by omega)
  have e2 : Int.tdiv (x - 1) y = (x - 1) / y := Int.tdiv_eq_ediv_of_nonneg (by omega)
  rw [e1, e2, w64 (x := (x - 1) / y) (by omega) (by omega), w64 (x := (x - 1) / y + 1) (by omega) (by omega)]
  rfl

theorem f78_some (a b c d e f g h : Int) : ∃ r, f78 a b c d e f g h = some (r, ()) := by
  unfold f78
  rw [f71_eq, f71_eq]
  simp only [Option.bind_some]
  have h1 := (sizeI_bound a b).1
  have h2 := (sizeI_bound c d).1
  generalize sizeI a b = x at h1 ⊢
  generalize sizeI c d = y at h2 ⊢
  by_cases hy : y = 0
  · subst hy
    have : (cond (decide ((0 : Int) < x)) 0 x) = 0 := by
      by_cases hx : (0 : Int) < x
      · rw [decide_eq_true hx]; rfl
      · rw [decide_eq_false hx]; show x = 0; omega
    rw [decide_eq_true this]
    exact ⟨_, rfl⟩
  · rw [decide_eq_false hy]
    cases decide ((cond (decide (y < x)) y x) = 0) <;> exact ⟨_, rfl⟩

theorem f77_eq {e f g : Int} (h1 : 1 ≤ e) (h2 : e ≤ f) (h3 : f ≤ 65535) (h4 : 0 ≤ g) (h5 : g ≤ f - e) (a b c d h : Int) : f77 a b c d e f g h = some (f - e + 1 - g, ()) := by
  unfold f77
  rw [w64 (x := f - e) (by omega) (by omega), w64 (x := f - e + 1) (by omega) (by omega), w64 (by omega) (by omega)]

theorem f38_ok (a b c d e f g h : Int) : ∃ r, f38 a b c d e f g h = some (r, ()) ∧ (r = true ↔ FitP ((a, b), ((c, d), (e, (f, (g, h)))))) := by
  obtain ⟨q, hq⟩ := f78_some a b c d e f g h
  unfold f38
  rw [f71_eq, f71_eq]
  simp only [Option.bind_some, f69_eq, f73_eq, hq]
  by_cases c1 : 1 ≤ sizeI a b ∧ sizeI a b ≤ 32
  case neg =>
    have : (decide (1 ≤ sizeI a b) && decide (sizeI a b ≤ 32)) = false := by rw [Bool.and_eq_false_iff, decide_eq_false_iff_not, decide_eq_false_iff_not]; omega
    rw [this]
    exact ⟨_, rfl, by simp, fun F => absurd ⟨F.x1, F.x2⟩ c1⟩
  rw [decide_eq_true c1.1, decide_eq_true c1.2]
  by_cases c2 : 1 ≤ sizeI c d ∧ sizeI c d ≤ 4
  case neg =>
    have : (decide (1 ≤ sizeI c d) && decide (sizeI c d ≤ 4)) = false := by rw [Bool.and_eq_false_iff, decide_eq_false_iff_not, decide_eq_false_iff_not]; omega
    rw [this]
    exact ⟨_, rfl, by simp, fun F => absurd ⟨F.y1, F.y2⟩ c2⟩
  rw [decide_eq_true c2.1, decide_eq_true c2.2]
  simp only [Bool.and_self, cond_true, Bool.not_true, cond_false, Bool.not_not]
  by_cases cm : MeetP a b c d
  · rw [decide_eq_true cm]
    exact ⟨_, rfl, by simp, fun F => absurd cm F.meet⟩
  rw [decide_eq_false cm]
  simp only [cond_false]
  by_cases c3 : 1 ≤ e ∧ e ≤ f
  case neg =>
    have : (decide (1 ≤ e) && decide (e ≤ f)) = false := by rw [Bool.and_eq_false_iff, decide_eq_false_iff_not, decide_eq_false_iff_not]; omega
    rw [this]
    exact ⟨_, rfl, by simp, fun F => absurd ⟨F.lo1, F.lo2⟩ c3⟩
  rw [decide_eq_true c3.1, decide_eq_true c3.2]
  simp only [Bool.and_self, cond_true]
  by_cases c4 : f ≤ 65535
  case neg =>
    rw [decide_eq_false c4]
    exact ⟨_, rfl, by simp, fun F => absurd F.hi c4⟩
  rw [decide_eq_true c4, w64 (x := f - e) (by omega) (by omega)]
  simp only [Bool.not_true, cond_false]
  by_cases c6 : 0 ≤ g ∧ g ≤ f - e
  case neg =>
    have : (decide (0 ≤ g) && decide (g ≤ f - e)) = false := by rw [Bool.and_eq_false_iff, decide_eq_false_iff_not, decide_eq_false_iff_not]; omega
    rw [this]
    exact ⟨_, rfl, by simp, fun F => absurd ⟨F.g1, F.g2⟩ c6⟩
  rw [decide_eq_true c6.1, decide_eq_true c6.2]
  simp only [Bool.and_self, cond_true]
  by_cases c7 : 1 ≤ h ∧ h ≤ 65535
  case neg =>
    have : (decide (1 ≤ h) && decide (h ≤ 65535)) = false := by rw [Bool.and_eq_false_iff, decide_eq_false_iff_not, decide_eq_false_iff_not]; omega
    rw [this]
    exact ⟨_, rfl, by simp, fun F => absurd ⟨F.h1, F.h2⟩ c7⟩
  rw [decide_eq_true c7.1, decide_eq_true c7.2, decide_eq_false (show ¬ h = 0 by omega)]
  simp only [Bool.and_self, cond_true, Bool.not_false]
  have e2 : Int.tdiv g h = g / h := Int.tdiv_eq_ediv_of_nonneg c6.1
  have p1 : 0 ≤ g / h := Int.ediv_nonneg c6.1 (by omega)
  have p2 : g / h ≤ g := Int.ediv_le_self _ c6.1
  rw [e2, w64 (by omega) (by omega)]
  by_cases c8 : g / h ≤ 8
  case neg =>
    rw [decide_eq_false c8]
    exact ⟨_, rfl, by simp, fun F => absurd F.blk c8⟩
  rw [decide_eq_true c8, f77_eq c3.1 c3.2 c4 c6.1 c6.2]
  simp only [Bool.not_true, cond_false, Option.bind_some]
  rw [f78_fit c1.1 c2.1, Option.some.injEq, Prod.mk.injEq] at hq
  obtain ⟨hq, _⟩ := hq
  by_cases c9 : q ≤ f - e + 1 - g
  · rw [decide_eq_true c9]
    exact ⟨_, rfl, fun _ => ⟨c1.1, c1.2, c2.1, c2.2, cm, c3.1, c3.2, c4, c6.1, c6.2, c7.1, c7.2, c8, by rw [← hq] at c9; exact c9⟩, fun _ => rfl⟩
  · rw [decide_eq_false c9]
    exact ⟨_, rfl, by simp, fun F => absurd (by have := F.sh; rw [← hq]; exact this) c9⟩

theorem f38_eq (D : DT) : f38 D.1.1 D.1.2 D.2.1.1 D.2.1.2 D.2.2.1 D.2.2.2.1 D.2.2.2.2.1 D.2.2.2.2.2 = some (decide (FitP D), ()) := by
  obtain ⟨r, h1, h2⟩ := f38_ok D.1.1 D.1.2 D.2.1.1 D.2.1.2 D.2.2.1 D.2.2.2.1 D.2.2.2.2.1 D.2.2.2.2.2
  rw [h1]
  have : r = decide (FitP D) := by
    by_cases hf : FitP D
    · rw [decide_eq_true hf]; exact h2.2 hf
    · rw [decide_eq_false hf]
      cases r with
      | false => rfl
      | true => exact absurd (h2.1 rfl) hf
  rw [this]

section
variable {D : DT}
theorem f103_fit (F : FitP D) : f103 D.1.1 D.1.2 D.2.1.1 D.2.1.2 D.2.2.1 D.2.2.2.1 D.2.2.2.2.1 D.2.2.2.2.2 = some (each D, ()) := by
  have hr := F.rat1
  have he := F.each1
  unfold f103
  rw [f38_eq, decide_eq_true F, f77_eq F.lo1 F.lo2 F.hi F.g1 F.g2, f78_fit F.x1 F.y1]
  simp only [Option.bind_some, Bool.not_true, cond_false]
  have er : ratI (sizeI D.1.1 D.1.2) (sizeI D.2.1.1 D.2.1.2) = rat D := rfl
  rw [er, decide_eq_false (show ¬ rat D = 0 by omega)]
  simp only [Bool.not_false, cond_true]
  have hs : 0 ≤ hiI D - loI D + 1 - dynI D := by have := F.g2; omega
  have p2 : (hiI D - loI D + 1 - dynI D) / rat D ≤ hiI D - loI D + 1 - dynI D := Int.ediv_le_self _ hs
  have e2 : Int.tdiv (hiI D - loI D + 1 - dynI D) (rat D) = each D := Int.tdiv_eq_ediv_of_nonneg hs
  unfold each at he e2 ⊢
  rw [e2, w64 (by omega) (by have := F.hi; have := F.lo1; have := F.g1; omega)]

theorem f85_eq (sub : Int) : f85 D.1.1 D.1.2 D.2.1.1 D.2.1.2 D.2.2.1 D.2.2.2.1 D.2.2.2.2.1 D.2.2.2.2.2 sub = some (if SubP D sub then baseI D sub else (0, (0, 0)), (decide (SubP D sub), ())) := by
  unfold f85
  rw [f38_eq]
  simp only [Option.bind_some]
  by_cases F : FitP D
  case neg =>
    have : ¬ SubP D sub := fun h => F h.1
    rw [decide_eq_false F, decide_eq_false this, if_neg this]; rfl
  rw [decide_eq_true F]
  simp only [Bool.not_true, cond_false]
  by_cases h0 : sub < 0
  · have : ¬ SubP D sub := fun h => by have := h.2.1; omega
    rw [decide_eq_true h0, decide_eq_false this, if_neg this]; rfl
  rw [decide_eq_false h0, f71_eq]
  simp only [cond_false, Option.bind_some]
  have ex : sizeI D.1.1 D.1.2 = szX D := rfl
  by_cases h1 : szX D ≤ sub
  · have : ¬ SubP D sub := fun h => by have := h.2.2; omega
    rw [ex, decide_eq_true h1, decide_eq_false this, if_neg this]; rfl
  have hS : SubP D sub := ⟨F, by omega, by omega⟩
  rw [ex, decide_eq_false h1, f78_fit F.x1 F.y1, f103_fit F, decide_eq_true hS, if_pos hS]
  simp only [cond_false, Option.bind_some]
  have er : ratI (sizeI D.1.1 D.1.2) (sizeI D.2.1.1 D.2.1.2) = rat D := rfl
  rw [er]
  have hr := F.rat1
  have he := F.each1
  obtain ⟨q1, q2, q3, q4, q5⟩ := F.base (sub := sub) (by omega) (by omega)
  rw [decide_eq_false (show ¬ rat D = 0 by omega)]
  simp only [Bool.not_false, cond_true]
  have t1 : Int.tdiv sub (rat D) = sub / rat D := Int.tdiv_eq_ediv_of_nonneg (by omega)
  have t2 : Int.tmod sub (rat D) = sub % rat D := Int.tmod_eq_emod_of_nonneg (by omega)
  have hy2 := F.y2
  have hhi := F.hi
  have hlo := F.lo1
  have hg := F.g1
  unfold baseI
  unfold baseFrom at q3 q4 ⊢
  rw [t1, t2]
  generalize sub % rat D * each D = k at q3 q4 q5 ⊢
  generalize each D = w at he q4 ⊢
  rw [w64 (x := sub / rat D) (by omega) (by omega), w64 (x := k) (by omega) (by omega), w64 (x := loI D + k) (by omega) (by omega), w64 (x := loI D + k + w) (by omega) (by omega), w64 (x := loI D + k + w - 1) (by omega) (by omega)]

theorem f104_eq : f104 D.1.1 D.1.2 D.2.1.1 D.2.1.2 D.2.2.1 D.2.2.2.1 D.2.2.2.2.1 D.2.2.2.2.2 = some (if FitP D then blks D else 0, ()) := by
  unfold f104
  rw [f38_eq]
  simp only [Option.bind_some]
  by_cases F : FitP D
  case neg => rw [decide_eq_false F, if_neg F]; rfl
  rw [decide_eq_true F, if_pos F]
  have h1 := F.h1
  have g1 := F.g1
  simp only [Bool.not_true, cond_false]
  rw [decide_eq_false (show ¬ wdI D = 0 by omega)]
  have e2 : Int.tdiv D.2.2.2.2.1 D.2.2.2.2.2 = blks D := Int.tdiv_eq_ediv_of_nonneg g1
  have p1 : 0 ≤ blks D := Int.ediv_nonneg g1 (by omega)
  have := F.blk
  rw [e2, w64 (by omega) (by omega)]
  rfl

theorem f86_eq (at' blk : Int) : f86 D.1.1 D.1.2 D.2.1.1 D.2.1.2 D.2.2.1 D.2.2.2.1 D.2.2.2.2.1 D.2.2.2.2.2 at' blk = some (if BlkP D at' blk then blkI D at' blk else (0, (0, 0)), (decide (BlkP D at' blk), ())) := by
  unfold f86
  rw [f71_eq, f104_eq]
  simp only [Option.bind_some]
  have ey : sizeI D.2.1.1 D.2.1.2 = szY D := rfl
  rw [ey]
  by_cases h0 : at' < 0
  · have : ¬ BlkP D at' blk := fun h => by have := h.2.1.1; omega
    rw [decide_eq_true h0, decide_eq_false this, if_neg this]; rfl
  rw [decide_eq_false h0]
  simp only [cond_false]
  by_cases h1 : szY D ≤ at'
  · have : ¬ BlkP D at' blk := fun h => by have := h.2.1.2; omega
    rw [decide_eq_true h1, decide_eq_false this, if_neg this]; rfl
  rw [decide_eq_false h1]
  simp only [cond_false]
  by_cases h2 : blk < 0
  · have : ¬ BlkP D at' blk := fun h => by have := h.2.2.1; omega
    rw [decide_eq_true h2, decide_eq_false this, if_neg this]; rfl
  rw [decide_eq_false h2]
  simp only [cond_false]
  by_cases F : FitP D
  case neg =>
    have : ¬ BlkP D at' blk := fun h => F h.1
    rw [if_neg F, decide_eq_true (show (0 : Int) ≤ blk by omega), decide_eq_false this, if_neg this]; rfl
  rw [if_pos F]
  by_cases h3 : blks D ≤ blk
  · have : ¬ BlkP D at' blk := fun h => by have := h.2.2.2; omega
    rw [decide_eq_true h3, decide_eq_false this, if_neg this]; rfl
  have hB : BlkP D at' blk := ⟨F, by omega, by omega, by omega⟩
  rw [decide_eq_false h3, decide_eq_true hB, if_pos hB]
  obtain ⟨q1, q2⟩ := F.block (blk := blk) (by omega) (by omega)
  have := F.g2
  have := F.hi
  have := F.lo1
  have := F.h1
  have := F.g1
  simp only [cond_false]
  unfold blkI
  generalize blk * wdI D = k at q1 q2 ⊢
  rw [w64 (x := k) (by omega) (by omega), w64 (x := hiI D - dynI D) (by omega) (by omega), w64 (x := hiI D - dynI D + 1) (by omega) (by omega), w64 (x := hiI D - dynI D + 1 + k) (by omega) (by omega), w64 (x := hiI D - dynI D + 1 + k + wdI D) (by omega) (by omega), w64 (x := hiI D - dynI D + 1 + k + wdI D - 1) (by omega) (by omega)]
end
end Go.Proofs.Zz
