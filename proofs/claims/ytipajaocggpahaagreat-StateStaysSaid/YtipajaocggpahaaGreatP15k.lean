/- StateStays and StateJoins, of the program's words. -/
import Derived.Test.YtipajaocggpahaaGreatP15j
namespace Go.Proofs.Zz
open Go Go.Sy
set_option linter.unusedSimpArgs false
set_option linter.unusedVariables false

theorem eq_D (D E : DT) : (((decide (D.1.1 = E.1.1)) && ((decide (D.1.2 = E.1.2)) && true)) && (((decide (D.2.1.1 = E.2.1.1)) && ((decide (D.2.1.2 = E.2.1.2)) && true)) && ((decide (D.2.2.1 = E.2.2.1)) && ((decide (D.2.2.2.1 = E.2.2.2.1)) && ((decide (D.2.2.2.2.1 = E.2.2.2.2.1)) && ((decide (D.2.2.2.2.2 = E.2.2.2.2.2)) && true)))))) = decide (D = E) := by
  obtain ⟨⟨a, b⟩, ⟨c, d⟩, e, f, g, w⟩ := D
  obtain ⟨⟨a', b'⟩, ⟨c', d'⟩, e', f', g', w'⟩ := E
  rw [Bool.eq_iff_iff]
  simp [Prod.ext_iff, and_assoc]

theorem law4 (s : ST) (e : ET) (now : Int) :
    f4 s.1.1.1 s.1.1.2 s.1.2.1.1 s.1.2.1.2 s.1.2.2.1 s.1.2.2.2.1 s.1.2.2.2.2.1 s.1.2.2.2.2.2 s.2.1.1 s.2.1.2.1 s.2.1.2.2.1 s.2.1.2.2.2 s.2.2.1 s.2.2.2.1 s.2.2.2.2.1 s.2.2.2.2.2
      e.1 e.2.1 e.2.2.1 e.2.2.2.1 e.2.2.2.2.1 e.2.2.2.2.2.1 e.2.2.2.2.2.2.1 e.2.2.2.2.2.2.2.1 e.2.2.2.2.2.2.2.2 now = some (true, ()) := by
  unfold f4
  rw [f8_eq, f9_eq]
  simp only [Option.bind_some]
  by_cases hF : Few s
  case neg => rw [decide_eq_false hF]; rfl
  have h9 := hF.sm9
  have hs := hF.sm
  rw [decide_eq_true hF, f10_eq s now hs, f15_eq s e h9.1 h9.2.1 h9.2.2]
  simp only [Bool.not_true, cond_false, Option.bind_some]
  have hst : (settle s now).1 = (if CanSettle s now then settleS s now else s) ∧ (settle s now).2 = decide (CanSettle s now) := by
    unfold settle; split <;> rename_i h <;> simp [h]
  have hu : Sm (settle s now).1 := by
    rw [hst.1]; split
    · exact settle_sm hs
    · exact hs
  -- what is behind the first two
  have tail : ∀ X : Option (Bool × Unit), X = cond (!(decide ((applyS s e).2 = 0))) (some (true, ()))
      ((f14 (applyS s e).1.1.1.1 (applyS s e).1.1.1.2 (applyS s e).1.1.2.1.1 (applyS s e).1.1.2.1.2 (applyS s e).1.1.2.2.1 (applyS s e).1.1.2.2.2.1 (applyS s e).1.1.2.2.2.2.1 (applyS s e).1.1.2.2.2.2.2 (applyS s e).1.2.1.1 (applyS s e).1.2.1.2.1 (applyS s e).1.2.1.2.2.1 (applyS s e).1.2.1.2.2.2 (applyS s e).1.2.2.1 (applyS s e).1.2.2.2.1 (applyS s e).1.2.2.2.2.1 (applyS s e).1.2.2.2.2.2).bind fun y36 =>
        cond y36.1 (cond (decide ((applyS s e).1.2.2.1 = e.2.1)) (some (decide ((applyS s e).1.1 = s.1), ())) (some (false, ()))) (some (false, ()))) → X = some (true, ()) := by
    intro X hX
    subst hX
    by_cases he : (applyS s e).2 = 0
    case neg => rw [decide_eq_false he]; rfl
    obtain ⟨_, _, hC, hM, hmk⟩ := apply_may he
    have hsm := hM.sm
    obtain ⟨k1, k2⟩ := make_keeps hmk
    rw [decide_eq_true he, f14_eq _ hsm.szP hsm.szL hsm.szH, decide_eq_true hM]
    simp only [Bool.not_true, cond_false, Option.bind_some, cond_true]
    rw [decide_eq_true (show (applyS s e).1.2.2.1 = e.2.1 from k2), decide_eq_true (show (applyS s e).1.1 = s.1 from k1)]
    rfl
  -- what is settled
  have mid : ∀ X Y : Option (Bool × Unit), Y = some (true, ()) → X = cond (decide (CanSettle s now)) ((f14 (settle s now).1.1.1.1 (settle s now).1.1.1.2 (settle s now).1.1.2.1.1 (settle s now).1.1.2.1.2 (settle s now).1.1.2.2.1 (settle s now).1.1.2.2.2.1 (settle s now).1.1.2.2.2.2.1 (settle s now).1.1.2.2.2.2.2 (settle s now).1.2.1.1 (settle s now).1.2.1.2.1 (settle s now).1.2.1.2.2.1 (settle s now).1.2.1.2.2.2 (settle s now).1.2.2.1 (settle s now).1.2.2.2.1 (settle s now).1.2.2.2.2.1 (settle s now).1.2.2.2.2.2).bind fun y34 =>
      cond (!y34.1) (some (false, ())) (cond (!(settle (settle s now).1 now).2) (some (false, ())) ((f13 (settle (settle s now).1 now).1.1.1.1 (settle (settle s now).1 now).1.1.1.2 (settle (settle s now).1 now).1.1.2.1.1 (settle (settle s now).1 now).1.1.2.1.2 (settle (settle s now).1 now).1.1.2.2.1 (settle (settle s now).1 now).1.1.2.2.2.1 (settle (settle s now).1 now).1.1.2.2.2.2.1 (settle (settle s now).1 now).1.1.2.2.2.2.2 (settle (settle s now).1 now).1.2.1.1 (settle (settle s now).1 now).1.2.1.2.1 (settle (settle s now).1 now).1.2.1.2.2.1 (settle (settle s now).1 now).1.2.1.2.2.2 (settle (settle s now).1 now).1.2.2.1 (settle (settle s now).1 now).1.2.2.2.1 (settle (settle s now).1 now).1.2.2.2.2.1 (settle (settle s now).1 now).1.2.2.2.2.2
          (settle s now).1.1.1.1 (settle s now).1.1.1.2 (settle s now).1.1.2.1.1 (settle s now).1.1.2.1.2 (settle s now).1.1.2.2.1 (settle s now).1.1.2.2.2.1 (settle s now).1.1.2.2.2.2.1 (settle s now).1.1.2.2.2.2.2 (settle s now).1.2.1.1 (settle s now).1.2.1.2.1 (settle s now).1.2.1.2.2.1 (settle s now).1.2.1.2.2.2 (settle s now).1.2.2.1 (settle s now).1.2.2.2.1 (settle s now).1.2.2.2.2.1 (settle s now).1.2.2.2.2.2).bind fun y35 => cond (!y35.1) (some (false, ())) Y))) Y → X = some (true, ()) := by
    intro X Y hY hX
    subst hX
    by_cases hC : CanSettle s now
    case neg => rw [decide_eq_false hC]; exact hY
    have e1 : (settle s now).1 = settleS s now := by rw [hst.1, if_pos hC]
    have hM : MayS (settle s now).1 := by rw [e1]; exact settle_may hC
    have e2 : settle (settle s now).1 now = ((settle s now).1, true) := by rw [e1]; exact settle_twice hC
    rw [decide_eq_true hC, f14_eq _ hu.szP hu.szL hu.szH, decide_eq_true hM, e2]
    simp only [Bool.not_true, cond_false, Option.bind_some, cond_true]
    rw [f13_eq _ _ hu, decide_eq_true rfl]
    exact hY
  have first : ∀ (b : Bool) (X Y : Option (Bool × Unit)), (b = false → (settle s now).1 = s) → Y = some (true, ()) → X = cond (!b) ((f13 (settle s now).1.1.1.1 (settle s now).1.1.1.2 (settle s now).1.1.2.1.1 (settle s now).1.1.2.1.2 (settle s now).1.1.2.2.1 (settle s now).1.1.2.2.2.1 (settle s now).1.1.2.2.2.2.1 (settle s now).1.1.2.2.2.2.2 (settle s now).1.2.1.1 (settle s now).1.2.1.2.1 (settle s now).1.2.1.2.2.1 (settle s now).1.2.1.2.2.2 (settle s now).1.2.2.1 (settle s now).1.2.2.2.1 (settle s now).1.2.2.2.2.1 (settle s now).1.2.2.2.2.2
      s.1.1.1 s.1.1.2 s.1.2.1.1 s.1.2.1.2 s.1.2.2.1 s.1.2.2.2.1 s.1.2.2.2.2.1 s.1.2.2.2.2.2 s.2.1.1 s.2.1.2.1 s.2.1.2.2.1 s.2.1.2.2.2 s.2.2.1 s.2.2.2.1 s.2.2.2.2.1 s.2.2.2.2.2).bind fun y31 => cond (!y31.1) (some (false, ())) Y) Y → X = some (true, ()) := by
    intro b X Y hb hY hX
    subst hX
    cases b with
    | true => exact hY
    | false =>
      rw [hb rfl, f13_eq _ _ hs, decide_eq_true rfl]
      exact hY
  have second : ∀ (X Y : Option (Bool × Unit)), Y = some (true, ()) → X = cond (!(decide ((applyS s e).2 = 0))) ((f13 (applyS s e).1.1.1.1 (applyS s e).1.1.1.2 (applyS s e).1.1.2.1.1 (applyS s e).1.1.2.1.2 (applyS s e).1.1.2.2.1 (applyS s e).1.1.2.2.2.1 (applyS s e).1.1.2.2.2.2.1 (applyS s e).1.1.2.2.2.2.2 (applyS s e).1.2.1.1 (applyS s e).1.2.1.2.1 (applyS s e).1.2.1.2.2.1 (applyS s e).1.2.1.2.2.2 (applyS s e).1.2.2.1 (applyS s e).1.2.2.2.1 (applyS s e).1.2.2.2.2.1 (applyS s e).1.2.2.2.2.2
      s.1.1.1 s.1.1.2 s.1.2.1.1 s.1.2.1.2 s.1.2.2.1 s.1.2.2.2.1 s.1.2.2.2.2.1 s.1.2.2.2.2.2 s.2.1.1 s.2.1.2.1 s.2.1.2.2.1 s.2.1.2.2.2 s.2.2.1 s.2.2.2.1 s.2.2.2.2.1 s.2.2.2.2.2).bind fun y32 => cond (!y32.1) (some (false, ())) Y) Y → X = some (true, ()) := by
    intro X Y hY hX
    subst hX
    by_cases he : (applyS s e).2 = 0
    · rw [decide_eq_true he]; exact hY
    · rw [decide_eq_false he, apply_err he, f13_eq _ _ hs, decide_eq_true rfl]
      exact hY
  have hb : (settle s now).2 = false → (settle s now).1 = s := fun h => by
    rw [hst.2] at h
    rw [hst.1, if_neg (by simpa using h)]
  rw [f10_eq _ now hu]
  simp only [Option.bind_some, eq_D]
  rw [hst.2] at hb ⊢
  refine first _ _ _ hb ?_ rfl
  refine second _ _ ?_ rfl
  exact mid _ _ (tail _ rfl) rfl

theorem all_nil (s : ST) : allS' s [] = (s, 0) := by unfold allS' goS; rfl

theorem law7 (s : ST) (l : List ET) (k : Int) :
    f7 s.1.1.1 s.1.1.2 s.1.2.1.1 s.1.2.1.2 s.1.2.2.1 s.1.2.2.2.1 s.1.2.2.2.2.1 s.1.2.2.2.2.2 s.2.1.1 s.2.1.2.1 s.2.1.2.2.1 s.2.1.2.2.2 s.2.2.1 s.2.2.2.1 s.2.2.2.2.1 s.2.2.2.2.2 l k = some (true, ()) := by
  unfold f7
  rw [f8_eq, f9_eq]
  simp only [Option.bind_some]
  by_cases hF : Few s
  case neg => rw [decide_eq_false hF]; rfl
  have h9 := hF.sm9
  have hs := hF.sm
  rw [decide_eq_true hF]
  simp only [Bool.not_true, cond_false]
  by_cases h30 : (30 : Int) < ((l.length : Nat) : Int)
  · rw [decide_eq_true h30]; rfl
  rw [decide_eq_false h30]
  by_cases hk0 : k < 0
  · rw [decide_eq_true hk0]; rfl
  rw [decide_eq_false hk0]
  by_cases hk1 : ((l.length : Nat) : Int) < k
  · rw [decide_eq_true hk1]; rfl
  rw [decide_eq_false hk1]
  obtain ⟨n, rfl⟩ : ∃ n : Nat, k = (n : Int) := ⟨k.toNat, by omega⟩
  have hn : n ≤ l.length := by omega
  simp only [cond_false, Int.toNat_natCast, List.take_length, List.drop_zero]
  rw [ge0, dec_le hn, dec_le (Nat.le_refl l.length), f16_eq s l h9 (by omega), f16_eq s (l.take n) h9 (by rw [List.length_take]; omega), f16_eq s [] h9 (by simp), all_nil]
  simp only [Option.bind_some, Bool.and_self, cond_true]
  have e2 := go_append (l.take n) (l.drop n) s
  rw [List.take_append_drop] at e2
  have hall : ∀ (t : ST) (m : List ET), (allS' t m).2 = (goS t m).2 ∧ ((goS t m).2 = 0 → (allS' t m).1 = (goS t m).1) ∧ ((goS t m).2 ≠ 0 → (allS' t m).1 = t) := fun t m => by
    unfold allS'
    split
    · rename_i h; exact ⟨rfl, fun _ => rfl, fun h' => absurd h h'⟩
    · rename_i h; exact ⟨rfl, fun h' => absurd h' h, fun _ => rfl⟩
  obtain ⟨a1, a2, a3⟩ := hall s l
  obtain ⟨b1, b2, b3⟩ := hall s (l.take n)
  by_cases hb : (goS s (l.take n)).2 = 0
  · rw [if_pos hb] at e2
    have hb9 : Sm9 (allS' s (l.take n)).1 := by rw [b2 hb]; exact go_sm9 _ h9
    rw [f16_eq (allS' s (l.take n)).1 (l.drop n) hb9 (by rw [List.length_drop]; omega)]
    simp only [Option.bind_some, decide_true, Bool.not_true, cond_false]
    rw [f13_eq s s hs, decide_eq_true rfl]
    simp only [Option.bind_some, Bool.not_true, cond_false]
    rw [b1, decide_eq_true hb]
    simp only [Bool.not_true, cond_false]
    obtain ⟨c1, c2, c3⟩ := hall (allS' s (l.take n)).1 (l.drop n)
    rw [b2 hb] at c1 c2 c3 ⊢
    rw [a1, c1, e2, decide_eq_true rfl]
    simp only [cond_true]
    by_cases hg : (goS (goS s (l.take n)).1 (l.drop n)).2 = 0
    · rw [decide_eq_true hg]
      simp only [Bool.not_true, cond_false]
      have e3 : (allS' s l).1 = (allS' (goS s (l.take n)).1 (l.drop n)).1 := by rw [a2 (by rw [e2]; exact hg), c2 hg, e2]
      have h9a : Sm9 (allS' s l).1 := by rw [a2 (by rw [e2]; exact hg)]; exact go_sm9 _ h9
      rw [f13_eq _ _ h9a.sm, decide_eq_true e3]; rfl
    · rw [decide_eq_false hg]; rfl
  · rw [if_neg hb] at e2
    have hb9 : Sm9 (allS' s (l.take n)).1 := by rw [b3 hb]; exact h9
    rw [f16_eq (allS' s (l.take n)).1 (l.drop n) hb9 (by rw [List.length_drop]; omega)]
    simp only [Option.bind_some, decide_true, Bool.not_true, cond_false]
    rw [f13_eq s s hs, decide_eq_true rfl]
    simp only [Option.bind_some, Bool.not_true, cond_false, cond_true]
    rw [b1, decide_eq_false hb, a1, e2, decide_eq_true rfl]
    rfl
end Go.Proofs.Zz
