/- Plain laws: LeaseOrder. -/
import Derived.Test.YticonaifcigpoaaP12d
namespace Go.Proofs.Zz
open Go Go.Sy
set_option linter.unusedSimpArgs false
set_option linter.unusedVariables false

theorem srt_ext : ∀ {l m : List LT}, Srt l → Srt m → (∀ x, x ∈ l ↔ x ∈ m) → l = m
  | [], [], _, _, _ => rfl
  | [], y :: m, _, _, h => by have := (h y).2 (by simp); simp at this
  | x :: l, [], _, _, h => by have := (h x).1 (by simp); simp at this
  | x :: l, y :: m, hl, hm, h => by
    obtain ⟨hl1, hl2⟩ := List.pairwise_cons.1 hl
    obtain ⟨hm1, hm2⟩ := List.pairwise_cons.1 hm
    have hxy : x = y := by
      have h1 := (h x).1 (by simp)
      have h2 := (h y).2 (by simp)
      rcases List.mem_cons.1 h1 with h1 | h1
      · exact h1
      · rcases List.mem_cons.1 h2 with h2 | h2
        · exact h2.symm
        · exact (ltK_irrefl (ltK_trans (hm1 x h1) (hl1 y h2))).elim
    subst hxy
    congr 1
    refine srt_ext hl2 hm2 fun z => ⟨fun hz => ?_, fun hz => ?_⟩
    · rcases List.mem_cons.1 ((h z).1 (by simp [hz])) with h1 | h1
      · subst h1; exact (ltK_irrefl (hl1 z hz)).elim
      · exact h1
    · rcases List.mem_cons.1 ((h z).2 (by simp [hz])) with h1 | h1
      · subst h1; exact (ltK_irrefl (hm1 z hz)).elim
      · exact h1

theorem mem_ins {l : List LT} {x y : LT} : y ∈ ins l x ↔ y = x ∨ y ∈ l := by
  unfold ins
  have e : y ∈ l ↔ y ∈ l.take (l.findIdx (behP x.2.1 x.2.2.1)) ∨ y ∈ l.drop (l.findIdx (behP x.2.1 x.2.2.1)) := by
    rw [← List.mem_append, List.take_append_drop]
  rw [e, List.mem_append, List.mem_cons]
  constructor
  · rintro (h | h | h)
    · exact .inr (.inl h)
    · exact .inl h
    · exact .inr (.inr h)
  · rintro (h | h | h)
    · exact .inr (.inl h)
    · exact .inl h
    · exact .inr (.inr h)

theorem put_eq (l : List LT) (hl : l.length < 32) (s a b c d : Int) : f15 l s a b c d = some (if has l a b = true then (l, (false, ())) else (ins l (s, (a, (b, (c, d)))), (true, ()))) := by
  rw [f15_eq l (by omega)]
  by_cases h : has l a b = true
  · rw [if_pos (.inl h), if_pos h]
  · rw [if_neg (by rintro (h' | h'); exact h h'; omega), if_neg h]

theorem put_two (l : List LT) (hl : l.length ≤ 30) (hs : Srt l) (s a b c d s' a' b' c' d' : Int) (hk : ¬ (a = a' ∧ b = b')) :
    ∃ p1 t1 p2 t2 p3, f15 l s a b c d = some (p1, (t1, ())) ∧ f15 p1 s' a' b' c' d' = some (p2, (t2, ())) ∧ f15 l s' a' b' c' d' = some (p3, (t2, ())) ∧ f15 p3 s a b c d = some (p2, (t1, ())) ∧ p2.length ≤ 32 := by
  have hA := ins_len l (s, (a, (b, (c, d))))
  have hB := ins_len l (s', (a', (b', (c', d'))))
  have eA := put_eq l (by omega) s a b c d
  have eB := put_eq l (by omega) s' a' b' c' d'
  have eAB := put_eq (ins l (s, (a, (b, (c, d))))) (by omega) s' a' b' c' d'
  have eBA := put_eq (ins l (s', (a', (b', (c', d'))))) (by omega) s a b c d
  have k1 : findP a' b' (s, (a, (b, (c, d)))) = false := by
    unfold findP; simp only [Bool.and_eq_false_iff, decide_eq_false_iff_not]; omega
  have k2 : findP a b (s', (a', (b', (c', d')))) = false := by
    unfold findP; simp only [Bool.and_eq_false_iff, decide_eq_false_iff_not]; omega
  rw [has_ins, k1, Bool.or_false] at eAB
  rw [has_ins, k2, Bool.or_false] at eBA
  cases hpa : has l a b with
  | true =>
    rw [if_pos hpa] at eA eBA
    cases hpb : has l a' b' with
    | true =>
      rw [if_pos hpb] at eB eAB
      exact ⟨l, false, l, false, l, eA, eB, eB, eA, by omega⟩
    | false =>
      rw [if_neg (by rw [hpb]; exact Bool.false_ne_true)] at eB eAB
      exact ⟨l, false, _, true, _, eA, eB, eB, eBA, by omega⟩
  | false =>
    rw [if_neg (by rw [hpa]; exact Bool.false_ne_true)] at eA eBA
    cases hpb : has l a' b' with
    | true =>
      rw [if_pos hpb] at eB eAB
      exact ⟨_, true, _, false, l, eA, eAB, eB, eA, by omega⟩
    | false =>
      rw [if_neg (by rw [hpb]; exact Bool.false_ne_true)] at eB eAB
      have hsA : Srt (ins l (s, (a, (b, (c, d))))) := srt_ins hs hpa
      have hsB : Srt (ins l (s', (a', (b', (c', d'))))) := srt_ins hs hpb
      have hAB : Srt (ins (ins l (s, (a, (b, (c, d))))) (s', (a', (b', (c', d'))))) := srt_ins hsA (by show has (ins l _) a' b' = false; rw [has_ins, k1, hpb]; rfl)
      have hBA : Srt (ins (ins l (s', (a', (b', (c', d'))))) (s, (a, (b, (c, d))))) := srt_ins hsB (by show has (ins l _) a b = false; rw [has_ins, k2, hpa]; rfl)
      have e : ins (ins l (s, (a, (b, (c, d))))) (s', (a', (b', (c', d')))) = ins (ins l (s', (a', (b', (c', d'))))) (s, (a, (b, (c, d)))) := by
        refine srt_ext hAB hBA fun x => ?_
        rw [mem_ins, mem_ins, mem_ins, mem_ins]
        constructor
        · rintro (h | h | h)
          · exact .inr (.inl h)
          · exact .inl h
          · exact .inr (.inr h)
        · rintro (h | h | h)
          · exact .inr (.inl h)
          · exact .inl h
          · exact .inr (.inr h)
      refine ⟨_, true, _, true, _, eA, eAB, eB, by rw [e]; exact eBA, ?_⟩
      have := ins_len (ins l (s, (a, (b, (c, d))))) (s', (a', (b', (c', d'))))
      omega

theorem f17_eq (l : List LT) (hl : l.length ≤ 100) (s : Int) : ∃ r, f17 l s = some (r, ()) ∧ r.length ≤ 100 := by
  unfold f17
  let acc : Nat → List Int := fun j => ((List.range j).filter fun i => decide ((rd LeaseT l i).1 = s)).map fun i => ((i : Nat) : Int)
  have ha : ∀ j, (acc j).length ≤ j := by
    intro j
    simp only [acc, List.length_map]
    exact Nat.le_trans (List.length_filter_le _ _) (by simp)
  have e : iter big u17_3 ((s, (l, (((l.length : Nat) : Int), (0, ())))), ((), ([], ()))) = _ := it_all (fun j => ((s, (l, (((l.length : Nat) : Int), (((j : Nat) : Int), ())))), ((), (acc j, ())))) (n := l.length) (y := ((), ((), (acc l.length, ())))) (fun j hj => by
      have h1 := ha j
      have hacc : acc (j + 1) = cond (decide ((rd LeaseT l j).1 = s)) (acc j ++ [((j : Nat) : Int)]) (acc j) := by
        simp only [acc, List.range_succ, List.filter_append, List.map_append]
        cases hd : decide ((rd LeaseT l j).1 = s) <;> simp [hd]
      simp only [u17_3, t17_3, ltn hj, ge0, Bool.and_self, cond_true, Int.toNat_natCast, nx hj (show l.length ≤ 9223372036854775807 by omega), hacc]
      rw [decide_eq_true (show ((acc j).length + 1) * 8 ≤ 140737488355328 by omega), decide_eq_true (show (acc j).length + 1 ≤ 9223372036854775807 by omega)]
      cases decide ((rd LeaseT l j).1 = s) <;> rfl) (by simp only [u17_3, t17_3, nlt, cond_false]) 0 big (by omega) (by unfold big; omega)
  rw [e]
  exact ⟨acc l.length, rfl, Nat.le_trans (ha _) hl⟩

theorem law5 (l : List LT) (s a b c d s' a' b' c' d' : Int) (hl : Sz l) : f5 l s a b c d s' a' b' c' d' = some (true, ()) := by
  unfold f5
  obtain ⟨b0, e0, h0⟩ := f14_eq l hl
  rw [f7_eq, e0]
  simp only [Option.bind_some, Bool.not_true, cond_false]
  cases b0 with
  | false => rfl
  | true =>
    have hs : Srt l := h0.1 rfl
    simp only [Bool.not_true, cond_false]
    by_cases h30 : l.length ≤ 30
    · rw [decide_eq_false (show ¬ (30 : Int) < ((l.length : Nat) : Int) by omega)]
      simp only [cond_false]
      by_cases hk : a = a' ∧ b = b'
      · rw [decide_eq_true hk.1, decide_eq_true hk.2]; rfl
      · obtain ⟨p1, t1, p2, t2, p3, E1, E2, E3, E4, hp⟩ := put_two l h30 hs s a b c d s' a' b' c' d' hk
        obtain ⟨r, E5, hr⟩ := f17_eq p2 (by omega) s
        have E6 := f16_eq r r (by unfold Sz; omega)
        have E7 := f11_eq p2 p2 (by unfold Sz; omega)
        rw [decide_eq_true (rfl : r = r)] at E6
        rw [decide_eq_true (rfl : p2 = p2)] at E7
        by_cases h1 : a = a'
        · have h2 : ¬ b = b' := fun h => hk ⟨h1, h⟩
          rw [decide_eq_true h1, decide_eq_false h2]
          simp only [cond_true, cond_false, E1, E2, E3, E4, E5, E6, E7, Option.bind_some, BEq.rfl]
        · rw [decide_eq_false h1]
          simp only [cond_true, cond_false, E1, E2, E3, E4, E5, E6, E7, Option.bind_some, BEq.rfl]
    · rw [decide_eq_true (show (30 : Int) < ((l.length : Nat) : Int) by omega)]; rfl
end Go.Proofs.Zz
