/- Events that may be, and what they make of states: the program's functions in the model's words. -/
import Derived.Test.YtipajaocggpahaaGreatP15h
namespace Go.Proofs.Zz
open Go Go.Sy
set_option linter.unusedSimpArgs false
set_option linter.unusedVariables false

theorem f90_eq (a b c : Int) : f90 a b c = some (decide (rng a b c), ()) := by
  unfold f90 rng
  by_cases h : b ≤ a
  · simp [h]
  · simp [h]

theorem and3 (p q r : Prop) [Decidable p] [Decidable q] [Decidable r] : (cond (decide p) (cond (decide q) (some (decide r, ())) (some (false, ()))) (some (false, ())) : Option (Bool × Unit)) = some (decide (p ∧ q ∧ r), ()) := by
  by_cases hp : p <;> by_cases hq : q <;> simp [hp, hq]

theorem f45_eq (e : ET) : f45 e.1 e.2.1 e.2.2.1 e.2.2.2.1 e.2.2.2.2.1 e.2.2.2.2.2.1 e.2.2.2.2.2.2.1 e.2.2.2.2.2.2.2.1 e.2.2.2.2.2.2.2.2 = some (decide (MayE e), ()) := by
  obtain ⟨k, at', a, b, c, q, i, o, p⟩ := e
  have h39 := f39_eq (q, (i, (o, p)))
  simp only at h39 ⊢
  unfold f45
  simp only [f90_eq, h39, Option.bind_some, and3]
  by_cases hat : rng at' 0 1073741824
  case neg =>
    rw [decide_eq_false hat, decide_eq_false (fun h : MayE _ => hat h.1)]; rfl
  rw [decide_eq_true hat]
  simp only [Bool.not_true, cond_false]
  by_cases h6 : k = 6
  · subst h6
    have d0 : decide ((6 : Int) = 0) = false := rfl
    have d1 : decide ((6 : Int) = 1) = false := rfl
    have d2 : decide ((6 : Int) = 2) = false := rfl
    have d3 : decide ((6 : Int) = 3) = false := rfl
    have d4 : decide ((6 : Int) = 4) = false := rfl
    have d5 : decide ((6 : Int) = 5) = false := rfl
    simp only [d0, d1, d2, d3, d4, d5, decide_true, Bool.not_true, cond_true, cond_false]
    by_cases hp : PolP (q, (i, (o, p)))
    · rw [decide_eq_true hp]
      simp only [Bool.not_true, cond_false]
      have : (rng a 0 0 ∧ rng b 0 0 ∧ rng c 0 0) ↔ MayE (6, (at', (a, (b, (c, (q, (i, (o, p)))))))) := by
        unfold MayE evBody
        simp [hat, hp]
      rw [decide_eq_decide.2 this]
    · rw [decide_eq_false hp]
      have : ¬ MayE (6, (at', (a, (b, (c, (q, (i, (o, p)))))))) := by
        unfold MayE evBody
        simp [hp]
      rw [decide_eq_false this]; rfl
  · rw [decide_eq_false h6]
    simp only [Bool.not_false, cond_true]
    by_cases hz : (q, (i, (o, p))) = ((0, (0, (0, false))) : PT)
    case neg =>
      have : (decide (q = 0) && (decide (i = 0) && (decide (o = 0) && ((p == false) && true)))) = false := by
        rw [Bool.eq_false_iff]
        intro h
        simp only [Bool.and_eq_true, decide_eq_true_eq, beq_iff_eq] at h
        exact hz (by rw [h.1, h.2.1, h.2.2.1, h.2.2.2.1])
      rw [this, decide_eq_false (fun h : MayE _ => hz (h.2.1 h6))]; rfl
    have hz' := hz
    simp only [Prod.mk.injEq] at hz'
    obtain ⟨rfl, rfl, rfl, rfl⟩ := hz'
    have e1 : (decide ((0 : Int) = 0) && (decide ((0 : Int) = 0) && (decide ((0 : Int) = 0) && ((false == false) && true)))) = true := rfl
    rw [e1]
    simp only [Bool.not_true, cond_false]
    have fin : ∀ (X : Prop) [Decidable X], (X ↔ evBody k a b c (0, (0, (0, false)))) → decide X = decide (MayE (k, (at', (a, (b, (c, (0, (0, (0, false))))))))) := fun X _ h => by
      rw [decide_eq_decide, h]
      unfold MayE
      simp [hat]
    by_cases k0 : k = 0
    · subst k0; rw [← fin (rng a 0 31 ∧ rng b 0 3 ∧ rng c 0 7) (by unfold evBody; simp)]; rfl
    rw [decide_eq_false k0]
    simp only [cond_false]
    by_cases k1 : k = 1
    · subst k1; rw [← fin (rng a 0 31 ∧ rng b 0 3 ∧ rng c 0 7) (by unfold evBody; simp)]; rfl
    rw [decide_eq_false k1]
    simp only [cond_false]
    by_cases k2 : k = 2
    · subst k2; rw [← fin (rng a 0 3 ∧ rng b 1 4 ∧ rng c 0 0) (by unfold evBody; simp)]; rfl
    rw [decide_eq_false k2]
    simp only [cond_false]
    by_cases k4 : k = 4
    · subst k4; rw [← fin (rng a 0 2 ∧ rng b 1 4 ∧ rng c 0 0) (by unfold evBody; simp)]; rfl
    rw [decide_eq_false k4]
    simp only [cond_false]
    by_cases k3 : k = 3
    · subst k3; rw [← fin (rng a 0 2 ∧ rng b 0 0 ∧ rng c 0 0) (by unfold evBody; simp)]; rfl
    rw [decide_eq_false k3]
    simp only [cond_false]
    by_cases k5 : k = 5
    · subst k5; rw [← fin (rng a 0 2 ∧ rng b 0 0 ∧ rng c 0 0) (by unfold evBody; simp)]; rfl
    rw [decide_eq_false k5]
    simp only [cond_false]
    have : ¬ MayE (k, (at', (a, (b, (c, (0, (0, (0, false)))))))) := by
      unfold MayE evBody
      simp [k0, k1, k2, k3, k4, k5, h6]
    rw [decide_eq_false this]

theorem settle_sm {s : ST} {now : Int} (h : Sm s) : Sm (settleS s now) := by
  refine ⟨h.p, ?_, ?_⟩
  · show (useL s.2.2.2.2.1 now).length ≤ 1000
    rw [useL_len]; exact h.l
  · show (cleanH s.2.2.2.2.2 now).length ≤ 1000
    exact Nat.le_trans (List.length_filter_le _ _) h.h

theorem may_sm {s : ST} (h : MayS s) (hH : s.2.2.2.2.2.length ≤ 1000) : Sm s := ⟨by have := h.pools.len; omega, by have := h.len; omega, hH⟩

theorem putL_len (L : List LT) (x : LT) : (putL L x).1.length ≤ L.length + 1 := by
  unfold putL
  split
  · exact Nat.le_succ _
  · exact Nat.le_of_eq (insK_len L x)
theorem delL_len (L : List LT) (a b : Int) : (delL L a b).length ≤ L.length := by
  unfold delL
  exact (List.eraseIdx_sublist _ _).length_le
theorem holdH_len (H : List HT) (x : HT) : (holdH H x).length ≤ H.length + 1 := by
  unfold holdH
  rw [insK_len]
  have := List.length_filter_le (fun y => !decide (kH y = kH x)) H
  omega
theorem addP_len (P : List HT) (out a n : Int) : (addP P out a n).1.length ≤ P.length + 1 := by
  unfold addP; repeat' split
  all_goals simp
theorem drainP_len (P : List HT) (out k : Int) : (drainP P out k).1.length ≤ P.length := by
  unfold drainP; repeat' split
  all_goals simp
theorem sizeP_len (P : List HT) (out k n : Int) (b : List Int) : (sizeP P out k n b).1.length ≤ P.length := by
  unfold sizeP; repeat' split
  all_goals simp
theorem goneP_len (P : List HT) (out k : Int) (b : List Int) : (goneP P out k b).1.length ≤ P.length := by
  unfold goneP; repeat' split
  all_goals first | (exact (List.eraseIdx_sublist _ _).length_le) | simp

/-- the last step: what came of it may be, or not -/
theorem last15 (s : ST) (t : ST) (h : Sm s) (ht : Sm t) :
    ((f14 t.1.1.1 t.1.1.2 t.1.2.1.1 t.1.2.1.2 t.1.2.2.1 t.1.2.2.2.1 t.1.2.2.2.2.1 t.1.2.2.2.2.2 t.2.1.1 t.2.1.2.1 t.2.1.2.2.1 t.2.1.2.2.2 t.2.2.1 t.2.2.2.1 t.2.2.2.2.1 t.2.2.2.2.2).bind fun y =>
      cond (!y.1) ((f20 s.1.1.1 s.1.1.2 s.1.2.1.1 s.1.2.1.2 s.1.2.2.1 s.1.2.2.2.1 s.1.2.2.2.2.1 s.1.2.2.2.2.2 s.2.1.1 s.2.1.2.1 s.2.1.2.2.1 s.2.1.2.2.2 s.2.2.1 s.2.2.2.1 s.2.2.2.2.1 s.2.2.2.2.2).bind fun y35 =>
        some ((((y35.1.1.1.1, y35.1.1.1.2), ((y35.1.1.2.1.1, y35.1.1.2.1.2), (y35.1.1.2.2.1, (y35.1.1.2.2.2.1, (y35.1.1.2.2.2.2.1, y35.1.1.2.2.2.2.2))))), ((y35.1.2.1.1, (y35.1.2.1.2.1, (y35.1.2.1.2.2.1, y35.1.2.1.2.2.2))), (y35.1.2.2.1, (y35.1.2.2.2.1, (y35.1.2.2.2.2.1, y35.1.2.2.2.2.2))))), ((2 : Int), ())))
        (some (t, ((0 : Int), ())))) = some ((if MayS t then (t, (0 : Int)) else (s, 2)).1, ((if MayS t then (t, (0 : Int)) else (s, 2)).2, ())) := by
  rw [f14_eq t ht.szP ht.szL ht.szH, f20_eq s h]
  simp only [Option.bind_some]
  by_cases hm : MayS t
  · rw [decide_eq_true hm, if_pos hm]; rfl
  · rw [decide_eq_false hm, if_neg hm]; rfl

/-- what an event makes of a state -/
theorem f15_eq (s : ST) (e : ET) (hp : s.2.2.2.1.length ≤ 900) (hl : s.2.2.2.2.1.length ≤ 900) (hh : s.2.2.2.2.2.length ≤ 900) :
    f15 s.1.1.1 s.1.1.2 s.1.2.1.1 s.1.2.1.2 s.1.2.2.1 s.1.2.2.2.1 s.1.2.2.2.2.1 s.1.2.2.2.2.2 s.2.1.1 s.2.1.2.1 s.2.1.2.2.1 s.2.1.2.2.2 s.2.2.1 s.2.2.2.1 s.2.2.2.2.1 s.2.2.2.2.2
      e.1 e.2.1 e.2.2.1 e.2.2.2.1 e.2.2.2.2.1 e.2.2.2.2.2.1 e.2.2.2.2.2.2.1 e.2.2.2.2.2.2.2.1 e.2.2.2.2.2.2.2.2 = some ((applyS s e).1, ((applyS s e).2, ())) := by
  have h : Sm s := ⟨by omega, by omega, by omega⟩
  have h20 := f20_eq s h
  unfold f15 applyS
  rw [f14_eq s h.szP h.szL h.szH]
  simp only [Option.bind_some]
  by_cases hM : MayS s
  case neg => rw [decide_eq_false hM, if_pos (.inl hM), h20]; rfl
  rw [decide_eq_true hM, f45_eq]
  simp only [Option.bind_some, Bool.not_true, cond_false]
  by_cases hE : MayE e
  case neg => rw [decide_eq_false hE, if_pos (.inr hE), h20]; rfl
  rw [decide_eq_true hE, if_neg (by rintro (k | k); exact k hM; exact k hE), f10_eq s _ h]
  simp only [Option.bind_some, Bool.not_true, cond_false]
  by_cases hC : CanSettle s e.2.1
  case neg =>
    have : settle s e.2.1 = (s, false) := by unfold settle; rw [if_neg hC]
    rw [this, if_pos hC]
    simp only [Bool.not_false, cond_true, h20]; rfl
  have hs : settle s e.2.1 = (settleS s e.2.1, true) := by unfold settle; rw [if_pos hC]
  rw [hs, if_neg (fun k => k hC)]
  simp only [Bool.not_true, cond_false]
  have hK := last15 s
  have hSm : Sm (settleS s e.2.1) := settle_sm h
  have hL9 : (settleS s e.2.1).2.2.2.2.1.length ≤ 900 := by
    show (useL s.2.2.2.2.1 e.2.1).length ≤ 900
    rw [useL_len]; exact hl
  have hP9 : (settleS s e.2.1).2.2.2.1.length ≤ 900 := hp
  have hH9 : (settleS s e.2.1).2.2.2.2.2.length ≤ 900 := Nat.le_trans (List.length_filter_le _ _) hh
  have hpol : (settleS s e.2.1).2.1 = s.2.1 := rfl
  have hnow : (settleS s e.2.1).2.2.1 = e.2.1 := rfl
  generalize settleS s e.2.1 = t at hSm hL9 hP9 hH9 hpol hnow ⊢
  unfold makeS
  by_cases k0 : e.1 = 0
  · rw [decide_eq_true k0, if_pos k0]
    simp only [cond_true]
    have h109 := f109_eq t.2.2.2.2.1 hSm.l (e.2.2.1, (e.2.2.2.1, (e.2.2.2.2.1, (e.2.1, e.2.1))))
    simp only at h109
    rw [h109]
    simp only [Option.bind_some]
    cases hb : (putL t.2.2.2.2.1 (e.2.2.1, (e.2.2.2.1, (e.2.2.2.2.1, (e.2.1, e.2.1))))).2 with
    | false => simp only [Bool.not_false, cond_true, h20, Bool.false_eq_true, if_false]; rfl
    | true =>
      simp only [Bool.not_true, cond_false, if_true]
      have hlen := putL_len t.2.2.2.2.1 (e.2.2.1, (e.2.2.2.1, (e.2.2.2.2.1, (e.2.1, e.2.1))))
      exact hK (setL t (putL t.2.2.2.2.1 (e.2.2.1, (e.2.2.2.1, (e.2.2.2.2.1, (e.2.1, e.2.1))))).1) h ⟨hSm.p, Nat.le_trans hlen (by omega), hSm.h⟩
  rw [decide_eq_false k0, if_neg k0]
  simp only [cond_false]
  by_cases k1 : e.1 = 1
  · rw [decide_eq_true k1, if_pos k1]
    simp only [cond_true]
    unfold freeS
    rw [f89_eq _ hSm.szL]
    simp only [Option.bind_some]
    by_cases hf : findL t.2.2.2.2.1 e.2.2.2.1 e.2.2.2.2.1 = -1
    · rw [decide_eq_true hf, if_pos hf]; simp only [cond_true, h20]; rfl
    rw [decide_eq_false hf, if_neg hf]
    have hlt : t.2.2.2.2.1.findIdx (isL e.2.2.2.1 e.2.2.2.2.1) < t.2.2.2.2.1.length := by
      rcases Nat.lt_or_ge (t.2.2.2.2.1.findIdx (isL e.2.2.2.1 e.2.2.2.2.1)) t.2.2.2.2.1.length with k | k
      · exact k
      · exact absurd (by unfold findL; rw [if_neg (by omega)]) hf
    have hfi : findL t.2.2.2.2.1 e.2.2.2.1 e.2.2.2.2.1 = ((t.2.2.2.2.1.findIdx (isL e.2.2.2.1 e.2.2.2.2.1) : Nat) : Int) := by unfold findL; rw [if_pos hlt]
    rw [hfi, ge0, ltn hlt]
    simp only [Int.toNat_natCast, cond_false, Bool.and_self, cond_true]
    simp only [rdL hlt]
    have hgd : t.2.2.2.2.1.getD (t.2.2.2.2.1.findIdx (isL e.2.2.2.1 e.2.2.2.2.1)) (0, (0, (0, (0, 0)))) = t.2.2.2.2.1[t.2.2.2.2.1.findIdx (isL e.2.2.2.1 e.2.2.2.2.1)] := by
      rw [List.getD_eq_getElem?_getD, List.getElem?_eq_getElem hlt]; rfl
    simp only [hgd]
    by_cases hsub : (t.2.2.2.2.1[t.2.2.2.2.1.findIdx (isL e.2.2.2.1 e.2.2.2.2.1)]).1 = e.2.2.1
    case neg => rw [decide_eq_false hsub, if_pos hsub]; simp only [Bool.not_false, cond_true, h20]; rfl
    rw [decide_eq_true hsub, if_neg (fun k => k hsub), f110_eq _ hSm.l]
    have hhas : hasL t.2.2.2.2.1 e.2.2.2.1 e.2.2.2.2.1 = true := by
      cases hb : hasL t.2.2.2.2.1 e.2.2.2.1 e.2.2.2.2.1 with
      | true => rfl
      | false => exact absurd ((findL_none _ _ _).2 hb) hf
    rw [if_pos hhas]
    simp only [Bool.not_true, cond_false, Option.bind_some]
    have hdl := delL_len t.2.2.2.2.1 e.2.2.2.1 e.2.2.2.2.1
    have hP := hM.pol
    have hA := hC.2.2
    have hA0 := hE.1.1
    by_cases hh0 : 0 < t.2.1.2.2.1
    · rw [decide_eq_true hh0, if_pos hh0]
      have hw : IntKind.wrap .i64 (e.2.1 + t.2.1.2.2.1) = e.2.1 + t.2.1.2.2.1 := by
        rw [hpol]
        have := hP.2.2
        exact w64 (by omega) (by omega)
      have h111 := f111_eq t.2.2.2.2.2 hH9 (e.2.2.2.1, (e.2.2.2.2.1, e.2.1 + t.2.1.2.2.1))
      simp only at h111
      rw [hw]
      simp only [cond_true, h111, Option.bind_some]
      have hhl := holdH_len t.2.2.2.2.2 (e.2.2.2.1, (e.2.2.2.2.1, e.2.1 + t.2.1.2.2.1))
      exact hK (setLH t (delL t.2.2.2.2.1 e.2.2.2.1 e.2.2.2.2.1) (holdH t.2.2.2.2.2 (e.2.2.2.1, (e.2.2.2.2.1, e.2.1 + t.2.1.2.2.1)))) h ⟨hSm.p, Nat.le_trans hdl (by omega), Nat.le_trans hhl (by omega)⟩
    · rw [decide_eq_false hh0, if_neg hh0]
      simp only [cond_false]
      exact hK (setLH t (delL t.2.2.2.2.1 e.2.2.2.1 e.2.2.2.2.1) t.2.2.2.2.2) h ⟨hSm.p, Nat.le_trans hdl (by omega), hSm.h⟩
  rw [decide_eq_false k1, if_neg k1]
  simp only [cond_false]
  by_cases k6 : e.1 = 6
  · rw [decide_eq_true k6, if_pos k6]
    simp only [cond_true]
    exact hK (setPol t e.2.2.2.2.2) h ⟨hSm.p, hSm.l, hSm.h⟩
  rw [decide_eq_false k6, if_neg k6]
  simp only [cond_false]
  have hY : f71 t.1.2.1.1 t.1.2.1.2 = some (szY t.1, ()) := f71_eq _ _
  rw [hY, f112_eq _ hSm.l]
  simp only [Option.bind_some]
  have hbz : Sz (busyL t.2.2.2.2.1) := by
    have h1 := f112_eq t.2.2.2.2.1 hSm.l
    unfold Sz busyL
    have h2 := Lib.compact_length_le ((t.2.2.2.2.1.map (·.2.1)).mergeSort fun x y => decide (x ≤ y))
    rw [List.length_mergeSort, List.length_map] at h2
    have := hSm.l
    omega
  unfold errO
  by_cases k2 : e.1 = 2
  · rw [decide_eq_true k2, if_pos k2]
    simp only [cond_true]
    rw [f113_eq hSm.p]
    simp only [Option.bind_some]
    by_cases he : (addP t.2.2.2.1 (szY t.1) e.2.2.1 e.2.2.2.1).2 = 0
    · rw [decide_eq_true he, if_pos he]
      simp only [Bool.not_true, cond_false]
      have := addP_len t.2.2.2.1 (szY t.1) e.2.2.1 e.2.2.2.1
      exact hK (setPools t (addP t.2.2.2.1 (szY t.1) e.2.2.1 e.2.2.2.1).1) h ⟨Nat.le_trans this (by omega), hSm.l, hSm.h⟩
    · rw [decide_eq_false he, if_neg he]; simp only [Bool.not_false, cond_true, h20]; rfl
  rw [decide_eq_false k2, if_neg k2]
  simp only [cond_false]
  by_cases k3 : e.1 = 3
  · rw [decide_eq_true k3, if_pos k3]
    simp only [cond_true]
    rw [f114_eq hSm.p]
    simp only [Option.bind_some]
    by_cases he : (drainP t.2.2.2.1 (szY t.1) e.2.2.1).2 = 0
    · rw [decide_eq_true he, if_pos he]
      simp only [Bool.not_true, cond_false]
      have := drainP_len t.2.2.2.1 (szY t.1) e.2.2.1
      exact hK (setPools t (drainP t.2.2.2.1 (szY t.1) e.2.2.1).1) h ⟨Nat.le_trans this (by omega), hSm.l, hSm.h⟩
    · rw [decide_eq_false he, if_neg he]; simp only [Bool.not_false, cond_true, h20]; rfl
  rw [decide_eq_false k3, if_neg k3]
  simp only [cond_false]
  by_cases k4 : e.1 = 4
  · rw [decide_eq_true k4, if_pos k4]
    simp only [cond_true]
    rw [f115_eq hSm.p _ _ _ hbz]
    simp only [Option.bind_some]
    by_cases he : (sizeP t.2.2.2.1 (szY t.1) e.2.2.1 e.2.2.2.1 (busyL t.2.2.2.2.1)).2 = 0
    · rw [decide_eq_true he, if_pos he]
      simp only [Bool.not_true, cond_false]
      have := sizeP_len t.2.2.2.1 (szY t.1) e.2.2.1 e.2.2.2.1 (busyL t.2.2.2.2.1)
      exact hK (setPools t (sizeP t.2.2.2.1 (szY t.1) e.2.2.1 e.2.2.2.1 (busyL t.2.2.2.2.1)).1) h ⟨Nat.le_trans this (by omega), hSm.l, hSm.h⟩
    · rw [decide_eq_false he, if_neg he]; simp only [Bool.not_false, cond_true, h20]; rfl
  rw [decide_eq_false k4, if_neg k4]
  simp only [cond_false]
  rw [f116_eq hSm.p _ _ hbz]
  simp only [Option.bind_some]
  by_cases he : (goneP t.2.2.2.1 (szY t.1) e.2.2.1 (busyL t.2.2.2.2.1)).2 = 0
  · rw [decide_eq_true he, if_pos he]
    simp only [Bool.not_true, cond_false]
    have := goneP_len t.2.2.2.1 (szY t.1) e.2.2.1 (busyL t.2.2.2.2.1)
    exact hK (setPools t (goneP t.2.2.2.1 (szY t.1) e.2.2.1 (busyL t.2.2.2.2.1)).1) h ⟨Nat.le_trans this (by omega), hSm.l, hSm.h⟩
  · rw [decide_eq_false he, if_neg he]; simp only [Bool.not_false, cond_true, h20]; rfl
end Go.Proofs.Zz
