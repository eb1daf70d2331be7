/- Pools, leases, what is held, and states that may be: the program's functions in the model's words. -/
import Derived.Test.YtipajaocggpahaaGreatP15b
namespace Go.Proofs.Zz
open Go Go.Sy
set_option linter.unusedSimpArgs false
set_option linter.unusedVariables false

theorem f106_eq (a b c at' : Int) : f106 a b c at' = some (hasB (a, (b, c)) at', ()) := by
  unfold f106 hasB
  by_cases h1 : 0 ≤ a
  · rw [decide_eq_true h1]
    by_cases h2 : a ≤ 4
    · rw [decide_eq_true h2]
      by_cases h3 : 1 ≤ b
      · rw [decide_eq_true h3]
        by_cases h4 : b ≤ 4
        · rw [decide_eq_true h4, w64 (x := a + b) (by omega) (by omega)]
          cases decide (a ≤ at') <;> rfl
        · rw [decide_eq_false h4]; rfl
      · rw [decide_eq_false h3]; rfl
    · rw [decide_eq_false h2]; rfl
  · rw [decide_eq_false h1]; rfl

theorem f87_eq (l : List HT) (hl : Sz l) (at' : Int) : f87 l at' = some (poolOf l at', ()) := by
  unfold f87
  have e : iter big u87_102_2_0 ((l, ((), (((l.length : Nat) : Int), (0, ())))), (((at', ()), ()), ())) = _ :=
    it_idx l (fun p => hasB p at') (fun j => ((l, ((), (((l.length : Nat) : Int), (((j : Nat) : Int), ())))), (((at', ()), ()), ()))) (fun j => ((((j : Nat) : Int), ()), (((at', ()), ()), ())))
      (y := ((), (((at', ()), ()), ()))) (fun j h => by
        simp only [u87_102_2_0, t87_102_2_0, ltn h, ge0, cond_true, Bool.and_self, Int.toNat_natCast, rdH h, f106_eq, Option.bind_some, nx h hl])
      (by simp only [u87_102_2_0, t87_102_2_0, nlt, cond_false]) (fuel := big) (by unfold big; omega)
  rw [e]
  unfold poolOf
  split <;> rfl

theorem f88_eq (a b c d : Int) : f88 a b c d = some (decide (ltB c d a b), ()) := by
  unfold f88
  by_cases h1 : c < a
  · rw [decide_eq_true h1, decide_eq_true (show ltB c d a b from .inl h1)]; rfl
  · rw [decide_eq_false h1]
    by_cases h2 : a = c
    · rw [decide_eq_true h2]
      have : (d < b) ↔ ltB c d a b := by unfold ltB; omega
      simp only [cond_false, cond_true, decide_eq_decide.2 this]
    · rw [decide_eq_false h2, decide_eq_false (show ¬ ltB c d a b by unfold ltB; omega)]; rfl

theorem f108_eq (a b c d e : Int) : f108 a b c d e = some ((b, c), ()) := by unfold f108 f118; rfl

theorem f89_eq (l : List LT) (hl : Sz l) (a b : Int) : f89 l a b = some (findL l a b, ()) := by
  unfold f89
  have e : iter big u89_52_2_0 ((l, ((), (((l.length : Nat) : Int), (0, ())))), (((a, (b, ())), (((), ()), ())), ())) = _ :=
    it_idx l (isL a b) (fun j => ((l, ((), (((l.length : Nat) : Int), (((j : Nat) : Int), ())))), (((a, (b, ())), (((), ()), ())), ()))) (fun j => ((((j : Nat) : Int), ()), (((a, (b, ())), (((), ()), ())), ())))
      (y := ((), (((a, (b, ())), (((), ()), ())), ()))) (fun j h => by
        simp only [u89_52_2_0, t89_52_2_0, ltn h, ge0, cond_true, Bool.and_self, Int.toNat_natCast, rdL h, f108_eq, Option.bind_some, isL, Bool.and_true, nx h hl])
      (by simp only [u89_52_2_0, t89_52_2_0, nlt, cond_false]) (fuel := big) (by unfold big; omega)
  rw [e]
  unfold findL
  split <;> rfl

theorem f82_eq {p q : HT} {out : Int} (hp : FitsP p out) (hq : FitsP q out) (ho : out ≤ 4) : f82 p.1 p.2.1 p.2.2 q.1 q.2.1 q.2.2 = some (meetB p q, ()) := by
  obtain ⟨p1, p2, p3, p4, _⟩ := hp
  obtain ⟨q1, q2, q3, q4, _⟩ := hq
  unfold f82 meetB
  rw [w64 (x := q.1 + q.2.1) (by omega) (by omega), w64 (x := p.1 + p.2.1) (by omega) (by omega)]
  cases decide (p.1 < q.1 + q.2.1) <;> rfl

theorem f83_eq (p : HT) (out : Int) (h0 : 0 ≤ out) (h1 : out ≤ 4) : f83 p.1 p.2.1 p.2.2 out = some (decide (FitsP p out), ()) := by
  unfold f83 FitsP
  by_cases c1 : 0 ≤ p.1
  · by_cases c2 : 1 ≤ p.2.1
    · by_cases c3 : p.1 < out
      · rw [w64 (x := out - p.1) (by omega) (by omega)]
        by_cases c4 : p.2.1 ≤ out - p.1
        · by_cases c5 : 0 ≤ p.2.2
          · simp [c1, c2, c3, c4, c5]
          · simp [c1, c2, c3, c4, c5]
        · simp [c1, c2, c3, c4]
      · simp [c1, c2, c3]
    · simp [c1, c2]
  · simp [c1]

/-- pools, as they may stand -/
def POK (M : List HT) (out : Int) : Prop := (∀ p ∈ M, FitsP p out) ∧ M.Pairwise fun p q => meetB q p = false

theorem POK.take {l : List HT} {out : Int} (h : POK l out) (j : Nat) : POK (l.take j) out :=
  ⟨fun p hp => h.1 p (List.mem_of_mem_take hp), h.2.sublist (List.take_sublist j l)⟩

theorem POK.snoc {l : List HT} {out : Int} {j : Nat} (hj : j < l.length) : POK (l.take (j + 1)) out ↔ POK (l.take j) out ∧ FitsP l[j] out ∧ (l.take j).any (fun q => meetB l[j] q) = false := by
  rw [take_snoc hj]
  unfold POK
  rw [List.pairwise_append]
  constructor
  · intro ⟨h1, h2, h3, h4⟩
    refine ⟨⟨fun p hp => h1 p (List.mem_append.2 (.inl hp)), h2⟩, h1 _ (List.mem_append.2 (.inr (List.mem_singleton.2 rfl))), ?_⟩
    rw [List.any_eq_false]
    intro q hq
    rw [h4 q hq _ (List.mem_singleton.2 rfl)]; simp
  · intro ⟨⟨h1, h2⟩, h3, h4⟩
    refine ⟨fun p hp => ?_, h2, List.pairwise_singleton _ _, fun a ha b hb => ?_⟩
    · rcases List.mem_append.1 hp with hp | hp
      · exact h1 p hp
      · rw [List.mem_singleton] at hp; rw [hp]; exact h3
    · rw [List.mem_singleton] at hb; subst hb
      rw [List.any_eq_false] at h4
      simpa using h4 a ha

/-- the pools ahead that meet one -/
theorem inner41 (l : List HT) (hl : Sz l) (p : HT) (out : Int) (hp : FitsP p out) (ho : out ≤ 4) (hf : ∀ q ∈ l, FitsP q out) :
    iter big u41_102_2_0 ((l, ((), (((l.length : Nat) : Int), (0, ())))), (((p.1, (p.2.1, (p.2.2, ()))), ()), ())) =
      some (if l.findIdx (fun q => meetB p q) < l.length then .inr ((((l.findIdx (fun q => meetB p q) : Nat) : Int), ()), (((p.1, (p.2.1, (p.2.2, ()))), ()), ())) else .inl ((), (((p.1, (p.2.1, (p.2.2, ()))), ()), ()))) :=
  it_idx l (fun q => meetB p q) (fun j => ((l, ((), (((l.length : Nat) : Int), (((j : Nat) : Int), ())))), (((p.1, (p.2.1, (p.2.2, ()))), ()), ()))) (fun j => ((((j : Nat) : Int), ()), (((p.1, (p.2.1, (p.2.2, ()))), ()), ())))
    (y := ((), (((p.1, (p.2.1, (p.2.2, ()))), ()), ()))) (fun j h => by
      simp only [u41_102_2_0, t41_102_2_0, ltn h, ge0, cond_true, Bool.and_self, Int.toNat_natCast, rdH h, f82_eq hp (hf _ (List.getElem_mem h)) ho, Option.bind_some, nx h hl])
    (by simp only [u41_102_2_0, t41_102_2_0, nlt, cond_false]) (fuel := big) (by unfold big; omega)

theorem f41_eq (l : List HT) (out : Int) : f41 l out = some (decide (PoolsP l out), ()) := by
  unfold f41
  by_cases h0 : out < 0
  · rw [decide_eq_true h0, decide_eq_false (show ¬ PoolsP l out from fun h => by have := h.out0; omega)]; rfl
  rw [decide_eq_false h0]
  by_cases h4 : 4 < out
  · rw [decide_eq_true h4, decide_eq_false (show ¬ PoolsP l out from fun h => by have := h.out4; omega)]; rfl
  rw [decide_eq_false h4]
  by_cases h3 : 3 < l.length
  · rw [decide_eq_true (show (3 : Int) < ((l.length : Nat) : Int) by omega), decide_eq_false (show ¬ PoolsP l out from fun h => by have := h.len; omega)]; rfl
  rw [decide_eq_false (show ¬ (3 : Int) < ((l.length : Nat) : Int) by omega)]
  simp only [cond_false]
  let st : Nat → X41_4 := fun j => ((l, (out, (l, (((l.length : Nat) : Int), (((j : Nat) : Int), ()))))), ((), ()))
  obtain ⟨r, e1, e2⟩ := it_inv (f := u41_4) (fun x => ∃ j, x = st j ∧ j ≤ l.length ∧ POK (l.take j) out) (fun x => l.length - x.1.2.2.2.2.1.toNat)
    (fun r => match r with
      | .inl _ => POK l out
      | .inr z => z.1.1 = false ∧ ¬ POK l out) (by
    rintro x ⟨j, rfl, hj1, hj2⟩
    rcases Nat.lt_or_ge j l.length with hlt | hge
    · have hb1 := f83_eq l[j] out (by omega) (by omega)
      have hsn := POK.snoc (out := out) hlt
      by_cases hfit : FitsP l[j] out
      case neg =>
        rw [decide_eq_false hfit] at hb1
        refine .inr (.inr ⟨((false, ()), ((), ())), ?_, rfl, fun h => hfit (hsn.1 (h.take _)).2.1⟩)
        simp only [st, u41_4, t41_4, ltn hlt, ge0, cond_true, Bool.and_self, Int.toNat_natCast, rdH hlt, hb1, Option.bind_some, Bool.not_false]
      rw [decide_eq_true hfit] at hb1
      have htake : List.drop 0 (List.take j l) = l.take j := by simp
      have hin := inner41 (l.take j) (by unfold Sz; simp; omega) l[j] out hfit (by omega) hj2.1
      have hle : decide (((j : Nat) : Int) ≤ ((l.length : Nat) : Int)) = true := decide_eq_true (by omega)
      by_cases hm : (l.take j).findIdx (fun q => meetB l[j] q) < (l.take j).length
      · rw [if_pos hm] at hin
        refine .inr (.inr ⟨((false, ()), ((), ())), ?_, rfl, fun h => ?_⟩)
        · simp only [st, u41_4, t41_4, ltn hlt, ge0, cond_true, Bool.and_self, Int.toNat_natCast, rdH hlt, hb1, Option.bind_some, Bool.not_true, cond_false, hle, htake, hin]
        · have h1 := (hsn.1 (h.take _)).2.2
          rw [← idx_none, if_pos hm] at h1
          omega
      · rw [if_neg hm] at hin
        have hno : (l.take j).any (fun q => meetB l[j] q) = false := by rw [← idx_none, if_neg hm]
        refine .inl ⟨st (j + 1), ?_, ⟨j + 1, rfl, by omega, hsn.2 ⟨hj2, hfit, hno⟩⟩, ?_⟩
        · simp only [st, u41_4, t41_4, ltn hlt, ge0, cond_true, Bool.and_self, Int.toNat_natCast, rdH hlt, hb1, Option.bind_some, Bool.not_true, cond_false, hle, htake, hin, nx hlt (show l.length ≤ 9223372036854775807 by omega)]
        · show l.length - Int.toNat (((j + 1 : Nat) : Int)) < l.length - Int.toNat ((j : Nat) : Int)
          omega
    · have : j = l.length := by omega
      subst this
      refine .inr (.inl ⟨((), ((), ())), ?_, ?_⟩)
      · simp only [st, u41_4, t41_4, nlt, cond_false]
      · rw [List.take_length] at hj2; exact hj2)
    big (st 0) ⟨0, rfl, by omega, by rw [List.take_zero]; exact ⟨by simp, by simp⟩⟩ (by simp only [st]; unfold big; omega)
  have e1' : iter big u41_4 ((l, (out, (l, (((l.length : Nat) : Int), (0, ()))))), ((), ())) = some r := e1
  rw [e1']
  cases r with
  | inl y =>
    have e2 : POK l out := e2
    rw [decide_eq_true (show PoolsP l out from ⟨by omega, by omega, by omega, e2.1, e2.2⟩)]; rfl
  | inr z =>
    obtain ⟨k1, k2⟩ := e2
    rw [decide_eq_false (show ¬ PoolsP l out from fun h => k2 ⟨h.fits, h.apart⟩)]
    show some (z.1.1, ()) = _
    rw [k1]

theorem f39_eq (p : PT) : f39 p.1 p.2.1 p.2.2.1 p.2.2.2 = some (decide (PolP p), ()) := by
  unfold f39 PolP
  simp only [f40_eq, Option.bind_some, and_dec]
  by_cases h1 : 1 ≤ p.1 ∧ p.1 ≤ 8
  · by_cases h2 : 1 ≤ p.2.1 ∧ p.2.1 ≤ 1048576
    · simp [h1, h2]
    · rw [decide_eq_true h1, decide_eq_false h2]
      simp [h2]
  · rw [decide_eq_false h1]; simp [h1]
end Go.Proofs.Zz
