/- Plain laws of chapter 21: pools; what it means that a state may be. -/
import Derived.Test.YtojkjedljhjleaaGreatDoorP21b
namespace Go.Proofs.Zz
open Go Go.Sy
set_option linter.unusedSimpArgs false
set_option linter.unusedVariables false

abbrev LT := Int × (Int × (Int × (Int × Int)))
abbrev HT := Int × (Int × Int)
/-- fits a machine's counter -/
abbrev Sz {α : Type} (l : List α) : Prop := l.length ≤ 9223372036854775807

theorem ge0 (j : Nat) : decide (0 ≤ (j : Int)) = true := decide_eq_true (Int.natCast_nonneg j)
theorem ltn {j n : Nat} (h : j < n) : decide ((j : Int) < (n : Int)) = true := decide_eq_true (by omega)
theorem nlt (n : Nat) : decide ((n : Int) < (n : Int)) = false := decide_eq_false (by omega)
theorem nx {j n : Nat} (h : j < n) (hn : n ≤ 9223372036854775807) : IntKind.wrap .i64 ((j : Int) + 1) = ((j + 1 : Nat) : Int) := by rw [w64 (by omega) (by omega)]; omega
theorem rdL {l : List LT} {j : Nat} (h : j < l.length) : rd (.pair (.int .i64) (.pair (.int .i64) (.pair (.int .i64) (.pair (.int .i64) (.int .i64))))) l j = l[j] := rd_lt h
theorem rdH {l : List HT} {j : Nat} (h : j < l.length) : rd (.pair (.int .i64) (.pair (.int .i64) (.int .i64))) l j = l[j] := rd_lt h
theorem rdI {l : List Int} {j : Nat} (h : j < l.length) : rd (.int .i64) l j = l[j] := rd_lt h

/-! pools -/
def hasB (p : HT) (at' : Int) : Bool := decide (0 ≤ p.1) && (decide (p.1 ≤ 4) && (decide (1 ≤ p.2.1) && (decide (p.2.1 ≤ 4) && (decide (p.1 ≤ at') && decide (at' < p.1 + p.2.1)))))

theorem f71_eq (a b c at' : Int) : f71 a b c at' = some (hasB (a, (b, c)) at', ()) := by
  unfold f71 hasB
  by_cases h1 : 0 ≤ a
  · rw [decide_eq_true h1]
    by_cases h2 : a ≤ 4
    · rw [decide_eq_true h2]
      by_cases h3 : 1 ≤ b
      · rw [decide_eq_true h3]
        by_cases h4 : b ≤ 4
        · rw [decide_eq_true h4, w64 (x := a + b) (by omega) (by omega)]
          cases decide (a ≤ at') <;> rfl
        · rw [decide_eq_false h4]; rfl
      · rw [decide_eq_false h3]; rfl
    · rw [decide_eq_false h2]; rfl
  · rw [decide_eq_false h1]; rfl

theorem f35_eq (l : List HT) (hl : Sz l) (at' : Int) : f35 l at' = some (if l.findIdx (fun p => hasB p at') < l.length then ((l.findIdx (fun p => hasB p at') : Nat) : Int) else -1, ()) := by
  unfold f35
  have e : iter big u35_69_2_0 ((l, ((), (((l.length : Nat) : Int), (0, ())))), (((at', ()), ()), ())) = _ :=
    it_idx l (fun p => hasB p at') (fun j => ((l, ((), (((l.length : Nat) : Int), (((j : Nat) : Int), ())))), (((at', ()), ()), ()))) (fun j => ((((j : Nat) : Int), ()), (((at', ()), ()), ())))
      (y := ((), (((at', ()), ()), ()))) (fun j h => by
        simp only [u35_69_2_0, t35_69_2_0, ltn h, ge0, cond_true, Bool.and_self, Int.toNat_natCast, rdH h, f71_eq, Option.bind_some, nx h hl])
      (by simp only [u35_69_2_0, t35_69_2_0, nlt, cond_false]) (fuel := big) (by unfold big; omega)
  rw [e]
  split <;> rfl

theorem f67_eq (a b c d : Int) : f67 a b c d = some (decide (c < a) || (decide (a = c) && decide (d < b)), ()) := by
  unfold f67
  cases decide (c < a) with
  | true => rfl
  | false => cases decide (a = c) <;> rfl

abbrev findP (a b : Int) : LT → Bool := fun x => decide (x.2.1 = a) && decide (x.2.2.1 = b)

theorem f52_eq (a b c d e : Int) : f52 a b c d e = some ((b, c), ()) := by unfold f52 f73; rfl

theorem f25_eq (l : List LT) (hl : Sz l) (a b : Int) : f25 l a b = some (if l.findIdx (findP a b) < l.length then ((l.findIdx (findP a b) : Nat) : Int) else -1, ()) := by
  unfold f25
  have e : iter big u25_86_2_0 ((l, ((), (((l.length : Nat) : Int), (0, ())))), (((a, (b, ())), (((), ()), ())), ())) = _ :=
    it_idx l (findP a b) (fun j => ((l, ((), (((l.length : Nat) : Int), (((j : Nat) : Int), ())))), (((a, (b, ())), (((), ()), ())), ()))) (fun j => ((((j : Nat) : Int), ()), (((a, (b, ())), (((), ()), ())), ())))
      (y := ((), (((a, (b, ())), (((), ()), ())), ()))) (fun j h => by
        simp only [u25_86_2_0, t25_86_2_0, ltn h, ge0, cond_true, Bool.and_self, Int.toNat_natCast, rdL h, f52_eq, Option.bind_some, findP, Bool.and_true, nx h hl])
      (by simp only [u25_86_2_0, t25_86_2_0, nlt, cond_false]) (fuel := big) (by unfold big; omega)
  rw [e]
  split <;> rfl

/-- two pools have an address alike -/
def meetB (p q : HT) : Bool := decide (p.1 < q.1 + q.2.1) && decide (q.1 < p.1 + p.2.1)
/-- a pool may be, of so many addresses -/
def FitsP (p : HT) (out : Int) : Prop := 0 ≤ p.1 ∧ 1 ≤ p.2.1 ∧ p.1 < out ∧ p.2.1 ≤ out - p.1

theorem f64_some (a b c d e f : Int) : ∃ r, f64 a b c d e f = some (r, ()) := by
  unfold f64
  cases decide (a < IntKind.wrap .i64 (d + e)) <;> exact ⟨_, rfl⟩

theorem f64_eq {p q : HT} {out : Int} (hp : FitsP p out) (hq : FitsP q out) (ho : out ≤ 4) : f64 p.1 p.2.1 p.2.2 q.1 q.2.1 q.2.2 = some (meetB p q, ()) := by
  obtain ⟨p1, p2, p3, p4⟩ := hp
  obtain ⟨q1, q2, q3, q4⟩ := hq
  unfold f64 meetB
  rw [w64 (x := q.1 + q.2.1) (by omega) (by omega), w64 (x := p.1 + p.2.1) (by omega) (by omega)]
  cases decide (p.1 < q.1 + q.2.1) <;> rfl

theorem f65_ok (p : HT) (out : Int) (h0 : 0 ≤ out) (h1 : out ≤ 4) : ∃ r, f65 p.1 p.2.1 p.2.2 out = some (r, ()) ∧ (r = true → FitsP p out) := by
  unfold f65
  by_cases c1 : 0 ≤ p.1
  · rw [decide_eq_true c1]
    by_cases c2 : 1 ≤ p.2.1
    · rw [decide_eq_true c2]
      by_cases c3 : p.1 < out
      · rw [decide_eq_true c3, w64 (x := out - p.1) (by omega) (by omega)]
        by_cases c4 : p.2.1 ≤ out - p.1
        · rw [decide_eq_true c4]
          cases decide (0 ≤ p.2.2) <;> exact ⟨_, rfl, fun _ => ⟨c1, c2, c3, c4⟩⟩
        · rw [decide_eq_false c4]; exact ⟨_, rfl, fun h => by simp at h⟩
      · rw [decide_eq_false c3]; exact ⟨_, rfl, fun h => by simp at h⟩
    · rw [decide_eq_false c2]; exact ⟨_, rfl, fun h => by simp at h⟩
  · rw [decide_eq_false c1]; exact ⟨_, rfl, fun h => by simp at h⟩

/-- the pools ahead that meet one -/
theorem inner_ok (l : List HT) (hl : Sz l) (p : HT) (out : Int) (hp : FitsP p out) (ho : out ≤ 4) (hf : ∀ q ∈ l, FitsP q out) :
    iter big u30_69_2_0 ((l, ((), (((l.length : Nat) : Int), (0, ())))), (((p.1, (p.2.1, (p.2.2, ()))), ()), ())) =
      some (if l.findIdx (fun q => meetB p q) < l.length then .inr ((((l.findIdx (fun q => meetB p q) : Nat) : Int), ()), (((p.1, (p.2.1, (p.2.2, ()))), ()), ())) else .inl ((), (((p.1, (p.2.1, (p.2.2, ()))), ()), ()))) :=
  it_idx l (fun q => meetB p q) (fun j => ((l, ((), (((l.length : Nat) : Int), (((j : Nat) : Int), ())))), (((p.1, (p.2.1, (p.2.2, ()))), ()), ()))) (fun j => ((((j : Nat) : Int), ()), (((p.1, (p.2.1, (p.2.2, ()))), ()), ())))
    (y := ((), (((p.1, (p.2.1, (p.2.2, ()))), ()), ()))) (fun j h => by
      simp only [u30_69_2_0, t30_69_2_0, ltn h, ge0, cond_true, Bool.and_self, Int.toNat_natCast, rdH h, f64_eq hp (hf _ (List.getElem_mem h)) ho, Option.bind_some, nx h hl])
    (by simp only [u30_69_2_0, t30_69_2_0, nlt, cond_false]) (fuel := big) (by unfold big; omega)

/-- pools that may be -/
structure PoolsP (l : List HT) (out : Int) : Prop where
  out0 : 0 ≤ out
  out4 : out ≤ 4
  len : l.length ≤ 3
  fits : ∀ p ∈ l, FitsP p out
  apart : ∀ i j (hi : i < l.length) (hj : j < l.length), i < j → meetB l[j] l[i] = false

theorem f30_ok (l : List HT) (out : Int) : ∃ r, f30 l out = some (r, ()) ∧ (r = true → PoolsP l out) := by
  unfold f30
  by_cases h0 : out < 0
  · rw [decide_eq_true h0]; exact ⟨_, rfl, fun h => by simp at h⟩
  · rw [decide_eq_false h0]
    by_cases h4 : 4 < out
    · rw [decide_eq_true h4]; exact ⟨_, rfl, fun h => by simp at h⟩
    · rw [decide_eq_false h4]
      by_cases h3 : 3 < l.length
      · rw [decide_eq_true (show (3 : Int) < ((l.length : Nat) : Int) by omega)]; exact ⟨_, rfl, fun h => by simp at h⟩
      · rw [decide_eq_false (show ¬ (3 : Int) < ((l.length : Nat) : Int) by omega)]
        simp only [cond_false]
        let st : Nat → X30_4 := fun j => ((l, (out, (l, (((l.length : Nat) : Int), (((j : Nat) : Int), ()))))), ((), ()))
        let J : Nat → Prop := fun j => j ≤ l.length ∧ (∀ i (hi : i < l.length), i < j → FitsP l[i] out) ∧ ∀ i k (hi : i < l.length) (hk : k < l.length), i < k → k < j → meetB l[k] l[i] = false
        obtain ⟨r, e1, e2⟩ := it_inv (f := u30_4) (fun x => ∃ j, x = st j ∧ J j) (fun x => l.length - x.1.2.2.2.2.1.toNat)
          (fun r => match r with
            | .inl _ => J l.length
            | .inr z => z.1.1 = false) (by
          rintro x ⟨j, rfl, hj1, hj2, hj3⟩
          rcases Nat.lt_or_ge j l.length with hlt | hge
          · obtain ⟨b, hb1, hb2⟩ := f65_ok l[j] out (by omega) (by omega)
            cases b with
            | false =>
              refine .inr (.inr ⟨((false, ()), ((), ())), ?_, rfl⟩)
              simp only [st, u30_4, t30_4, ltn hlt, ge0, cond_true, Bool.and_self, Int.toNat_natCast, rdH hlt, hb1, Option.bind_some, Bool.not_false]
            | true =>
              have hfit := hb2 rfl
              have htake : List.drop 0 (List.take j l) = l.take j := by simp
              have hin := inner_ok (l.take j) (by unfold Sz; simp; omega) l[j] out hfit (by omega) (fun q hq => by
                obtain ⟨i, hi, rfl⟩ := List.mem_iff_getElem.1 hq
                rw [List.getElem_take]
                exact hj2 i (by simp at hi; omega) (by simp at hi; omega))
              have hle : decide (((j : Nat) : Int) ≤ ((l.length : Nat) : Int)) = true := decide_eq_true (by omega)
              by_cases hm : (l.take j).findIdx (fun q => meetB l[j] q) < (l.take j).length
              · rw [if_pos hm] at hin
                refine .inr (.inr ⟨((false, ()), ((), ())), ?_, ?_⟩)
                · simp only [st, u30_4, t30_4, ltn hlt, ge0, cond_true, Bool.and_self, Int.toNat_natCast, rdH hlt, hb1, Option.bind_some, Bool.not_true, cond_false, hle, htake, hin]
                · rfl
              · rw [if_neg hm] at hin
                have hno : ∀ i (hi : i < l.length), i < j → meetB l[j] l[i] = false := by
                  intro i hi hij
                  have h1 := hm
                  rw [List.findIdx_lt_length] at h1
                  cases hb : meetB l[j] l[i] with
                  | false => rfl
                  | true =>
                    exfalso
                    refine h1 ⟨l[i], ?_, hb⟩
                    rw [List.mem_iff_getElem]
                    exact ⟨i, by simp; omega, by simp⟩
                refine .inl ⟨st (j + 1), ?_, ⟨j + 1, rfl, by omega, fun i hi hij => ?_, fun i k hi hk hik hkj => ?_⟩, ?_⟩
                · simp only [st, u30_4, t30_4, ltn hlt, ge0, cond_true, Bool.and_self, Int.toNat_natCast, rdH hlt, hb1, Option.bind_some, Bool.not_true, cond_false, hle, htake, hin, nx hlt (show l.length ≤ 9223372036854775807 by omega)]
                · by_cases e : i = j
                  · subst e; exact hfit
                  · exact hj2 i hi (by omega)
                · by_cases e : k = j
                  · subst e; exact hno i hi hik
                  · exact hj3 i k hi hk hik (by omega)
                · show l.length - Int.toNat (((j + 1 : Nat) : Int)) < l.length - Int.toNat ((j : Nat) : Int)
                  omega
          · have : j = l.length := by omega
            subst this
            refine .inr (.inl ⟨((), ((), ())), ?_, ?_⟩)
            · simp only [st, u30_4, t30_4, nlt, cond_false]
            · exact ⟨by omega, hj2, hj3⟩)
          big (st 0) ⟨0, rfl, by omega, fun i hi h => by omega, fun i k hi hk h1 h2 => by omega⟩ (by simp only [st]; unfold big; omega)
        have e1' : iter big u30_4 ((l, (out, (l, (((l.length : Nat) : Int), (0, ()))))), ((), ())) = some r := e1
        rw [e1']
        cases r with
        | inl y =>
          obtain ⟨_, k1, k2⟩ := e2
          refine ⟨true, rfl, fun _ => ⟨by omega, by omega, by omega, fun p hp => ?_, fun i j hi hj hij => k2 i j hi hj hij hj⟩⟩
          obtain ⟨i, hi, rfl⟩ := List.mem_iff_getElem.1 hp
          exact k1 i hi hi
        | inr z =>
          refine ⟨z.1.1, rfl, fun h => ?_⟩
          have : z.1.1 = false := e2
          rw [this] at h; simp at h
end Go.Proofs.Zz
