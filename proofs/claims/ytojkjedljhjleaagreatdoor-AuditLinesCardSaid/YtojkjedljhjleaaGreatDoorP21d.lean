/- Plain laws of chapter 21: what a state that may be is like. -/
import Derived.Test.YtojkjedljhjleaaGreatDoorP21c
namespace Go.Proofs.Zz
open Go Go.Sy
set_option linter.unusedSimpArgs false
set_option linter.unusedVariables false

section
variable {a b c d e f g h : Int}

theorem f21_eq' (sub : Int) : f21 a b c d e f g h sub = some (if isSub a b c d e f g h sub then baseI a b c d e f g sub else (0, (0, 0)), (isSub a b c d e f g h sub, ())) := by
  rw [f21_eq]
  cases isSub a b c d e f g h sub <;> rfl

theorem f23_eq' (at' blk : Int) : f23 a b c d e f g h at' blk = some (if isBlk a b c d e f g h at' blk then blkI f g h at' blk else (0, (0, 0)), (isBlk a b c d e f g h at' blk, ())) := by
  rw [f23_eq]
  cases isBlk a b c d e f g h at' blk <;> rfl
end

/-- one stands ahead of the other one -/
abbrev ltB (x1 x2 y1 y2 : Int) : Prop := x1 < y1 ∨ (x1 = y1 ∧ x2 < y2)

section
variable {a b c d e f g h q i' o : Int} {p : Bool} {now : Int} {P H : List HT} {L : List LT}

/-- leases that may be -/
structure LeasesP (a b c d e f g h : Int) (P : List HT) (L : List LT) : Prop where
  len : L.length ≤ 32
  sub : ∀ x ∈ L, isSub a b c d e f g h x.1 = true
  blk : ∀ x ∈ L, isBlk a b c d e f g h x.2.1 x.2.2.1 = true
  pool : ∀ x ∈ L, P.findIdx (fun p => hasB p x.2.1) < P.length
  srt : ∀ j (hj : j + 1 < L.length), ltB L[j].2.1 L[j].2.2.1 L[j + 1].2.1 L[j + 1].2.2.1

abbrev st32 (a b c d e f g h q i' o : Int) (p : Bool) (now : Int) (P : List HT) (L : List LT) (H : List HT) (j : Nat) (mp : List (Int × Int)) : X32_3 :=
  (((), ((), (L, (((L.length : Nat) : Int), (((j : Nat) : Int), ()))))), (((a, (b, (c, (d, (e, (f, (g, (h, (q, (i', (o, (p, (now, (P, (L, (H, ())))))))))))))))), (mp, ())), ()))

theorem step32 (hP : Sz P) (hL : Sz L) (j : Nat) (mp : List (Int × Int)) (hj : j < L.length) :
    u32_3 (st32 a b c d e f g h q i' o p now P L H j mp) = some (.ret ((false, ()), ((), ()))) ∨
    ∃ mp', u32_3 (st32 a b c d e f g h q i' o p now P L H j mp) = some (.next (st32 a b c d e f g h q i' o p now P L H (j + 1) mp')) ∧
      isSub a b c d e f g h L[j].1 = true ∧ isBlk a b c d e f g h L[j].2.1 L[j].2.2.1 = true ∧ P.findIdx (fun p => hasB p L[j].2.1) < P.length ∧
      (∀ (h0 : 0 < j), ltB (L[j - 1]'(by omega)).2.1 (L[j - 1]'(by omega)).2.2.1 L[j].2.1 L[j].2.2.1) := by
  simp only [st32, u32_3, t32_3, ltn hj, ge0, cond_true, Bool.and_self, Int.toNat_natCast, rdL hj, f21_eq', f23_eq', Option.bind_some, f35_eq P hP, nx hj hL]
  cases hS : isSub a b c d e f g h L[j].1 with
  | false => exact .inl rfl
  | true =>
  cases hB : isBlk a b c d e f g h L[j].2.1 L[j].2.2.1 with
  | false => exact .inl rfl
  | true =>
  simp only [Bool.not_true, cond_false, if_true]
  by_cases hI : P.findIdx (fun p => hasB p L[j].2.1) < P.length
  case neg => rw [if_neg hI]; exact .inl rfl
  rw [if_pos hI, decide_eq_false (show ¬ ((P.findIdx (fun p => hasB p L[j].2.1) : Nat) : Int) = -1 by omega)]
  simp only [cond_false]
  -- what is last: the order
  have last : ∀ (X Y : Option (R3 X32_3 Y32_3 Z32_3)) (fin : ∀ (h0 : 0 < j), ltB (L[j - 1]'(by omega)).2.1 (L[j - 1]'(by omega)).2.2.1 L[j].2.1 L[j].2.2.1 → Prop), True := fun _ _ _ => trivial
  have ord : ∀ (N : R3 X32_3 Y32_3 Z32_3), (cond (decide ((0 : Int) < ((j : Nat) : Int)))
      (cond ((decide ((0 : Int) ≤ IntKind.wrap .i64 (((j : Nat) : Int) - 1))) && (decide (IntKind.wrap .i64 (((j : Nat) : Int) - 1) < ((L.length : Nat) : Int))))
        (cond ((decide ((0 : Int) ≤ IntKind.wrap .i64 (((j : Nat) : Int) - 1))) && (decide (IntKind.wrap .i64 (((j : Nat) : Int) - 1) < ((L.length : Nat) : Int))))
          ((f67 L[j].2.1 L[j].2.2.1 (rd (.pair (.int .i64) (.pair (.int .i64) (.pair (.int .i64) (.pair (.int .i64) (.int .i64))))) L (Int.toNat (IntKind.wrap .i64 (((j : Nat) : Int) - 1)))).2.1 (rd (.pair (.int .i64) (.pair (.int .i64) (.pair (.int .i64) (.pair (.int .i64) (.int .i64))))) L (Int.toNat (IntKind.wrap .i64 (((j : Nat) : Int) - 1)))).2.2.1).bind fun y24 =>
            cond (!y24.1) (some (R3.ret ((false, ()), ((), ())))) (some N)) none) none) (some N)) = some (R3.ret ((false, ()), ((), ()))) ∨
      ((cond (decide ((0 : Int) < ((j : Nat) : Int)))
      (cond ((decide ((0 : Int) ≤ IntKind.wrap .i64 (((j : Nat) : Int) - 1))) && (decide (IntKind.wrap .i64 (((j : Nat) : Int) - 1) < ((L.length : Nat) : Int))))
        (cond ((decide ((0 : Int) ≤ IntKind.wrap .i64 (((j : Nat) : Int) - 1))) && (decide (IntKind.wrap .i64 (((j : Nat) : Int) - 1) < ((L.length : Nat) : Int))))
          ((f67 L[j].2.1 L[j].2.2.1 (rd (.pair (.int .i64) (.pair (.int .i64) (.pair (.int .i64) (.pair (.int .i64) (.int .i64))))) L (Int.toNat (IntKind.wrap .i64 (((j : Nat) : Int) - 1)))).2.1 (rd (.pair (.int .i64) (.pair (.int .i64) (.pair (.int .i64) (.pair (.int .i64) (.int .i64))))) L (Int.toNat (IntKind.wrap .i64 (((j : Nat) : Int) - 1)))).2.2.1).bind fun y24 =>
            cond (!y24.1) (some (R3.ret ((false, ()), ((), ())))) (some N)) none) none) (some N)) = some N ∧
        (∀ (h0 : 0 < j), ltB (L[j - 1]'(by omega)).2.1 (L[j - 1]'(by omega)).2.2.1 L[j].2.1 L[j].2.2.1)) := by
    intro N
    by_cases h0 : 0 < j
    · have hw : IntKind.wrap .i64 (((j : Nat) : Int) - 1) = ((j - 1 : Nat) : Int) := by rw [w64 (by omega) (by omega)]; omega
      have hl1 : j - 1 < L.length := by omega
      rw [decide_eq_true (show (0 : Int) < ((j : Nat) : Int) by omega), hw, ge0, ltn hl1, Int.toNat_natCast, rdL hl1, f67_eq]
      simp only [cond_true, Bool.and_self, Option.bind_some]
      cases hb : (decide ((L[j - 1]'(by omega)).2.1 < L[j].2.1) || (decide (L[j].2.1 = (L[j - 1]'(by omega)).2.1) && decide ((L[j - 1]'(by omega)).2.2.1 < L[j].2.2.1))) with
      | false => exact .inl rfl
      | true =>
        refine .inr ⟨rfl, fun _ => ?_⟩
        simp only [Bool.or_eq_true, Bool.and_eq_true, decide_eq_true_eq] at hb
        unfold ltB
        omega
    · rw [decide_eq_false (show ¬ (0 : Int) < ((j : Nat) : Int) by omega)]
      exact .inr ⟨rfl, fun h => absurd h h0⟩
  have fin : ∀ {X : Option (R3 X32_3 Y32_3 Z32_3)} (mp' : List (Int × Int)), (X = some (.ret ((false, ()), ((), ()))) ∨ (X = some (.next (st32 a b c d e f g h q i' o p now P L H (j + 1) mp')) ∧ ∀ (h0 : 0 < j), ltB (L[j - 1]'(by omega)).2.1 (L[j - 1]'(by omega)).2.2.1 L[j].2.1 L[j].2.2.1)) →
      X = some (.ret ((false, ()), ((), ()))) ∨ ∃ mp', X = some (.next (st32 a b c d e f g h q i' o p now P L H (j + 1) mp')) ∧ True ∧ True ∧ P.findIdx (fun p => hasB p L[j].2.1) < P.length ∧ (∀ (h0 : 0 < j), ltB (L[j - 1]'(by omega)).2.1 (L[j - 1]'(by omega)).2.2.1 L[j].2.1 L[j].2.2.1) := by
    rintro X mp' (h | ⟨h1, h2⟩)
    · exact .inl h
    · exact .inr ⟨mp', h1, trivial, trivial, hI, h2⟩
  refine fin (mPut mp L[j].1 (IntKind.wrap .i64 (mVal mp L[j].1 + 1))) ?_
  have tests : ∀ (t1 t2 t3 t4 t5 : Bool) (X : Option (R3 X32_3 Y32_3 Z32_3)) (N : R3 X32_3 Y32_3 Z32_3), (X = some (R3.ret ((false, ()), ((), ()))) ∨ (X = some N ∧ ∀ (h0 : 0 < j), ltB (L[j - 1]'(by omega)).2.1 (L[j - 1]'(by omega)).2.2.1 L[j].2.1 L[j].2.2.1)) →
      (cond t1 (some (R3.ret ((false, ()), ((), ())))) (cond t2 (some (R3.ret ((false, ()), ((), ())))) (cond t3 (some (R3.ret ((false, ()), ((), ())))) (cond t4 (some (R3.ret ((false, ()), ((), ())))) (cond t5 (some (R3.ret ((false, ()), ((), ())))) X)))) = some (R3.ret ((false, ()), ((), ()))) ∨
      (cond t1 (some (R3.ret ((false, ()), ((), ())))) (cond t2 (some (R3.ret ((false, ()), ((), ())))) (cond t3 (some (R3.ret ((false, ()), ((), ())))) (cond t4 (some (R3.ret ((false, ()), ((), ())))) (cond t5 (some (R3.ret ((false, ()), ((), ())))) X)))) = some N ∧ ∀ (h0 : 0 < j), ltB (L[j - 1]'(by omega)).2.1 (L[j - 1]'(by omega)).2.2.1 L[j].2.1 L[j].2.2.1)) := by
    intro t1 t2 t3 t4 t5 X N hX
    cases t1 <;> cases t2 <;> cases t3 <;> cases t4 <;> cases t5 <;> first | exact hX | exact .inl rfl
  cases p with
  | true =>
    simp only [cond_true]
    cases (decide ((baseI a b c d e f g L[j].1).1 = L[j].2.1)) with
    | false => exact .inl rfl
    | true =>
      simp only [Bool.not_true, cond_false]
      exact tests _ _ _ _ _ _ _ (ord _)
  | false =>
    simp only [cond_false]
    exact tests _ _ _ _ _ _ _ (ord _)

theorem f32_ok (hP : Sz P) (hL : Sz L) : ∃ r, f32 a b c d e f g h q i' o p now P L H = some (r, ()) ∧ (r = true → LeasesP a b c d e f g h P L) := by
  unfold f32
  let J : Nat → Prop := fun j => j ≤ L.length ∧ (∀ i (hi : i < L.length), i < j → isSub a b c d e f g h L[i].1 = true ∧ isBlk a b c d e f g h L[i].2.1 L[i].2.2.1 = true ∧ P.findIdx (fun p => hasB p L[i].2.1) < P.length) ∧
    ∀ i (hi : i + 1 < L.length), i + 1 < j → ltB L[i].2.1 L[i].2.2.1 L[i + 1].2.1 L[i + 1].2.2.1
  obtain ⟨r, e1, e2⟩ := it_inv (f := u32_3) (fun x => ∃ j mp, x = st32 a b c d e f g h q i' o p now P L H j mp ∧ J j) (fun x => L.length - x.1.2.2.2.2.1.toNat)
    (fun r => match r with
      | .inl y => J L.length ∧ y.2.1.1.2.2.2.2.2.2.2.2.2.2.2.2.2.2.1 = L
      | .inr z => z.1.1 = false) (by
    rintro x ⟨j, mp, rfl, hj1, hj2, hj3⟩
    rcases Nat.lt_or_ge j L.length with hlt | hge
    · rcases step32 (a := a) (b := b) (c := c) (d := d) (e := e) (f := f) (g := g) (h := h) (q := q) (i' := i') (o := o) (p := p) (now := now) (H := H) hP hL j mp hlt with hs | ⟨mp', hs, k1, k2, k3, k4⟩
      · exact .inr (.inr ⟨_, hs, rfl⟩)
      · refine .inl ⟨_, hs, ⟨j + 1, mp', rfl, by omega, fun i hi hij => ?_, fun i hi hij => ?_⟩, ?_⟩
        · by_cases ei : i = j
          · subst ei; exact ⟨k1, k2, k3⟩
          · exact hj2 i hi (by omega)
        · by_cases ei : i + 1 = j
          · subst ei; exact k4 (by omega)
          · exact hj3 i hi (by omega)
        · show L.length - Int.toNat (((j + 1 : Nat) : Int)) < L.length - Int.toNat ((j : Nat) : Int)
          omega
    · have : j = L.length := by omega
      subst this
      refine .inr (.inl ⟨(((), ()), (((a, (b, (c, (d, (e, (f, (g, (h, (q, (i', (o, (p, (now, (P, (L, (H, ())))))))))))))))), ()), ())), ?_, ⟨⟨by omega, hj2, hj3⟩, rfl⟩⟩)
      simp only [st32, u32_3, t32_3, nlt, cond_false])
    big (st32 a b c d e f g h q i' o p now P L H 0 []) ⟨0, [], rfl, by omega, fun i hi h => by omega, fun i hi h => by omega⟩ (by
      show L.length - Int.toNat ((0 : Nat) : Int) < big
      unfold big; omega)
  have e1' : iter big u32_3 (((), ((), (L, (((L.length : Nat) : Int), (0, ()))))), (((a, (b, (c, (d, (e, (f, (g, (h, (q, (i', (o, (p, (now, (P, (L, (H, ())))))))))))))))), ([], ())), ())) = some r := e1
  rw [e1']
  cases r with
  | inl y =>
    obtain ⟨⟨_, k1, k2⟩, k3⟩ := e2
    refine ⟨_, rfl, fun hr => ?_⟩
    rw [decide_eq_true_eq, k3] at hr
    refine ⟨by omega, fun x hx => ?_, fun x hx => ?_, fun x hx => ?_, fun j hj => k2 j hj hj⟩
    all_goals obtain ⟨i, hi, rfl⟩ := List.mem_iff_getElem.1 hx
    · exact (k1 i hi hi).1
    · exact (k1 i hi hi).2.1
    · exact (k1 i hi hi).2.2
  | inr z =>
    refine ⟨z.1.1, rfl, fun hr => ?_⟩
    have : z.1.1 = false := e2
    rw [this] at hr; simp at hr
end
end Go.Proofs.Zz
