/- Leases, what is held, and states that may be: the program's functions in the model's words. -/
import Derived.Test.YtipajaocggpahaaGreatP15c
namespace Go.Proofs.Zz
open Go Go.Sy
set_option linter.unusedSimpArgs false
set_option linter.unusedVariables false

theorem mPut_cons (p : Int × Int) (l : List (Int × Int)) (x v : Int) : mPut (p :: l) x v = if x = p.1 then (p.1, v) :: l else p :: mPut l x v := by
  unfold mPut
  by_cases h : x = p.1
  · simp [mHas, mIdx, mSet, h]
  · rw [if_neg h]
    simp only [mHas, mIdx, decide_eq_false h, cond_false]
    cases mHas l x <;> rfl

theorem mVal_put (x v y : Int) : ∀ (l : List (Int × Int)), mVal (mPut l x v) y = if y = x then v else mVal l y
  | [] => by
    show mVal [(x, v)] y = _
    by_cases h : y = x <;> simp [mVal, h]
  | p :: l => by
    rw [mPut_cons]
    by_cases h : x = p.1
    · rw [if_pos h]
      simp only [mVal]
      by_cases h2 : y = p.1
      · simp [h2, h]
      · rw [decide_eq_false h2, if_neg (by rw [h]; exact h2)]; rfl
    · rw [if_neg h]
      simp only [mVal]
      by_cases h2 : y = p.1
      · rw [decide_eq_true h2, if_neg (by rw [h2]; exact fun e => h e.symm)]; rfl
      · rw [decide_eq_false h2]
        simp only [cond_false]
        exact mVal_put x v y l

section
variable {D : DT} {p : PT} {now : Int} {P H : List HT} {L : List LT}

abbrev st43 (D : DT) (p : PT) (now : Int) (P : List HT) (L : List LT) (H : List HT) (j : Nat) (mp : List (Int × Int)) : X43_3 :=
  (((), ((), (L, (((L.length : Nat) : Int), (((j : Nat) : Int), ()))))), (((D.1.1, (D.1.2, (D.2.1.1, (D.2.1.2, (D.2.2.1, (D.2.2.2.1, (D.2.2.2.2.1, (D.2.2.2.2.2, (p.1, (p.2.1, (p.2.2.1, (p.2.2.2, (now, (P, (L, (H, ())))))))))))))))), (mp, ())), ()))

theorem cnt_le (L : List LT) (s : Int) : cnt L s ≤ L.length := List.countP_le_length

theorem step43 (hp : PolP p) (h0 : 0 ≤ now) (h1 : now ≤ 1073741824) (hP : Sz P) (hL : Sz L) (j : Nat) (mp : List (Int × Int)) (hj : j < L.length) (hmp : ∀ s, mVal mp s = ((cnt (L.take j) s : Nat) : Int)) :
    (u43_3 (st43 D p now P L H j mp) = some (.ret ((false, ()), ((), ()))) ∧ ¬ (LeaseOK D p now P L[j] ∧ ((cnt (L.take j) L[j].1 + 1 : Nat) : Int) ≤ p.1 ∧ ∀ (h0 : 0 < j), ltL (L[j - 1]'(by omega)) L[j])) ∨
    ((∃ mp', u43_3 (st43 D p now P L H j mp) = some (.next (st43 D p now P L H (j + 1) mp')) ∧ ∀ s, mVal mp' s = ((cnt (L.take (j + 1)) s : Nat) : Int)) ∧
      LeaseOK D p now P L[j] ∧ ((cnt (L.take j) L[j].1 + 1 : Nat) : Int) ≤ p.1 ∧ ∀ (h0 : 0 < j), ltL (L[j - 1]'(by omega)) L[j]) := by
  obtain ⟨p1, p2, p3, pr⟩ := p
  have hc : cnt (L.take j) L[j].1 ≤ j := Nat.le_trans (cnt_le _ _) (by rw [List.length_take]; omega)
  have hv : mVal mp L[j].1 + 1 = ((cnt (L.take j) L[j].1 + 1 : Nat) : Int) := by rw [hmp]; omega
  have hw : IntKind.wrap .i64 (mVal mp L[j].1 + 1) = ((cnt (L.take j) L[j].1 + 1 : Nat) : Int) := by rw [w64 (by omega) (by unfold Sz at hL; omega), hv]
  have hi : IntKind.wrap .i64 (now - p2) = now - p2 := by have h2 : 1 ≤ p2 ∧ p2 ≤ 1048576 := hp.2.1; exact w64 (by omega) (by omega)
  simp only [st43, u43_3, t43_3, ltn hj, ge0, cond_true, Bool.and_self, Int.toNat_natCast, rdL hj, f85_eq, f86_eq, Option.bind_some, f87_eq P hP, nx hj hL, mVal_put, if_true, hw, hi]
  by_cases hS : SubP D L[j].1
  case neg => rw [decide_eq_false hS]; exact .inl ⟨rfl, fun h => hS h.1.sub⟩
  rw [decide_eq_true hS, if_pos hS]
  by_cases hB : BlkP D L[j].2.1 L[j].2.2.1
  case neg => rw [decide_eq_false hB]; exact .inl ⟨rfl, fun h => hB h.1.blk⟩
  rw [decide_eq_true hB]
  simp only [Bool.not_true, cond_false]
  by_cases hI : poolOf P L[j].2.1 = -1
  · rw [decide_eq_true hI]
    refine .inl ⟨rfl, fun h => ?_⟩
    have := h.1.pool
    rw [(poolOf_none _ _).1 hI] at this
    simp at this
  rw [decide_eq_false hI]
  have hpool : inB P L[j].2.1 = true := by
    cases hb : inB P L[j].2.1 with
    | true => rfl
    | false => exact absurd ((poolOf_none _ _).2 hb) hI
  simp only [cond_false]
  -- what is behind the pair: the same on both ways
  have hlt1 : 0 < j → j - 1 < L.length := fun _ => by omega
  have fin : ∀ (hpr : pr = true → L[j].1 / rat D = L[j].2.1) (X : Option (R3 X43_3 Y43_3 Z43_3)),
      X = (cond (decide (p1 < ((cnt (L.take j) L[j].1 + 1 : Nat) : Int))) (some (.ret ((false, ()), ((), ())))) (cond (decide (L[j].2.2.2.1 < 0)) (some (.ret ((false, ()), ((), ())))) (cond (decide (L[j].2.2.2.2 < L[j].2.2.2.1)) (some (.ret ((false, ()), ((), ()))))
        (cond (decide (now < L[j].2.2.2.2)) (some (.ret ((false, ()), ((), ())))) (cond (decide (L[j].2.2.2.2 ≤ now - p2)) (some (.ret ((false, ()), ((), ()))))
          (if (∀ (h0 : 0 < j), ltL (L[j - 1]'(by omega)) L[j]) then some (.next (st43 D (p1, (p2, (p3, pr))) now P L H (j + 1) (mPut mp L[j].1 ((cnt (L.take j) L[j].1 + 1 : Nat) : Int)))) else some (.ret ((false, ()), ((), ()))))))))) →
      (X = some (.ret ((false, ()), ((), ()))) ∧ ¬ (LeaseOK D (p1, (p2, (p3, pr))) now P L[j] ∧ ((cnt (L.take j) L[j].1 + 1 : Nat) : Int) ≤ p1 ∧ ∀ (h0 : 0 < j), ltL (L[j - 1]'(by omega)) L[j])) ∨
      ((∃ mp', X = some (.next (st43 D (p1, (p2, (p3, pr))) now P L H (j + 1) mp')) ∧ ∀ s, mVal mp' s = ((cnt (L.take (j + 1)) s : Nat) : Int)) ∧
        LeaseOK D (p1, (p2, (p3, pr))) now P L[j] ∧ ((cnt (L.take j) L[j].1 + 1 : Nat) : Int) ≤ p1 ∧ ∀ (h0 : 0 < j), ltL (L[j - 1]'(by omega)) L[j]) := by
    intro hpr X hX
    subst hX
    by_cases c1 : p1 < ((cnt (L.take j) L[j].1 + 1 : Nat) : Int)
    · rw [decide_eq_true c1]; exact .inl ⟨rfl, fun h => by have := h.2.1; omega⟩
    rw [decide_eq_false c1]
    by_cases c2 : L[j].2.2.2.1 < 0
    · rw [decide_eq_true c2]; exact .inl ⟨rfl, fun h => by have := h.1.from0; omega⟩
    rw [decide_eq_false c2]
    by_cases c3 : L[j].2.2.2.2 < L[j].2.2.2.1
    · rw [decide_eq_true c3]; exact .inl ⟨rfl, fun h => by have := h.1.last1; omega⟩
    rw [decide_eq_false c3]
    by_cases c4 : now < L[j].2.2.2.2
    · rw [decide_eq_true c4]; exact .inl ⟨rfl, fun h => by have := h.1.last2; omega⟩
    rw [decide_eq_false c4]
    by_cases c5 : L[j].2.2.2.2 ≤ now - p2
    · rw [decide_eq_true c5]; exact .inl ⟨rfl, fun h => by have : now - p2 < L[j].2.2.2.2 := h.1.idle; omega⟩
    rw [decide_eq_false c5]
    simp only [cond_false]
    by_cases c6 : ∀ (h0 : 0 < j), ltL (L[j - 1]'(by omega)) L[j]
    · rw [if_pos c6]
      refine .inr ⟨⟨_, rfl, fun s => ?_⟩, ⟨hS, hB, hpool, hpr, by omega, by omega, by omega, show now - p2 < L[j].2.2.2.2 by omega⟩, by show _ ≤ p1; omega, c6⟩
      rw [mVal_put, take_snoc hj, cnt_snoc, hmp]
      by_cases e : s = L[j].1
      · subst e; rw [if_pos rfl, if_pos rfl]
      · rw [if_neg e, if_neg (fun h => e h.symm)]; rfl
    · rw [if_neg c6]; exact .inl ⟨rfl, fun h => c6 h.2.2⟩
  have tail : ∀ (N : R3 X43_3 Y43_3 Z43_3), (cond (decide ((0 : Int) < ((j : Nat) : Int)))
      (cond (decide (0 ≤ IntKind.wrap .i64 (((j : Nat) : Int) - 1)) && decide (IntKind.wrap .i64 (((j : Nat) : Int) - 1) < ((L.length : Nat) : Int)))
        (cond (decide (0 ≤ IntKind.wrap .i64 (((j : Nat) : Int) - 1)) && decide (IntKind.wrap .i64 (((j : Nat) : Int) - 1) < ((L.length : Nat) : Int)))
          ((f88 L[j].2.1 L[j].2.2.1 (rd (.pair (.int .i64) (.pair (.int .i64) (.pair (.int .i64) (.pair (.int .i64) (.int .i64))))) L (Int.toNat (IntKind.wrap .i64 (((j : Nat) : Int) - 1)))).2.1 (rd (.pair (.int .i64) (.pair (.int .i64) (.pair (.int .i64) (.pair (.int .i64) (.int .i64))))) L (Int.toNat (IntKind.wrap .i64 (((j : Nat) : Int) - 1)))).2.2.1).bind fun y24 =>
            cond (!y24.1) (some (R3.ret ((false, ()), ((), ())))) (some N))
          none) none) (some N)) = if (∀ (h0 : 0 < j), ltL (L[j - 1]'(by omega)) L[j]) then some N else some (.ret ((false, ()), ((), ()))) := by
    intro N
    by_cases h0 : 0 < j
    · have hw : IntKind.wrap .i64 (((j : Nat) : Int) - 1) = ((j - 1 : Nat) : Int) := by rw [w64 (by omega) (by unfold Sz at hL; omega)]; omega
      rw [decide_eq_true (show (0 : Int) < ((j : Nat) : Int) by omega), hw, ge0, ltn (hlt1 h0), Int.toNat_natCast, rdL (hlt1 h0), f88_eq]
      simp only [cond_true, Bool.and_self, Option.bind_some]
      by_cases hl : ltL (L[j - 1]'(by omega)) L[j]
      · rw [if_pos (fun _ => hl)]
        unfold ltL at hl
        rw [decide_eq_true hl]; rfl
      · rw [if_neg (fun h => hl (h h0))]
        unfold ltL at hl
        rw [decide_eq_false hl]; rfl
    · rw [decide_eq_false (show ¬ (0 : Int) < ((j : Nat) : Int) by omega), if_pos (fun h => absurd h h0)]; rfl
  have hbase : (baseI D L[j].1).1 = L[j].1 / rat D := rfl
  cases pr with
  | true =>
    simp only [cond_true, if_true, hbase]
    by_cases hq : L[j].1 / rat D = L[j].2.1
    · rw [decide_eq_true hq]
      simp only [Bool.not_true, cond_false]
      refine fin (fun _ => hq) _ ?_
      rw [tail]
    · rw [decide_eq_false hq]
      exact .inl ⟨rfl, fun h => hq (h.1.pair rfl)⟩
  | false =>
    simp only [cond_false]
    refine fin (fun h => by simp at h) _ ?_
    rw [tail]

theorem f43_eq (hp : PolP p) (h0 : 0 ≤ now) (h1 : now ≤ 1073741824) (hP : Sz P) (hL : Sz L) :
    f43 D.1.1 D.1.2 D.2.1.1 D.2.1.2 D.2.2.1 D.2.2.2.1 D.2.2.2.2.1 D.2.2.2.2.2 p.1 p.2.1 p.2.2.1 p.2.2.2 now P L H = some (decide (LeasesP D p now P L ∧ L.length ≤ 32), ()) := by
  unfold f43
  obtain ⟨r, e1, e2⟩ := it_inv (f := u43_3) (fun x => ∃ j mp, x = st43 D p now P L H j mp ∧ j ≤ L.length ∧ LeasesP D p now P (L.take j) ∧ ∀ s, mVal mp s = ((cnt (L.take j) s : Nat) : Int)) (fun x => L.length - x.1.2.2.2.2.1.toNat)
    (fun r => match r with
      | .inl y => LeasesP D p now P L ∧ y.2.1.1.2.2.2.2.2.2.2.2.2.2.2.2.2.2.1 = L
      | .inr z => z.1.1 = false ∧ ¬ LeasesP D p now P L) (by
    rintro x ⟨j, mp, rfl, hj1, hj2, hmp⟩
    rcases Nat.lt_or_ge j L.length with hlt | hge
    · rcases step43 (D := D) (H := H) hp h0 h1 hP hL j mp hlt hmp with ⟨hs, hn⟩ | ⟨⟨mp', hs, hm'⟩, k⟩
      · exact .inr (.inr ⟨_, hs, rfl, fun h => hn ((LeasesP.snoc hlt (h.take j)).1 (h.take (j + 1)))⟩)
      · refine .inl ⟨_, hs, ⟨j + 1, mp', rfl, by omega, (LeasesP.snoc hlt hj2).2 k, hm'⟩, ?_⟩
        show L.length - Int.toNat (((j + 1 : Nat) : Int)) < L.length - Int.toNat ((j : Nat) : Int)
        omega
    · have : j = L.length := by omega
      subst this
      refine .inr (.inl ⟨_, by simp only [st43, u43_3, t43_3, nlt, cond_false]; rfl, ?_, rfl⟩)
      rw [List.take_length] at hj2; exact hj2)
    big (st43 D p now P L H 0 []) ⟨0, [], rfl, by omega, by rw [List.take_zero]; exact LeasesP.nil, fun s => by rw [List.take_zero]; rfl⟩ (by
      show L.length - Int.toNat ((0 : Nat) : Int) < big
      unfold big; unfold Sz at hL; omega)
  have e1' : iter big u43_3 (((), ((), (L, (((L.length : Nat) : Int), (0, ()))))), (((D.1.1, (D.1.2, (D.2.1.1, (D.2.1.2, (D.2.2.1, (D.2.2.2.1, (D.2.2.2.2.1, (D.2.2.2.2.2, (p.1, (p.2.1, (p.2.2.1, (p.2.2.2, (now, (P, (L, (H, ())))))))))))))))), ([], ())), ())) = some r := e1
  rw [e1']
  cases r with
  | inl y =>
    obtain ⟨k1, k2⟩ := e2
    simp only [Option.bind_some, k2]
    have : (((L.length : Nat) : Int) ≤ 32) ↔ (LeasesP D p now P L ∧ L.length ≤ 32) := ⟨fun h => ⟨k1, by omega⟩, fun h => by have := h.2; omega⟩
    rw [decide_eq_decide.2 this]
  | inr z =>
    obtain ⟨k1, k2⟩ := e2
    simp only [Option.bind_some, k1]
    rw [decide_eq_false (fun h => k2 h.1)]

abbrev st44 (D : DT) (p : PT) (now : Int) (P : List HT) (L : List LT) (H : List HT) (j : Nat) : X44_2 :=
  (((), (H, (((H.length : Nat) : Int), (((j : Nat) : Int), ())))), (((D.1.1, (D.1.2, (D.2.1.1, (D.2.1.2, (D.2.2.1, (D.2.2.2.1, (D.2.2.2.2.1, (D.2.2.2.2.2, (p.1, (p.2.1, (p.2.2.1, (p.2.2.2, (now, (P, (L, (H, ())))))))))))))))), ()), ()))

theorem step44 (h0 : 0 ≤ now) (h1 : now ≤ 1073741824) (hL : Sz L) (hH : Sz H) (j : Nat) (hj : j < H.length) :
    (u44_2 (st44 D p now P L H j) = some (.ret ((false, ()), ((), ()))) ∧ ¬ (HeldOK D now L H[j] ∧ ∀ (h0 : 0 < j), ltH (H[j - 1]'(by omega)) H[j])) ∨
    (u44_2 (st44 D p now P L H j) = some (.next (st44 D p now P L H (j + 1))) ∧ HeldOK D now L H[j] ∧ ∀ (h0 : 0 < j), ltH (H[j - 1]'(by omega)) H[j]) := by
  simp only [st44, u44_2, t44_2, ltn hj, ge0, cond_true, Bool.and_self, Int.toNat_natCast, rdH hj, f86_eq, f40_eq, Option.bind_some, f89_eq L hL, nx hj hH,
    w64 (show -9223372036854775808 ≤ now + 1 by omega) (by omega), w64 (show -9223372036854775808 ≤ now + 1048576 by omega) (by omega)]
  by_cases hB : BlkP D H[j].1 H[j].2.1
  case neg => rw [decide_eq_false hB]; exact .inl ⟨rfl, fun h => hB h.1.blk⟩
  rw [decide_eq_true hB]
  simp only [Bool.not_true, cond_false]
  by_cases hT : now + 1 ≤ H[j].2.2 ∧ H[j].2.2 ≤ now + 1048576
  case neg => rw [and_dec, decide_eq_false hT]; exact .inl ⟨rfl, fun h => hT ⟨h.1.till1, h.1.till2⟩⟩
  rw [and_dec, decide_eq_true hT]
  simp only [Bool.not_true, cond_false]
  by_cases hI : findL L H[j].1 H[j].2.1 = -1
  case neg =>
    rw [decide_eq_false hI]
    exact .inl ⟨rfl, fun h => hI ((findL_none _ _ _).2 h.1.free)⟩
  rw [decide_eq_true hI]
  simp only [Bool.not_true, cond_false]
  have hOK : HeldOK D now L H[j] := ⟨hB, hT.1, hT.2, (findL_none _ _ _).1 hI⟩
  by_cases hj0 : 0 < j
  · have hw : IntKind.wrap .i64 (((j : Nat) : Int) - 1) = ((j - 1 : Nat) : Int) := by rw [w64 (by omega) (by unfold Sz at hH; omega)]; omega
    have hl1 : j - 1 < H.length := by omega
    rw [decide_eq_true (show (0 : Int) < ((j : Nat) : Int) by omega), hw, ge0, ltn hl1, Int.toNat_natCast, rdH hl1, f88_eq]
    simp only [cond_true, Bool.and_self, Option.bind_some]
    by_cases hl : ltH (H[j - 1]'(by omega)) H[j]
    · unfold ltH at hl
      rw [decide_eq_true hl]
      exact .inr ⟨rfl, hOK, fun _ => hl⟩
    · have hl' := hl
      unfold ltH at hl'
      rw [decide_eq_false hl']
      exact .inl ⟨rfl, fun h => hl (h.2 hj0)⟩
  · rw [decide_eq_false (show ¬ (0 : Int) < ((j : Nat) : Int) by omega)]
    exact .inr ⟨rfl, hOK, fun h => absurd h hj0⟩

theorem f44_eq (h0 : 0 ≤ now) (h1 : now ≤ 1073741824) (hL : Sz L) (hH : Sz H) :
    f44 D.1.1 D.1.2 D.2.1.1 D.2.1.2 D.2.2.1 D.2.2.2.1 D.2.2.2.2.1 D.2.2.2.2.2 p.1 p.2.1 p.2.2.1 p.2.2.2 now P L H = some (decide (HeldsP D now L H), ()) := by
  unfold f44
  obtain ⟨r, e1, e2⟩ := it_inv (f := u44_2) (fun x => ∃ j, x = st44 D p now P L H j ∧ j ≤ H.length ∧ HeldsP D now L (H.take j)) (fun x => H.length - x.1.2.2.2.1.toNat)
    (fun r => match r with
      | .inl y => HeldsP D now L H
      | .inr z => z.1.1 = false ∧ ¬ HeldsP D now L H) (by
    rintro x ⟨j, rfl, hj1, hj2⟩
    rcases Nat.lt_or_ge j H.length with hlt | hge
    · rcases step44 (D := D) (p := p) (P := P) h0 h1 hL hH j hlt with ⟨hs, hn⟩ | ⟨hs, k⟩
      · exact .inr (.inr ⟨_, hs, rfl, fun h => hn ((HeldsP.snoc hlt (h.take j)).1 (h.take (j + 1)))⟩)
      · refine .inl ⟨_, hs, ⟨j + 1, rfl, by omega, (HeldsP.snoc hlt hj2).2 k⟩, ?_⟩
        show H.length - Int.toNat (((j + 1 : Nat) : Int)) < H.length - Int.toNat ((j : Nat) : Int)
        omega
    · have : j = H.length := by omega
      subst this
      refine .inr (.inl ⟨((), ((), ())), ?_, ?_⟩)
      · simp only [st44, u44_2, t44_2, nlt, cond_false]
      · rw [List.take_length] at hj2; exact hj2)
    big (st44 D p now P L H 0) ⟨0, rfl, by omega, by rw [List.take_zero]; exact HeldsP.nil⟩ (by
      show H.length - Int.toNat ((0 : Nat) : Int) < big
      unfold big; unfold Sz at hH; omega)
  have e1' : iter big u44_2 (((), (H, (((H.length : Nat) : Int), (0, ())))), (((D.1.1, (D.1.2, (D.2.1.1, (D.2.1.2, (D.2.2.1, (D.2.2.2.1, (D.2.2.2.2.1, (D.2.2.2.2.2, (p.1, (p.2.1, (p.2.2.1, (p.2.2.2, (now, (P, (L, (H, ())))))))))))))))), ()), ())) = some r := e1
  rw [e1']
  cases r with
  | inl y =>
    have e2 : HeldsP D now L H := e2
    rw [decide_eq_true e2]; rfl
  | inr z =>
    obtain ⟨k1, k2⟩ := e2
    simp only [Option.bind_some, k1]
    rw [decide_eq_false k2]
end

/-- may the state be? -/
theorem f14_eq (s : ST) (hP : Sz s.2.2.2.1) (hL : Sz s.2.2.2.2.1) (hH : Sz s.2.2.2.2.2) :
    f14 s.1.1.1 s.1.1.2 s.1.2.1.1 s.1.2.1.2 s.1.2.2.1 s.1.2.2.2.1 s.1.2.2.2.2.1 s.1.2.2.2.2.2 s.2.1.1 s.2.1.2.1 s.2.1.2.2.1 s.2.1.2.2.2 s.2.2.1 s.2.2.2.1 s.2.2.2.2.1 s.2.2.2.2.2 = some (decide (MayS s), ()) := by
  unfold f14
  rw [f38_eq]
  simp only [Option.bind_some]
  by_cases c1 : FitP s.1
  case neg => rw [decide_eq_false c1, decide_eq_false (fun h => c1 (MayS.fit h))]; rfl
  rw [decide_eq_true c1, f39_eq]
  simp only [Option.bind_some, cond_true]
  by_cases c2 : PolP s.2.1
  case neg => rw [decide_eq_false c2, decide_eq_false (fun h => c2 (MayS.pol h))]; rfl
  rw [decide_eq_true c2, f40_eq, and_dec]
  simp only [Option.bind_some, cond_true]
  by_cases c3 : 0 ≤ s.2.2.1 ∧ s.2.2.1 ≤ 1073741824
  case neg => rw [decide_eq_false c3, decide_eq_false (fun h => c3 ⟨MayS.now0 h, MayS.now1 h⟩)]; rfl
  rw [decide_eq_true c3]
  have h42 : f42 s.1.1.1 s.1.1.2 s.1.2.1.1 s.1.2.1.2 s.1.2.2.1 s.1.2.2.2.1 s.1.2.2.2.2.1 s.1.2.2.2.2.2 s.2.1.1 s.2.1.2.1 s.2.1.2.2.1 s.2.1.2.2.2 s.2.2.1 s.2.2.2.1 s.2.2.2.2.1 s.2.2.2.2.2 = some (szY s.1, ()) := by
    unfold f42; rw [f71_eq]; rfl
  rw [h42]
  simp only [Option.bind_some, cond_true, f41_eq]
  by_cases c4 : PoolsP s.2.2.2.1 (szY s.1)
  case neg => rw [decide_eq_false c4, decide_eq_false (fun h => c4 (MayS.pools h))]; rfl
  rw [decide_eq_true c4, f43_eq c2 c3.1 c3.2 hP hL]
  simp only [Option.bind_some, cond_true]
  by_cases c5 : LeasesP s.1 s.2.1 s.2.2.1 s.2.2.2.1 s.2.2.2.2.1 ∧ s.2.2.2.2.1.length ≤ 32
  case neg => rw [decide_eq_false c5, decide_eq_false (fun h => c5 ⟨MayS.leases h, MayS.len h⟩)]; rfl
  rw [decide_eq_true c5, f44_eq c3.1 c3.2 hL hH]
  simp only [Option.bind_some, cond_true]
  by_cases c6 : HeldsP s.1 s.2.2.1 s.2.2.2.2.1 s.2.2.2.2.2
  case neg => rw [decide_eq_false c6, decide_eq_false (fun h => c6 (MayS.helds h))]
  rw [decide_eq_true c6, decide_eq_true (show MayS s from ⟨c1, c2, c3.1, c3.2, c4, c5.1, c5.2, c6⟩)]
end Go.Proofs.Zz
