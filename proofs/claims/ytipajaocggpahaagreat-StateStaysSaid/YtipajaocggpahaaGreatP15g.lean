/- Leases put and taken away, blocks held back, busy addresses: the program's functions in the model's words. -/
import Derived.Test.YtipajaocggpahaaGreatP15f
import Derived.Test.YtipajaocggpahaaGreatM3
namespace Go.Proofs.Zz
open Go Go.Sy
set_option linter.unusedSimpArgs false
set_option linter.unusedVariables false

theorem f143_eq (x y : Int) : f143 x y = some (if x < y then -1 else if y < x then 1 else 0, ()) := by
  unfold f143 f160
  simp only [decide_true, Bool.not_true, Option.bind_some, cond_false]
  by_cases h1 : x < y
  · simp [h1]
  · by_cases h2 : y < x
    · simp [h1, h2]
    · simp [h1, h2]

theorem f142_eq (x y : Int) : f142 [x, y] = some (if x = 0 then y else x, ()) := by
  unfold f142
  by_cases hx : x = 0
  · by_cases hy : y = 0
    · subst hx hy
      have e : iter big u142_3 ((0, ([0, 0], ((([0, 0] : List Int).length : Int), (0, ())))), ((), ())) = some (.inl ((0, ()), ((), ()))) := it_mono (k := 3) (by unfold big; omega) (by kernel_rfl)
      rw [e]; rfl
    · subst hx
      have e : iter big u142_3 ((0, ([0, y], ((([0, y] : List Int).length : Int), (0, ())))), ((), ())) = some (.inr ((y, ()), ((), ()))) :=
        it_first (fun j => ((0, ([0, y], ((([0, y] : List Int).length : Int), (((j : Nat) : Int), ())))), ((), ()))) (n := 1) (fun j hj => by
          have : j = 0 := by omega
          subst this
          simp [u142_3, t142_3, rd, w64]) (by
          simp [u142_3, t142_3, rd, hy]) 0 big (by omega) (by unfold big; omega)
      rw [e]; rfl
  · have e : iter big u142_3 ((0, ([x, y], ((([x, y] : List Int).length : Int), (0, ())))), ((), ())) = some (.inr ((x, ()), ((), ()))) :=
        it_first (fun j => ((0, ([x, y], ((([x, y] : List Int).length : Int), (((j : Nat) : Int), ())))), ((), ()))) (n := 0) (fun j hj => by omega) (by
          simp [u142_3, t142_3, rd, hx]) 0 big (by omega) (by unfold big; omega)
    rw [e]; simp [hx]

theorem f132_eq (b c : Int × Int) : ∃ r, f132 b.1 b.2 c.1 c.2 = some (r, ()) ∧ decide (0 < r) = decide (ltP c b) := by
  obtain ⟨b1, b2⟩ := b
  obtain ⟨c1, c2⟩ := c
  unfold f132
  rw [f143_eq, f143_eq]
  simp only [Option.bind_some]
  rw [f142_eq]
  refine ⟨_, rfl, ?_⟩
  unfold ltP ltB
  simp only
  rcases Int.lt_trichotomy b1 c1 with h | h | h
  · rw [if_pos h]
    have h1 : ¬ c1 < b1 := by omega
    have h2 : ¬ c1 = b1 := by omega
    simp [h1, h2]
  · subst h
    simp only [Int.lt_irrefl, if_false, if_true]
    rcases Int.lt_trichotomy b2 c2 with h | h | h
    · have : ¬ c2 < b2 := by omega
      simp [h, this]
    · subst h; simp
    · have : ¬ b2 < c2 := by omega
      simp [h, this]
  · have h1 : ¬ b1 < c1 := by omega
    have h2 : ¬ b1 = c1 := by omega
    simp [h, h1, h2]

theorem f120_eq (l : List LT) (hl : Sz l) (a b : Int) : f120 l a b = some (((l.findIdx (behK kL (a, b)) : Nat) : Int), ()) := by
  unfold f120
  have e : iter big u120_52_2_0 ((l, ((), (((l.length : Nat) : Int), (0, ())))), (((a, (b, ())), (((), ()), ())), ())) = _ :=
    it_idx l (behK kL (a, b)) (fun j => ((l, ((), (((l.length : Nat) : Int), (((j : Nat) : Int), ())))), (((a, (b, ())), (((), ()), ())), ()))) (fun j => ((((j : Nat) : Int), ()), (((a, (b, ())), (((), ()), ())), ())))
      (y := ((), (((a, (b, ())), (((), ()), ())), ()))) (fun j h => by
        obtain ⟨r, h1, h2⟩ := f132_eq (kL l[j]) (a, b)
        have h1' : f132 l[j].2.1 l[j].2.2.1 a b = some (r, ()) := h1
        simp only [u120_52_2_0, t120_52_2_0, ltn h, ge0, cond_true, Bool.and_self, Int.toNat_natCast, rdL h, f108_eq, Option.bind_some, h1', h2, behK, nx h hl])
      (by simp only [u120_52_2_0, t120_52_2_0, nlt, cond_false]) (fuel := big) (by unfold big; omega)
  rw [e]
  by_cases hlt : l.findIdx (behK kL (a, b)) < l.length
  · rw [if_pos hlt]
    simp only [Option.bind_some]
    rw [decide_eq_false (by omega)]; rfl
  · rw [if_neg hlt]
    have : l.findIdx (behK kL (a, b)) = l.length := Nat.le_antisymm List.findIdx_le_length (by omega)
    rw [this]; rfl

theorem f123_eq (a b c : Int) : f123 a b c = some ((a, b), ()) := by unfold f123 f133; rfl

theorem f125_eq (l : List HT) (hl : Sz l) (a b : Int) : f125 l a b = some (((l.findIdx (behK kH (a, b)) : Nat) : Int), ()) := by
  unfold f125
  have e : iter big u125_94_2_0 ((l, ((), (((l.length : Nat) : Int), (0, ())))), (((a, (b, ())), (((), ()), ())), ())) = _ :=
    it_idx l (behK kH (a, b)) (fun j => ((l, ((), (((l.length : Nat) : Int), (((j : Nat) : Int), ())))), (((a, (b, ())), (((), ()), ())), ()))) (fun j => ((((j : Nat) : Int), ()), (((a, (b, ())), (((), ()), ())), ())))
      (y := ((), (((a, (b, ())), (((), ()), ())), ()))) (fun j h => by
        obtain ⟨r, h1, h2⟩ := f132_eq (kH l[j]) (a, b)
        have h1' : f132 l[j].1 l[j].2.1 a b = some (r, ()) := h1
        simp only [u125_94_2_0, t125_94_2_0, ltn h, ge0, cond_true, Bool.and_self, Int.toNat_natCast, rdH h, f123_eq, Option.bind_some, h1', h2, behK, nx h hl])
      (by simp only [u125_94_2_0, t125_94_2_0, nlt, cond_false]) (fuel := big) (by unfold big; omega)
  rw [e]
  by_cases hlt : l.findIdx (behK kH (a, b)) < l.length
  · rw [if_pos hlt]
    simp only [Option.bind_some]
    rw [decide_eq_false (by omega)]; rfl
  · rw [if_neg hlt]
    have : l.findIdx (behK kH (a, b)) = l.length := Nat.le_antisymm List.findIdx_le_length (by omega)
    rw [this]; rfl

theorem insLease_eq (l : List LT) (hl : l.length ≤ 1000) (x : LT) : fInsLease l ((l.findIdx (behK kL (kL x)) : Nat) : Int) [x] = some (insK kL l x) := by
  have hle : l.findIdx (behK kL (kL x)) ≤ l.length := List.findIdx_le_length
  unfold fInsLease fIns
  rw [ge0, dec_le hle, Nat.ble_eq_true_of_le (show (List.length l + 1) * 40 ≤ 140737488355328 by omega)]
  rfl

theorem insHeld_eq (l : List HT) (hl : l.length ≤ 1000) (x : HT) : fInsHeld l ((l.findIdx (behK kH (kH x)) : Nat) : Int) [x] = some (insK kH l x) := by
  have hle : l.findIdx (behK kH (kH x)) ≤ l.length := List.findIdx_le_length
  unfold fInsHeld fIns
  rw [ge0, dec_le hle, Nat.ble_eq_true_of_le (show (List.length l + 1) * 24 ≤ 140737488355328 by omega)]
  rfl

theorem f109_eq (l : List LT) (hl : l.length ≤ 1000) (x : LT) : f109 l x.1 x.2.1 x.2.2.1 x.2.2.2.1 x.2.2.2.2 = some ((putL l x).1, ((putL l x).2, ())) := by
  have hs : Sz l := by unfold Sz; omega
  unfold f109 putL
  rw [fCL l hl, f89_eq l hs]
  simp only [Option.bind_some]
  by_cases hh : hasL l x.2.1 x.2.2.1 = true
  · rw [if_pos (.inl hh), decide_eq_false (fun h => by rw [findL_none] at h; rw [h] at hh; cases hh)]; rfl
  · have hn : hasL l x.2.1 x.2.2.1 = false := by simpa using hh
    rw [decide_eq_true ((findL_none _ _ _).2 hn)]
    simp only [Bool.not_true, cond_false]
    by_cases h32 : 32 ≤ l.length
    · rw [decide_eq_true (show (32 : Int) ≤ ((l.length : Nat) : Int) by omega), if_pos (.inr h32)]; rfl
    · rw [decide_eq_false (show ¬ (32 : Int) ≤ ((l.length : Nat) : Int) by omega), if_neg (by rintro (h | h); exact hh h; exact h32 h)]
      simp only [cond_false, f108_eq, Option.bind_some, f120_eq l hs]
      have : fInsLease l ((l.findIdx (behK kL (x.2.1, x.2.2.1)) : Nat) : Int) [(x.1, (x.2.1, (x.2.2.1, (x.2.2.2.1, x.2.2.2.2))))] = some (insK kL l x) := insLease_eq l hl x
      rw [this]; rfl

theorem f110_eq (l : List LT) (hl : l.length ≤ 1000) (a b : Int) : f110 l a b = some (if hasL l a b = true then (delL l a b, (true, ())) else (l, (false, ()))) := by
  have hs : Sz l := by unfold Sz; omega
  unfold f110
  rw [fCL l hl, f89_eq l hs]
  simp only [Option.bind_some]
  by_cases hh : hasL l a b = true
  · have hne : findL l a b ≠ -1 := fun h => by rw [findL_none] at h; rw [h] at hh; cases hh
    have hlt : l.findIdx (isL a b) < l.length := by
      rcases Nat.lt_or_ge (l.findIdx (isL a b)) l.length with h | h
      · exact h
      · exact absurd (by unfold findL; rw [if_neg (by omega)]) hne
    have hf : findL l a b = ((l.findIdx (isL a b) : Nat) : Int) := by unfold findL; rw [if_pos hlt]
    rw [if_pos hh, hf]
    unfold delL
    generalize l.findIdx (isL a b) = i at hlt
    rw [decide_eq_false (show ¬ ((i : Int) = -1) by omega), nx hlt hs]
    simp only [cond_false, Nat.zero_add, Nat.sub_zero, Int.toNat_natCast, List.take_length, ge0, Int.zero_add, Bool.true_and, List.length_drop, List.drop_zero]
    rw [decide_eq_true (show ((i : Nat) : Int) ≤ ((i + 1 : Nat) : Int) by omega), dec_le (show i + 1 ≤ l.length by omega), dec_le (Nat.le_refl l.length), decide_eq_false (show ¬ ((i : Nat) : Int) = ((i + 1 : Nat) : Int) by omega), dec_le (show i ≤ l.length by omega)]
    simp only [Bool.and_self, cond_true, cond_false]
    rw [decide_eq_true (show i + (l.length - (i + 1)) ≤ l.length by omega)]
    have hlen : (l.take i ++ l.drop (i + 1) ++ l.drop (i + (l.length - (i + 1)))).length = l.length := by
      simp only [List.length_append, List.length_take, List.length_drop]; omega
    simp only [cond_true, hlen]
    rw [dec_le (show i + (l.length - (i + 1)) ≤ l.length by omega), dec_le (Nat.le_refl l.length)]
    simp only [Bool.and_self, cond_true]
    congr 2
    rw [List.eraseIdx_eq_take_drop_succ]
    have hn : (l.take i ++ l.drop (i + 1)).length = i + (l.length - (i + 1)) := by
      simp only [List.length_append, List.length_take, List.length_drop]; omega
    have e1 : (l.take i ++ l.drop (i + 1) ++ l.drop (i + (l.length - (i + 1)))).take (i + (l.length - (i + 1))) = l.take i ++ l.drop (i + 1) := List.take_left' hn
    rw [e1, List.append_assoc, List.take_left' hn]
  · have hn : hasL l a b = false := by simpa using hh
    rw [if_neg hh, decide_eq_true ((findL_none _ _ _).2 hn)]
    rfl

theorem and_pair (a b c d : Int) : (decide (a = c) && (decide (b = d) && true)) = decide (((a, b) : Int × Int) = (c, d)) := by
  simp [Prod.ext_iff]

theorem f111_eq (H : List HT) (hH : H.length ≤ 900) (x : HT) : f111 H x.1 x.2.1 x.2.2 = some (holdH H x, ()) := by
  have hS : Sz H := by unfold Sz; omega
  unfold f111
  rw [fCH H (by omega)]
  simp only [Option.bind_some]
  have e : iter big u111_94_2_0 (((), ((), (((H.length : Nat) : Int), (0, ())))), (((x.1, (x.2.1, (x.2.2, ()))), (H, ())), ())) = _ :=
    it_idx H (fun y => decide (kH y = kH x)) (fun j => (((), ((), (((H.length : Nat) : Int), (((j : Nat) : Int), ())))), (((x.1, (x.2.1, (x.2.2, ()))), (H, ())), ()))) (fun j => ((((j : Nat) : Int), ()), (((x.1, (x.2.1, (x.2.2, ()))), (H, ())), ())))
      (y := ((), (((x.1, (x.2.1, (x.2.2, ()))), (H, ())), ()))) (fun j h => by
        simp only [u111_94_2_0, t111_94_2_0, ltn h, ge0, cond_true, Bool.and_self, Int.toNat_natCast, rdH h, decide_eq_true h, nx h hS, f123_eq, Option.bind_some, and_pair]; rfl)
      (by simp only [u111_94_2_0, t111_94_2_0, nlt, cond_false]) (fuel := big) (by unfold big; omega)
  rw [e]
  have hins : ∀ (l : List HT), l.length ≤ 1000 → fInsHeld l ((l.findIdx (behK kH (x.1, x.2.1)) : Nat) : Int) [(x.1, (x.2.1, x.2.2))] = some (insK kH l x) := fun l hl => insHeld_eq l hl x
  by_cases hlt : H.findIdx (fun y => decide (kH y = kH x)) < H.length
  · rw [if_pos hlt]
    simp only [Option.bind_some]
    rw [decide_eq_false (show ¬ ((H.findIdx (fun y => decide (kH y = kH x)) : Nat) : Int) = -1 by omega), nx hlt hS]
    simp only [cond_false]
    obtain ⟨k, l', k1, k2, k3, k4⟩ := del_all (u := u111_50_5_0) (fun y : HT => decide (kH y = kH x)) (fun i j l => (((), ((), (((i : Nat) : Int), (((j : Nat) : Int), ())))), (((x.1, (x.2.1, (x.2.2, ()))), (l, ())), ())))
      (fun i l => (((), (((i : Nat) : Int), ())), (((x.1, (x.2.1, (x.2.2, ()))), (l, ())), ()))) H (fun i j l h hi hN => by
        have hsz : l.length ≤ 9223372036854775807 := by omega
        simp only [u111_50_5_0, t111_50_5_0, ltn h, ge0, cond_true, Bool.and_self, Int.toNat_natCast, rdH h, decide_eq_true h, nx h hsz, f123_eq, Option.bind_some, and_pair]
        show cond (!decide (kH l[j] = kH x)) _ _ = _
        by_cases hd : kH l[j] = kH x
        · rw [decide_eq_true hd]; simp only [Bool.not_true, cond_false, if_true]
        · rw [decide_eq_false hd, ltn (show i < l.length by omega), decide_eq_true (show i < l.length by omega), nx (show i < l.length by omega) hsz]; rfl)
      (fun i l h => by simp only [u111_50_5_0, t111_50_5_0, nlt, cond_false]) (by unfold big; omega) hlt
    rw [k1]
    simp only [Option.bind_some, Nat.sub_zero, Nat.zero_add, Int.zero_add, Int.toNat_natCast, ge0, Bool.true_and, f123_eq]
    have hk : k ≤ l'.length := by rw [k2, k4]; exact List.length_filter_le _ _
    have hlen : (l'.take k ++ List.replicate (l'.length - k) ((0, (0, 0)) : HT) ++ l'.drop (k + (l'.length - k))).length = l'.length := by
      simp only [List.length_append, List.length_take, List.length_replicate, List.length_drop]; omega
    rw [dec_le hk, dec_le (Nat.le_refl l'.length)]
    simp only [Bool.and_self, cond_true, hlen]
    rw [dec_le hk]
    simp only [cond_true]
    have hfin : (l'.take k ++ List.replicate (l'.length - k) ((0, (0, 0)) : HT) ++ l'.drop (k + (l'.length - k))).take k = H.filter fun y => !decide (kH y = kH x) := by
      rw [List.append_assoc, List.take_append_of_le_length (by rw [List.length_take]; omega), List.take_take, Nat.min_self, k3]
    have hlf : (H.filter fun y => !decide (kH y = kH x)).length ≤ H.length := List.length_filter_le _ _
    rw [hfin, List.drop_zero, f125_eq _ (by unfold Sz; omega)]
    simp only [Option.bind_some]
    rw [hins (H.filter fun y => !decide (kH y = kH x)) (by omega)]; rfl
  · rw [if_neg hlt]
    simp only [Option.bind_some, f123_eq]
    have hfil : (H.filter fun y => !decide (kH y = kH x)) = H := by
      rw [List.filter_eq_self]
      intro y hy
      rw [List.findIdx_lt_length] at hlt
      cases hd : decide (kH y = kH x) with
      | false => rfl
      | true => exact absurd ⟨y, hy, hd⟩ hlt
    rw [f125_eq _ hS]
    simp only [Option.bind_some]
    rw [hins H (by omega)]
    unfold holdH
    rw [hfil]; rfl

theorem f118_eq (a b c d e : Int) : f118 a b c d e = some (((b, c), (a, (b, (c, (d, e))))), ()) := by unfold f118; rfl

theorem f112_eq (l : List LT) (hl : l.length ≤ 1000) : f112 l = some (busyL l, ()) := by
  unfold f112
  let acc : Nat → List Int := fun j => (l.take j).map (·.2.1)
  have ha : ∀ j, j ≤ l.length → (acc j).length = j := fun j h => by simp only [acc, List.length_map, List.length_take]; omega
  have e : iter big u112_3 ((l, (((l.length : Nat) : Int), (0, ()))), ((), ([], ()))) = _ := it_all (fun j => ((l, (((l.length : Nat) : Int), (((j : Nat) : Int), ()))), ((), (acc j, ())))) (n := l.length) (y := ((), ((), (acc l.length, ())))) (fun j hj => by
      have h1 := ha j (by omega)
      have hacc : acc (j + 1) = acc j ++ [l[j].2.1] := by
        simp only [acc]
        rw [take_snoc hj, List.map_append]; rfl
      simp only [u112_3, t112_3, ltn hj, ge0, Bool.and_self, cond_true, Int.toNat_natCast, nx hj (show l.length ≤ 9223372036854775807 by omega), hacc, f118_eq, Option.bind_some, rdL hj]
      rw [decide_eq_true (show ((acc j).length + 1) * 8 ≤ 140737488355328 by omega), decide_eq_true (show (acc j).length + 1 ≤ 9223372036854775807 by omega)]
      rfl) (by simp only [u112_3, t112_3, nlt, cond_false]) 0 big (by omega) (by unfold big; omega)
  have hfin : acc l.length = l.map (·.2.1) := by simp only [acc, List.take_length]
  rw [e]
  simp only [Option.bind_some, hfin]
  have hS : fSort (l.map (·.2.1)) = some ((l.map (·.2.1)).mergeSort fun x y => decide (x ≤ y)) := by
    unfold fSort
    rw [show ltN (List.length (l.map (·.2.1))) 4611686018427387904 = true from by rw [List.length_map]; exact Nat.ble_eq_true_of_le (by omega)]; rfl
  have hlen : ((l.map (·.2.1)).mergeSort fun x y => decide (x ≤ y)).length = (l.map (·.2.1)).length := List.length_mergeSort _
  have hC : fCompact ((l.map (·.2.1)).mergeSort fun x y => decide (x ≤ y)) = some (busyL l) := by
    unfold fCompact busyL
    rw [show ltN (List.length ((l.map (·.2.1)).mergeSort fun x y => decide (x ≤ y))) 4611686018427387904 = true from by rw [hlen, List.length_map]; exact Nat.ble_eq_true_of_le (by omega)]; rfl
  rw [hS]
  simp only [Option.bind_some, hlen, Nat.beq_refl, Bool.and_self, cond_true, hC]
end Go.Proofs.Zz
