/- Plain laws: what is taken away; what stands in order; LeaseBack. -/
import Derived.Test.YticonaifcigpoaaP12c
namespace Go.Proofs.Zz
open Go Go.Sy
set_option linter.unusedSimpArgs false
set_option linter.unusedVariables false

theorem dec_le {a b : Nat} (h : a ≤ b) : decide ((a : Int) ≤ (b : Int)) = true := decide_eq_true (by omega)

theorem f18_eq (l : List LT) (hl : l.length ≤ 100) (a b : Int) : f18 l a b = some (if has l a b = true then (l.eraseIdx (l.findIdx (findP a b)), (true, ())) else (l, (false, ()))) := by
  have hs : Sz l := by unfold Sz; omega
  unfold f18
  rw [fCl l hl, f19_eq l hs]
  simp only [Option.bind_some]
  by_cases hh : has l a b = true
  · have hlt := (idx_has l a b).2 hh
    rw [if_pos hlt, if_pos hh]
    generalize l.findIdx (findP a b) = i at hlt
    rw [decide_eq_false (show ¬ ((i : Int) = -1) by omega), nx hlt hs]
    simp only [cond_false, Nat.zero_add, Nat.sub_zero, Int.toNat_natCast, List.take_length, ge0, Int.zero_add, Bool.true_and, List.length_drop]
    rw [decide_eq_true (show ((i : Nat) : Int) ≤ ((i + 1 : Nat) : Int) by omega), dec_le (show i + 1 ≤ l.length by omega), dec_le (Nat.le_refl l.length), decide_eq_false (show ¬ ((i : Nat) : Int) = ((i + 1 : Nat) : Int) by omega), dec_le (show i ≤ l.length by omega)]
    simp only [Bool.and_self, cond_true, cond_false]
    rw [decide_eq_true (show i + (l.length - (i + 1)) ≤ l.length by omega)]
    have hlen : (l.take i ++ l.drop (i + 1) ++ l.drop (i + (l.length - (i + 1)))).length = l.length := by
      simp only [List.length_append, List.length_take, List.length_drop]; omega
    simp only [cond_true, hlen]
    rw [dec_le (show i + (l.length - (i + 1)) ≤ l.length by omega), dec_le (Nat.le_refl l.length)]
    simp only [Bool.and_self, cond_true]
    congr 2
    rw [List.eraseIdx_eq_take_drop_succ]
    have hn : (l.take i ++ l.drop (i + 1)).length = i + (l.length - (i + 1)) := by
      simp only [List.length_append, List.length_take, List.length_drop]; omega
    have e1 : (l.take i ++ l.drop (i + 1) ++ l.drop (i + (l.length - (i + 1)))).take (i + (l.length - (i + 1))) = l.take i ++ l.drop (i + 1) := List.take_left' hn
    rw [e1, List.append_assoc, List.take_left' hn]
  · rw [if_neg (fun h => hh ((idx_has l a b).1 h)), if_neg hh]
    rfl
/-- ahead of it, by address and block -/
def ltK (x y : LT) : Prop := x.2.1 < y.2.1 ∨ (x.2.1 = y.2.1 ∧ x.2.2.1 < y.2.2.1)
theorem ltK_trans {x y z : LT} (h1 : ltK x y) (h2 : ltK y z) : ltK x z := by unfold ltK at *; omega
theorem ltK_irrefl {x : LT} (h : ltK x x) : False := by unfold ltK at h; omega
theorem ltK_tri (x y : LT) : ltK x y ∨ (x.2.1 = y.2.1 ∧ x.2.2.1 = y.2.2.1) ∨ ltK y x := by unfold ltK; omega
theorem beh_iff (x y : LT) : behP x.2.1 x.2.2.1 y = true ↔ ltK x y := by
  unfold ltK behP
  simp only [Bool.or_eq_true, Bool.and_eq_true, decide_eq_true_eq]
  omega
theorem find_iff (x y : LT) : findP x.2.1 x.2.2.1 y = true ↔ (y.2.1 = x.2.1 ∧ y.2.2.1 = x.2.2.1) := by
  unfold findP
  simp only [Bool.and_eq_true, decide_eq_true_eq]

abbrev Srt (l : List LT) : Prop := l.Pairwise ltK

theorem srt_of_step {l : List LT} (h : ∀ j (hj : j + 1 < l.length), ltK l[j] l[j + 1]) : Srt l := by
  show l.Pairwise ltK
  rw [List.pairwise_iff_getElem]
  intro i j hi hj hij
  obtain ⟨k, rfl⟩ : ∃ k, j = i + 1 + k := ⟨j - i - 1, by omega⟩
  clear hij
  induction k with
  | zero => exact h i hj
  | succ k ih => exact ltK_trans (ih (by omega)) (h (i + 1 + k) hj)

abbrev badK (x y : LT) : Bool := decide (y.2.1 < x.2.1) || (decide (y.2.1 = x.2.1) && decide (y.2.2.1 ≤ x.2.2.1))
theorem badK_iff (x y : LT) : badK x y = false ↔ ltK x y := by
  unfold badK ltK
  simp only [Bool.or_eq_false_iff, Bool.and_eq_false_iff, decide_eq_false_iff_not]
  omega

theorem f14_eq (l : List LT) (hl : Sz l) : ∃ b, f14 l = some (b, ()) ∧ (b = true ↔ Srt l) := by
  unfold f14
  let p : Nat → Bool := fun j => badK (rd LeaseT l j) (rd LeaseT l (j + 1))
  have e : iter big u14_2 ((l, (1, ())), ((), ())) = _ := it_any (fun j => ((l, (((j + 1 : Nat) : Int), ())), ((), ()))) p (n := l.length - 1) (z := ((false, ()), ((), ()))) (y := ((), ((), ()))) (fun j hj => by
      have h1 : j + 1 < l.length := by omega
      have h2 : IntKind.wrap .i64 (((j + 1 : Nat) : Int) - 1) = ((j : Nat) : Int) := by unfold Sz at hl; rw [w64 (by omega) (by omega)]; omega
      simp only [u14_2, t14_2, ltn h1, h2, ge0, ltn (show j < l.length by omega), Bool.and_self, cond_true, Int.toNat_natCast, nx h1 hl, p, badK]
      cases decide ((rd LeaseT l (j + 1)).2.1 < (rd LeaseT l j).2.1) with
      | true => rfl
      | false =>
        cases decide ((rd LeaseT l (j + 1)).2.1 = (rd LeaseT l j).2.1) with
        | false => rfl
        | true => cases decide ((rd LeaseT l (j + 1)).2.2.1 ≤ (rd LeaseT l j).2.2.1) <;> rfl) (by
      simp only [u14_2, t14_2]
      rw [decide_eq_false (by omega)]; rfl) 0 big (by omega) (by unfold big; unfold Sz at hl; omega)
  rw [e]
  cases ha : (List.range' 0 (l.length - 1 - 0)).any p with
  | true =>
    refine ⟨false, rfl, ⟨(fun h => by cases h), fun h => ?_⟩⟩
    obtain ⟨j, hj, hp⟩ := List.any_eq_true.1 ha
    have hj := List.mem_range'_1.1 hj
    have := List.pairwise_iff_getElem.1 h j (j + 1) (by omega) (by omega) (by omega)
    have r1 : rd LeaseT l (j + 1) = l[j + 1]'(by omega) := rd_lt (by omega)
    have r2 : rd LeaseT l j = l[j]'(by omega) := rd_lt (by omega)
    simp only [p, r1, r2] at hp
    rw [(badK_iff _ _).2 this] at hp
    cases hp
  | false =>
    refine ⟨true, rfl, ⟨fun _ => srt_of_step fun j hj => ?_, fun _ => rfl⟩⟩
    have hp : p j = false := by simpa using List.any_eq_false.1 ha j (List.mem_range'_1.2 (by omega))
    have r1 : rd LeaseT l (j + 1) = l[j + 1]'(by omega) := rd_lt (by omega)
    have r2 : rd LeaseT l j = l[j]'(by omega) := rd_lt (by omega)
    simp only [p, r1, r2] at hp
    exact (badK_iff _ _).1 hp

theorem has_ins (l : List LT) (x : LT) (a b : Int) : has (ins l x) a b = (has l a b || findP a b x) := by
  unfold has ins
  rw [List.any_append, List.any_cons]
  conv => rhs; rw [← List.take_append_drop (l.findIdx (behP x.2.1 x.2.2.1)) l, List.any_append]
  cases (l.take (l.findIdx (behP x.2.1 x.2.2.1))).any (findP a b) <;> cases findP a b x <;> simp

theorem ins_len (l : List LT) (x : LT) : (ins l x).length = l.length + 1 := by
  have : l.findIdx (behP x.2.1 x.2.2.1) ≤ l.length := List.findIdx_le_length
  unfold ins
  simp only [List.length_append, List.length_take, List.length_cons, List.length_drop]; omega

theorem no_has {l : List LT} {x : LT} (h : has l x.2.1 x.2.2.1 = false) : ∀ y ∈ l, ¬ (y.2.1 = x.2.1 ∧ y.2.2.1 = x.2.2.1) := by
  intro y hy he
  unfold has at h
  rw [List.any_eq_false] at h
  exact h y hy ((find_iff x y).2 he)

theorem take_lt {l : List LT} {x : LT} (h : has l x.2.1 x.2.2.1 = false) : ∀ y ∈ l.take (l.findIdx (behP x.2.1 x.2.2.1)), ltK y x := by
  intro y hy
  obtain ⟨j, hj, rfl⟩ := List.mem_take_iff_getElem.1 hy
  have h1 : behP x.2.1 x.2.2.1 (l[j]'(by omega)) = false := by
    simpa using List.not_of_lt_findIdx (p := behP x.2.1 x.2.2.1) (xs := l) (i := j) (by omega)
  rcases ltK_tri (l[j]'(by omega)) x with h2 | h2 | h2
  · exact h2
  · exact absurd h2 (no_has h _ (List.getElem_mem _))
  · rw [(beh_iff x _).2 h2] at h1; cases h1

theorem drop_gt {l : List LT} {x : LT} (hs : Srt l) : ∀ y ∈ l.drop (l.findIdx (behP x.2.1 x.2.2.1)), ltK x y := by
  intro y hy
  obtain ⟨j, hj, rfl⟩ := List.mem_drop_iff_getElem.1 hy
  have hlt : l.findIdx (behP x.2.1 x.2.2.1) < l.length := by omega
  have h0 : ltK x (l[l.findIdx (behP x.2.1 x.2.2.1)]'hlt) := (beh_iff x _).1 List.findIdx_getElem
  cases j with
  | zero => exact h0
  | succ j => exact ltK_trans h0 (List.pairwise_iff_getElem.1 hs _ _ hlt (by omega) (by omega))

theorem srt_ins {l : List LT} {x : LT} (hs : Srt l) (h : has l x.2.1 x.2.2.1 = false) : Srt (ins l x) := by
  unfold ins
  show List.Pairwise ltK _
  rw [List.pairwise_append, List.pairwise_cons]
  refine ⟨hs.sublist (List.take_sublist _ _), ⟨drop_gt hs, hs.sublist (List.drop_sublist _ _)⟩, fun y hy z hz => ?_⟩
  have h1 := take_lt h y hy
  rcases List.mem_cons.1 hz with rfl | hz
  · exact h1
  · exact ltK_trans h1 (drop_gt hs z hz)

theorem idx_ins {l : List LT} {x : LT} (h : has l x.2.1 x.2.2.1 = false) : (ins l x).findIdx (findP x.2.1 x.2.2.1) = l.findIdx (behP x.2.1 x.2.2.1) := by
  have hk : l.findIdx (behP x.2.1 x.2.2.1) ≤ l.length := List.findIdx_le_length
  have hx : findP x.2.1 x.2.2.1 x = true := (find_iff x x).2 ⟨rfl, rfl⟩
  have hlen : (l.take (l.findIdx (behP x.2.1 x.2.2.1))).length = l.findIdx (behP x.2.1 x.2.2.1) := by rw [List.length_take]; omega
  unfold ins
  rw [List.findIdx_append]
  rw [if_neg, List.findIdx_cons, hx, hlen]
  · simp
  · rw [List.findIdx_lt_length]
    rintro ⟨y, hy, hp⟩
    exact no_has h y (List.mem_of_mem_take hy) ((find_iff x y).1 hp)

theorem erase_ins {l : List LT} {x : LT} : (ins l x).eraseIdx (l.findIdx (behP x.2.1 x.2.2.1)) = l := by
  have hk : l.findIdx (behP x.2.1 x.2.2.1) ≤ l.length := List.findIdx_le_length
  have hlen : (l.take (l.findIdx (behP x.2.1 x.2.2.1))).length = l.findIdx (behP x.2.1 x.2.2.1) := by rw [List.length_take]; omega
  unfold ins
  rw [List.eraseIdx_append_of_length_le (by omega), hlen, Nat.sub_self]
  exact List.take_append_drop _ _

theorem get_ins {l : List LT} {x : LT} (h : l.findIdx (behP x.2.1 x.2.2.1) < (ins l x).length) : (ins l x)[l.findIdx (behP x.2.1 x.2.2.1)] = x := by
  have hk : l.findIdx (behP x.2.1 x.2.2.1) ≤ l.length := List.findIdx_le_length
  have hlen : (l.take (l.findIdx (behP x.2.1 x.2.2.1))).length = l.findIdx (behP x.2.1 x.2.2.1) := by rw [List.length_take]; omega
  have : (ins l x)[l.findIdx (behP x.2.1 x.2.2.1)]? = some x := by
    unfold ins
    rw [List.getElem?_append_right (by omega), hlen, Nat.sub_self]; rfl
  exact (List.getElem?_eq_some_iff.1 this).2

theorem srt_erase {l : List LT} (h : Srt l) (i : Nat) : Srt (l.eraseIdx i) := h.sublist (List.eraseIdx_sublist _ _)

theorem law6 (l : List LT) (s a b c d : Int) (hl : Sz l) : f6 l s a b c d = some (true, ()) := by
  unfold f6
  obtain ⟨b0, e0, h0⟩ := f14_eq l hl
  rw [f7_eq, e0]
  simp only [Option.bind_some, Bool.not_true, cond_false]
  cases b0 with
  | false => rfl
  | true =>
    have hs : Srt l := h0.1 rfl
    simp only [Bool.not_true, cond_false]
    by_cases h40 : l.length ≤ 40
    · rw [decide_eq_false (show ¬ (40 : Int) < ((l.length : Nat) : Int) by omega)]
      have hF15 := f15_eq l (by omega) s a b c d
      have hF18 := f18_eq l (by omega) a b
      have hF19 := f19_eq l hl a b
      have hF11 := f11_eq l l hl
      rw [decide_eq_true (rfl : l = l)] at hF11
      cases hh : has l a b with
      | true =>
        rw [if_pos (.inl hh)] at hF15
        rw [if_pos hh] at hF18
        have hi := (idx_has l a b).2 hh
        rw [if_pos hi] at hF19
        have hlen : (l.eraseIdx (l.findIdx (findP a b))).length ≤ l.length := List.length_eraseIdx_le _ _
        obtain ⟨b2, e2, h2⟩ := f14_eq (l.eraseIdx (l.findIdx (findP a b))) (by unfold Sz; omega)
        have : b2 = true := h2.2 (srt_erase hs _)
        subst this
        simp only [cond_false, hF15, hF18, Option.bind_some, e0, e2, Bool.not_true, Bool.not_false, cond_true, hF11, hF19]
        rw [decide_eq_false (show ¬ (((l.findIdx (findP a b) : Nat) : Int) = -1) by omega)]
        rfl
      | false =>
        rw [if_neg (by rw [hh]; exact Bool.false_ne_true)] at hF18
        have hi : ¬ l.findIdx (findP a b) < l.length := fun h => by rw [(idx_has l a b).1 h] at hh; cases hh
        rw [if_neg hi] at hF19
        by_cases h32 : 32 ≤ l.length
        · rw [if_pos (.inr h32)] at hF15
          simp only [cond_false, hF15, hF18, Option.bind_some, e0, Bool.not_true, Bool.not_false, cond_true, hF11, hF19]
          rw [decide_eq_true trivial, decide_eq_false (show ¬ ((l.length : Nat) : Int) < 32 by omega)]
          rfl
        · rw [if_neg (by rintro (h | h); rw [hh] at h; cases h; exact h32 h)] at hF15
          have hx : has l ((s, (a, (b, (c, d)))) : LT).2.1 ((s, (a, (b, (c, d)))) : LT).2.2.1 = false := hh
          have hlen := ins_len l (s, (a, (b, (c, d))))
          obtain ⟨b2, e2, h2⟩ := f14_eq (ins l (s, (a, (b, (c, d))))) (by unfold Sz; omega)
          have : b2 = true := h2.2 (srt_ins hs hx)
          subst this
          have hidx : (ins l (s, (a, (b, (c, d))))).findIdx (findP a b) = l.findIdx (behP a b) := idx_ins hx
          have hk : l.findIdx (behP a b) ≤ l.length := List.findIdx_le_length
          have hA19 := f19_eq (ins l (s, (a, (b, (c, d))))) (by unfold Sz; omega) a b
          rw [hidx, if_pos (by omega)] at hA19
          have hA18 := f18_eq (ins l (s, (a, (b, (c, d))))) (by omega) a b
          have hhas : has (ins l (s, (a, (b, (c, d))))) a b = true := (idx_has _ _ _).1 (by rw [hidx]; omega)
          have her : (ins l (s, (a, (b, (c, d))))).eraseIdx (l.findIdx (behP a b)) = l := erase_ins (x := (s, (a, (b, (c, d)))))
          rw [if_pos hhas, hidx, her] at hA18
          have hget : (ins l (s, (a, (b, (c, d)))))[l.findIdx (behP a b)]'(by omega) = (s, (a, (b, (c, d)))) := get_ins (x := (s, (a, (b, (c, d))))) _
          have hrd : rd LeaseT (ins l (s, (a, (b, (c, d))))) (l.findIdx (behP a b)) = (s, (a, (b, (c, d)))) := (rd_lt (by omega)).trans hget
          simp only [cond_false, hF15, hF18, Option.bind_some, e0, e2, Bool.not_true, Bool.not_false, cond_true, hF11, hF19, hA19, hA18, ge0, Int.toNat_natCast]
          rw [decide_eq_true trivial, decide_eq_true (show ((l.length : Nat) : Int) < 32 by omega), ltn (show l.findIdx (behP a b) < (ins l (s, (a, (b, (c, d))))).length by omega), decide_eq_true (show l.findIdx (behP a b) < (ins l (s, (a, (b, (c, d))))).length by omega)]
          unfold LeaseT at hrd
          simp [hrd, hF11]
    · rw [decide_eq_true (show (40 : Int) < ((l.length : Nat) : Int) by omega)]; rfl
end Go.Proofs.Zz
