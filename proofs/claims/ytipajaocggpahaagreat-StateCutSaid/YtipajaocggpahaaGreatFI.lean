/- Several texts in one: Itl, It2, Itd. -/
import Derived.Test.YtipajaocggpahaaGreatFC
import Derived.IntWalk
/- Loops of plain functions; numbers that fit; bits as sums. -/
namespace Go.Sy
open Go
set_option linter.unusedSimpArgs false
set_option linter.unusedVariables false

section
variable {α β γ : Type} {f : α → Option (R3 α β γ)}
theorem it_next {n : Nat} {x x' : α} (h : f x = some (.next x')) : iter (n + 1) f x = iter n f x' := by rw [iter, h]
theorem it_out {n : Nat} {x : α} {y : β} (h : f x = some (.out y)) : iter (n + 1) f x = some (.inl y) := by rw [iter, h]
theorem it_ret {n : Nat} {x : α} {y : γ} (h : f x = some (.ret y)) : iter (n + 1) f x = some (.inr y) := by rw [iter, h]

theorem it_mono : ∀ {k n : Nat}, k ≤ n → ∀ {x : α} {r : Sum β γ}, iter k f x = some r → iter n f x = some r
  | 0, _, _, x, r, h => by simp [iter] at h
  | k + 1, 0, hk, _, _, _ => by omega
  | k + 1, n + 1, hk, x, r, h => by
    unfold iter at h ⊢
    split at h
    · exact it_mono (by omega) h
    · exact h
    · exact h
    · simp at h

/-- a loop that keeps I and makes m less comes to what Q says -/
theorem it_inv (I : α → Prop) (m : α → Nat) (Q : Sum β γ → Prop)
    (step : ∀ x, I x → (∃ x', f x = some (.next x') ∧ I x' ∧ m x' < m x) ∨ (∃ y, f x = some (.out y) ∧ Q (.inl y)) ∨ ∃ y, f x = some (.ret y) ∧ Q (.inr y)) :
    ∀ (n : Nat) (x : α), I x → m x < n → ∃ r, iter n f x = some r ∧ Q r
  | 0, _, _, h => by omega
  | n + 1, x, hI, hm => by
    rcases step x hI with ⟨x', h1, h2, h3⟩ | ⟨y, h1, h2⟩ | ⟨y, h1, h2⟩
    · rw [it_next h1]; exact it_inv I m Q step n x' h2 (by omega)
    · exact ⟨_, it_out h1, h2⟩
    · exact ⟨_, it_ret h1, h2⟩

/-- a loop that tells at each state what it comes to -/
theorem it_tells (I : α → Prop) (m : α → Nat) (g : α → Sum β γ)
    (step : ∀ x, I x → (∃ x', f x = some (.next x') ∧ I x' ∧ m x' < m x ∧ g x' = g x) ∨ (∃ y, f x = some (.out y) ∧ g x = .inl y) ∨ ∃ y, f x = some (.ret y) ∧ g x = .inr y) :
    ∀ (n : Nat) (x : α), I x → m x < n → iter n f x = some (g x)
  | 0, _, _, h => by omega
  | n + 1, x, hI, hm => by
    rcases step x hI with ⟨x', h1, h2, h3, h4⟩ | ⟨y, h1, h2⟩ | ⟨y, h1, h2⟩
    · rw [it_next h1, it_tells I m g step n x' h2 (by omega), h4]
    · rw [it_out h1, h2]
    · rw [it_ret h1, h2]
end

theorem w64 {x : Int} (h1 : -9223372036854775808 ≤ x) (h2 : x ≤ 9223372036854775807) : IntKind.wrap .i64 x = x := IntWalk.i64_in _ ⟨h1, h2⟩
theorem w32 {x : Int} (h1 : -2147483648 ≤ x) (h2 : x ≤ 2147483647) : IntKind.wrap .i32 x = x := by rw [IntKind.wrap_i32]; omega
theorem w8 {x : Int} (h1 : 0 ≤ x) (h2 : x ≤ 255) : IntKind.wrap .u8 x = x := by rw [IntKind.wrap_u8]; omega

theorem bv_ofInt {n : Nat} (h : n < 2 ^ 64) : (BitVec.ofInt 64 (n : Int)).toNat = n := by
  simp [BitVec.toNat_ofInt]; omega

theorem b_and {a b : Nat} (ha : a < 2 ^ 63) (hb : b < 2 ^ 63) : bitop .and .i64 (a : Int) (b : Int) = ((a &&& b : Nat) : Int) := by
  have h : a &&& b ≤ a := Nat.and_le_left
  show IntKind.wrap .i64 ((BitVec.ofInt 64 (a : Int) &&& BitVec.ofInt 64 (b : Int)).toNat : Int) = _
  rw [BitVec.toNat_and, bv_ofInt (by omega), bv_ofInt (by omega), w64 (by omega) (by omega)]

theorem b_or {a b : Nat} (ha : a < 2 ^ 63) (hb : b < 2 ^ 63) : bitop .or .i64 (a : Int) (b : Int) = ((a ||| b : Nat) : Int) := by
  have h : a ||| b < 2 ^ 63 := Nat.or_lt_two_pow ha hb
  show IntKind.wrap .i64 ((BitVec.ofInt 64 (a : Int) ||| BitVec.ofInt 64 (b : Int)).toNat : Int) = _
  rw [BitVec.toNat_or, bv_ofInt (by omega), bv_ofInt (by omega), w64 (by omega) (by omega)]

theorem b_xor {a b : Nat} (ha : a < 2 ^ 63) (hb : b < 2 ^ 63) : bitop .xor .i64 (a : Int) (b : Int) = ((a ^^^ b : Nat) : Int) := by
  have h : a ^^^ b < 2 ^ 63 := Nat.xor_lt_two_pow ha hb
  show IntKind.wrap .i64 ((BitVec.ofInt 64 (a : Int) ^^^ BitVec.ofInt 64 (b : Int)).toNat : Int) = _
  rw [BitVec.toNat_xor, bv_ofInt (by omega), bv_ofInt (by omega), w64 (by omega) (by omega)]

theorem b_and_mask {a m : Nat} (ha : a < 2 ^ 63) (hm : m < 63) : bitop .and .i64 (a : Int) (((2 ^ m : Nat) : Int) - 1) = ((a % 2 ^ m : Nat) : Int) := by
  have h1 : 1 ≤ 2 ^ m := Nat.one_le_two_pow
  have h2 : 2 ^ m ≤ 2 ^ 62 := Nat.pow_le_pow_right (by omega) (by omega)
  have e : ((2 ^ m : Nat) : Int) - 1 = ((2 ^ m - 1 : Nat) : Int) := by omega
  rw [e, b_and ha (by omega), Nat.and_two_pow_sub_one_eq_mod]

/-- a number of whole steps, and one below a step, joined -/
theorem b_or_add {a b m : Nat} (ha : a < 2 ^ 62) (hd : a % 2 ^ m = 0) (hb : b < 2 ^ m) (hm : m ≤ 62) : bitop .or .i64 (a : Int) (b : Int) = ((a + b : Nat) : Int) := by
  have h2 : 2 ^ m ≤ 2 ^ 62 := Nat.pow_le_pow_right (by omega) hm
  rw [b_or (by omega) (by omega)]
  have : a = 2 ^ m * (a / 2 ^ m) := by have := Nat.div_add_mod a (2 ^ m); omega
  rw [this, Nat.two_pow_add_eq_or_of_lt hb]

theorem fdiv_pow (a m : Nat) : Int.fdiv (a : Int) ((2 : Int) ^ m) = ((a / 2 ^ m : Nat) : Int) := by
  rw [show ((2 : Int) ^ m) = ((2 ^ m : Nat) : Int) by simp, Int.fdiv_eq_ediv_of_nonneg _ (Int.natCast_nonneg _)]; rfl
end Go.Sy

/- Loops over lists, told of lists. -/
namespace Go.Sy
open Go
set_option linter.unusedSimpArgs false
set_option linter.unusedVariables false
variable {α β γ δ : Type} {u : α → Option (R3 α β γ)}

theorem rd_lt {e : Ty} {xs : List e.T} {i : Nat} (h : i < List.length xs) : rd e xs i = xs[i] := by
  unfold rd
  exact (List.getElem_eq_getD _).symm

theorem it_all (st : Nat → α) {n : Nat} {y : β} (hs : ∀ j, j < n → u (st j) = some (.next (st (j + 1)))) (he : u (st n) = some (.out y)) :
    ∀ (k fuel : Nat), k ≤ n → n - k < fuel → iter fuel u (st k) = some (.inl y)
  | k, 0, _, h => by omega
  | k, fuel + 1, hk, h => by
    rcases Nat.lt_or_ge k n with hlt | hge
    · rw [it_next (hs k hlt)]
      exact it_all st hs he (k + 1) fuel (by omega) (by omega)
    · have : k = n := by omega
      subst this
      exact it_out he

theorem it_first (st : Nat → α) {n : Nat} {y : γ} (hs : ∀ j, j < n → u (st j) = some (.next (st (j + 1)))) (he : u (st n) = some (.ret y)) :
    ∀ (k fuel : Nat), k ≤ n → n - k < fuel → iter fuel u (st k) = some (.inr y)
  | k, 0, _, h => by omega
  | k, fuel + 1, hk, h => by
    rcases Nat.lt_or_ge k n with hlt | hge
    · rw [it_next (hs k hlt)]
      exact it_first st hs he (k + 1) fuel (by omega) (by omega)
    · have : k = n := by omega
      subst this
      exact it_ret he

/-- a loop that goes out of it with one answer where p says so, and else through -/
theorem it_any (st : Nat → α) (p : Nat → Bool) {n : Nat} {y : β} {z : γ} (hs : ∀ j, j < n → u (st j) = cond (p j) (some (.ret z)) (some (.next (st (j + 1))))) (he : u (st n) = some (.out y)) :
    ∀ (k fuel : Nat), k ≤ n → n - k < fuel → iter fuel u (st k) = some (cond ((List.range' k (n - k)).any p) (.inr z) (.inl y))
  | k, 0, _, h => by omega
  | k, fuel + 1, hk, h => by
    rcases Nat.lt_or_ge k n with hlt | hge
    · have e : n - k = (n - (k + 1)) + 1 := by omega
      rw [e, List.range'_succ, List.any_cons]
      have h1 := hs k hlt
      cases hp : p k with
      | true => rw [hp] at h1; rw [it_ret h1]; rfl
      | false =>
        rw [hp] at h1
        rw [it_next h1, it_any st p hs he (k + 1) fuel (by omega) (by omega)]
        rfl
    · have : k = n := by omega
      subst this
      rw [Nat.sub_self, it_out he]; rfl

/-- a loop that looks for the first one -/
theorem it_idx (l : List δ) (q : δ → Bool) (st : Nat → α) (r : Nat → γ) {y : β} (hs : ∀ j (h : j < l.length), u (st j) = cond (q l[j]) (some (.ret (r j))) (some (.next (st (j + 1))))) (he : u (st l.length) = some (.out y)) {fuel : Nat} (hf : l.length < fuel) :
    iter fuel u (st 0) = some (if l.findIdx q < l.length then .inr (r (l.findIdx q)) else .inl y) := by
  by_cases hlt : l.findIdx q < l.length
  · rw [if_pos hlt]
    refine it_first st (n := l.findIdx q) (fun j hj => ?_) ?_ 0 fuel (Nat.zero_le _) (by omega)
    · rw [hs j (by omega)]
      have : q (l[j]'(by omega)) = false := by simpa using List.not_of_lt_findIdx hj
      rw [this]; rfl
    · rw [hs _ hlt]
      have : q (l[l.findIdx q]'hlt) = true := List.findIdx_getElem
      rw [this]; rfl
  · rw [if_neg hlt]
    refine it_all st (n := l.length) (fun j hj => ?_) he 0 fuel (Nat.zero_le _) (by omega)
    rw [hs j hj]
    have : q (l[j]'(by omega)) = false := by simpa using List.not_of_lt_findIdx (p := q) (xs := l) (i := j) (by omega)
    rw [this]; rfl

theorem any_range_eq {l m : List δ} [DecidableEq δ] (hl : l.length = m.length) (p : Nat → Bool) (hp : ∀ j (h : j < l.length), p j = !decide (l[j] = m[j]'(by omega))) : (List.range' 0 (l.length - 0)).any p = !decide (l = m) := by
  by_cases h : l = m
  · subst h
    rw [decide_eq_true rfl]
    simp only [Bool.not_true, List.any_eq_false]
    intro j hj
    have hj := List.mem_range'_1.1 hj
    rw [hp j (by omega)]
    simp
  · rw [decide_eq_false h]
    simp only [Bool.not_false, List.any_eq_true]
    apply Classical.byContradiction
    intro hn
    apply h
    apply List.ext_getElem hl
    intro j h1 h2
    apply Classical.byContradiction
    intro hne
    exact hn ⟨j, List.mem_range'_1.2 (by omega), by rw [hp j h1]; simp [hne]⟩
end Go.Sy

/- The loop of slices.DeleteFunc, over lists. -/
namespace Go.Proofs.Zz
open Go Go.Sy
set_option linter.unusedSimpArgs false
set_option linter.unusedVariables false

theorem it_del {α X Y Z : Type} {u : X → Option (R3 X Y Z)} (del : α → Bool) (st : Nat → Nat → List α → X) (out : Nat → List α → Y) (N : Nat)
    (hstep : ∀ i j (l : List α) (h : j < l.length) (hi : i < j), l.length = N → u (st i j l) = some (.next (if del l[j] = true then st i (j + 1) l else st (i + 1) (j + 1) (l.set i l[j]))))
    (hout : ∀ i (l : List α), i < l.length → u (st i l.length l) = some (.out (out i l))) :
    ∀ (d i j : Nat) (l : List α) (fuel : Nat), l.length = N → j + d = l.length → i < j → d < fuel →
      ∃ k l', iter fuel u (st i j l) = some (.inl (out k l')) ∧ k = i + ((l.drop j).filter fun x => !del x).length ∧ l'.take k = l.take i ++ (l.drop j).filter (fun x => !del x) ∧ l'.length = l.length
  | _, i, j, l, 0, _, _, _, hf => by omega
  | 0, i, j, l, fuel + 1, hN, hj, hi, hf => by
    have e : j = l.length := by omega
    subst e
    refine ⟨i, l, it_out (hout i l (by omega)), by simp, by simp, rfl⟩
  | d + 1, i, j, l, fuel + 1, hN, hj, hi, hf => by
    have hlt : j < l.length := by omega
    have hs := hstep i j l hlt hi hN
    have hdrop : l.drop j = l[j] :: l.drop (j + 1) := by rw [List.drop_eq_getElem_cons hlt]
    by_cases hd : del l[j] = true
    · rw [if_pos hd] at hs
      obtain ⟨k, l', h1, h2, h3, h4⟩ := it_del del st out N hstep hout d i (j + 1) l fuel hN (by omega) (by omega) (by omega)
      refine ⟨k, l', by rw [← h1]; exact it_next hs, ?_, ?_, h4⟩
      · rw [hdrop, List.filter_cons, if_neg (by simp [hd])]; exact h2
      · rw [hdrop, List.filter_cons, if_neg (by simp [hd])]; exact h3
    · rw [if_neg hd] at hs
      obtain ⟨k, l', h1, h2, h3, h4⟩ := it_del del st out N hstep hout d (i + 1) (j + 1) (l.set i l[j]) fuel (by rw [List.length_set]; exact hN) (by rw [List.length_set]; omega) (by omega) (by omega)
      have hdr : (l.set i l[j]).drop (j + 1) = l.drop (j + 1) := List.drop_set_of_lt (by omega)
      rw [hdr] at h2 h3
      rw [List.length_set] at h4
      have htk : (l.set i l[j]).take (i + 1) = l.take i ++ [l[j]] := by
        rw [List.take_succ_eq_append_getElem (by rw [List.length_set]; omega), List.take_set_of_le (Nat.le_refl i)]
        simp
      refine ⟨k, l', by rw [← h1]; exact it_next hs, ?_, ?_, h4⟩
      · rw [hdrop, List.filter_cons, if_pos (by simp [hd]), List.length_cons]; omega
      · rw [hdrop, List.filter_cons, if_pos (by simp [hd]), h3, htk]; simp

/-- all of it: the first one that goes, and those behind it -/
theorem del_all {α X Y Z : Type} {u : X → Option (R3 X Y Z)} (del : α → Bool) (st : Nat → Nat → List α → X) (out : Nat → List α → Y) (l : List α)
    (hstep : ∀ i j (m : List α) (h : j < m.length) (hi : i < j), m.length = l.length → u (st i j m) = some (.next (if del m[j] = true then st i (j + 1) m else st (i + 1) (j + 1) (m.set i m[j]))))
    (hout : ∀ i (m : List α), i < m.length → u (st i m.length m) = some (.out (out i m))) (hl : l.length < big) (hi : l.findIdx del < l.length) :
    ∃ k l', iter big u (st (l.findIdx del) (l.findIdx del + 1) l) = some (.inl (out k l')) ∧ k = (l.filter fun x => !del x).length ∧ l'.take k = l.filter (fun x => !del x) ∧ l'.length = l.length := by
  obtain ⟨k, l', h1, h2, h3, h4⟩ := it_del del st out l.length hstep hout (l.length - (l.findIdx del + 1)) (l.findIdx del) (l.findIdx del + 1) l big rfl (by omega) (by omega) (by omega)
  have hat : del l[l.findIdx del] = true := List.findIdx_getElem (w := hi)
  have hfirst : (l.take (l.findIdx del)).filter (fun x => !del x) = l.take (l.findIdx del) := by
    rw [List.filter_eq_self]
    intro x hx
    obtain ⟨j, hj, rfl⟩ := List.mem_iff_getElem.1 hx
    rw [List.length_take] at hj
    rw [List.getElem_take]
    have := List.not_of_lt_findIdx (p := del) (xs := l) (i := j) (by omega)
    simpa using this
  have hfil : l.filter (fun x => !del x) = l.take (l.findIdx del) ++ (l.drop (l.findIdx del + 1)).filter (fun x => !del x) := by
    conv => lhs; rw [← List.take_append_drop (l.findIdx del) l]
    rw [List.filter_append, hfirst, List.drop_eq_getElem_cons hi, List.filter_cons, if_neg (by simp [hat])]
  refine ⟨k, l', h1, ?_, by rw [h3, hfil], h4⟩
  rw [hfil, List.length_append, List.length_take]
  omega
end Go.Proofs.Zz
