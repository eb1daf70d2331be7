/- Plain lemmas on texts: cutting at a byte, decimal numbers. -/
import Derived.Lib.SplitLaws
import Derived.Lib.ItoaNum
import Derived.Lib.ItoaMem
import Derived.Lib.Join
namespace Go.Txt
open Go Go.Lib
set_option linter.unusedSimpArgs false
set_option linter.unusedVariables false

abbrev B := List UInt8

/-- cut at each c -/
def spl (c : UInt8) : B → List B
  | [] => [[]]
  | b :: l => if b = c then [] :: spl c l else match spl c l with
    | h :: t => (b :: h) :: t
    | [] => [[b]]

theorem spl_ne (c : UInt8) : ∀ l, spl c l ≠ []
  | [] => by simp [spl]
  | b :: l => by
    unfold spl
    split
    · simp
    · split <;> simp

theorem jn_cons (c : UInt8) (x : B) {r : List B} (h : r ≠ []) : join (x :: r) [c] = x ++ c :: join r [c] := by
  cases r with
  | nil => exact absurd rfl h
  | cons y r => rw [join_cons, join_cons]; simp [joinTail]

theorem jn_spl (c : UInt8) : ∀ l, join (spl c l) [c] = l
  | [] => by simp [spl, join_one]
  | b :: l => by
    unfold spl
    split
    · rename_i h
      subst h
      rw [jn_cons _ _ (spl_ne _ _), jn_spl]; rfl
    · have ih := jn_spl c l
      split
      · rename_i h t hs
        rw [hs] at ih
        cases t with
        | nil => rw [join_one] at ih ⊢; rw [ih]
        | cons y t => rw [jn_cons _ _ (by simp)] at ih ⊢; rw [List.cons_append, ih]
      · rename_i hs; exact absurd hs (spl_ne _ _)

theorem spl_none {c : UInt8} : ∀ {x : B}, c ∉ x → spl c x = [x]
  | [], _ => rfl
  | b :: l, h => by
    simp only [List.mem_cons, not_or] at h
    unfold spl
    rw [if_neg (Ne.symm h.1), spl_none h.2]

theorem spl_app {c : UInt8} (r : B) : ∀ {x : B}, c ∉ x → spl c (x ++ c :: r) = x :: spl c r
  | [], _ => by simp [spl]
  | b :: l, h => by
    simp only [List.mem_cons, not_or] at h
    rw [List.cons_append, spl, if_neg (Ne.symm h.1), spl_app r h.2]

theorem spl_jn {c : UInt8} : ∀ {xs : List B}, xs ≠ [] → (∀ x ∈ xs, c ∉ x) → spl c (join xs [c]) = xs
  | [], h, _ => absurd rfl h
  | [x], _, h => by rw [join_one]; exact spl_none (h x (by simp))
  | x :: y :: r, _, h => by
    rw [jn_cons _ _ (by simp), spl_app _ (h x (by simp)), spl_jn (by simp) (fun z hz => h z (by simp at hz ⊢; exact .inr hz))]

theorem spl_free {c : UInt8} : ∀ (l : B), ∀ x ∈ spl c l, c ∉ x
  | [], x, hx => by simp [spl] at hx; subst hx; simp
  | b :: l, x, hx => by
    unfold spl at hx
    split at hx
    · rcases List.mem_cons.1 hx with rfl | hx
      · simp
      · exact spl_free l x hx
    · rename_i hb
      split at hx
      · rename_i h t hs
        have ih := spl_free (c := c) l
        rw [hs] at ih
        rcases List.mem_cons.1 hx with rfl | hx
        · have := ih h (by simp)
          simp only [List.mem_cons, not_or]
          exact ⟨Ne.symm hb, this⟩
        · exact ih x (by simp [hx])
      · rename_i hs; exact absurd hs (spl_ne _ _)

theorem spl_of_index {c : UInt8} : ∀ (s : B), (index s [c] = -1 → spl c s = [s]) ∧ ∀ i : Nat, index s [c] = i → spl c s = s.take i :: spl c (s.drop (i + 1))
  | [] => ⟨fun _ => rfl, fun i h => by
      have e : index ([] : List UInt8) [c] = -1 := by simp [index, List.isPrefixOf]
      have h' := e.symm.trans h
      omega⟩
  | b :: l => by
    obtain ⟨h1, h2⟩ := spl_of_index (c := c) l
    by_cases hb : b = c
    · subst hb
      have e : index (b :: l) [b] = 0 := by rw [index]; simp [List.isPrefixOf]
      refine ⟨fun h => by omega, fun i h => ?_⟩
      have : i = 0 := by omega
      subst this
      simp [spl]
    · have hp : ([c] : List UInt8).isPrefixOf (b :: l) = false := by simp [List.isPrefixOf, Ne.symm hb]
      have hix : index (b :: l) [c] = if index l [c] == -1 then -1 else index l [c] + 1 := by rw [index, hp]; simp
      have hge := index_ge l [c]
      refine ⟨fun h => ?_, fun i h => ?_⟩
      · have : index l [c] = -1 := by
          rw [hix] at h
          split at h
          · rename_i e; exact beq_iff_eq.1 e
          · omega
        rw [spl, if_neg hb, h1 this]
      · rw [hix] at h
        split at h
        · omega
        · rename_i hne
          have hne' : index l [c] ≠ -1 := fun e => hne (beq_iff_eq.2 e)
          obtain ⟨j, hj⟩ : ∃ j : Nat, index l [c] = j := ⟨(index l [c]).toNat, by omega⟩
          have : i = j + 1 := by omega
          subst this
          rw [spl, if_neg hb, h2 j hj]
          simp

theorem splitK_all (c : UInt8) : ∀ (k : Nat) (s : B), count s [c] ≤ k → splitK [c] 0 k s = spl c s
  | 0, s, h => by
    unfold splitK
    rcases index_spec s [c] with ⟨h1, _⟩ | ⟨i, h1, _⟩
    · rw [(spl_of_index s).1 h1]
    · rw [count_hit (by simp) h1] at h; omega
  | k + 1, s, h => by
    unfold splitK
    rcases index_spec s [c] with ⟨h1, _⟩ | ⟨i, h1, _⟩
    · rw [if_pos (beq_iff_eq.2 h1), (spl_of_index s).1 h1]
    · rw [if_neg (by simp; omega), h1]
      rw [count_hit (by simp) h1] at h
      simp only [List.length_singleton, Int.toNat_natCast, Nat.add_zero] at h ⊢
      rw [(spl_of_index s).2 i h1, splitK_all c k _ (by omega)]

theorem cut_at (c : UInt8) (s : B) : cut s [c] = match spl c s with
    | [x] => (x, [], false)
    | x :: r => (x, join r [c], true)
    | [] => (s, [], false) := by
  unfold cut
  rcases index_spec s [c] with ⟨h1, _⟩ | ⟨i, h1, _⟩
  · rw [if_neg (by omega), (spl_of_index s).1 h1]
  · rw [if_pos (by omega), (spl_of_index s).2 i h1, h1]
    cases hr : spl c (s.drop (i + 1)) with
    | nil => exact absurd hr (spl_ne _ _)
    | cons y r =>
      simp only [Int.toNat_natCast, List.length_singleton]
      rw [← hr, jn_spl]

theorem snocRec {α : Type} {p : List α → Prop} (nil : p []) (snoc : ∀ l b, p l → p (l ++ [b])) (l : List α) : p l := by
  have h : ∀ r : List α, p r.reverse := fun r => by
    induction r with
    | nil => exact nil
    | cons b r ih => rw [List.reverse_cons]; exact snoc _ _ ih
  have := h l.reverse
  rwa [List.reverse_reverse] at this

/-! numbers -/
def isDig (b : UInt8) : Bool := 48 ≤ b && b ≤ 57
def dval (b : UInt8) : Nat := b.toNat - 48
def val (l : B) : Nat := l.foldl (fun n b => 10 * n + dval b) 0

theorem isDig_iff {b : UInt8} : isDig b = true ↔ 48 ≤ b.toNat ∧ b.toNat ≤ 57 := by
  simp [isDig, UInt8.le_iff_toNat_le]

theorem ofNat_dval {b : UInt8} (h : isDig b = true) : UInt8.ofNat (48 + dval b) = b := by
  obtain ⟨h1, h2⟩ := isDig_iff.1 h
  unfold dval
  rw [show 48 + (b.toNat - 48) = b.toNat by omega]
  simp

theorem dig_of {d : Nat} (h : d < 10) : isDig (UInt8.ofNat (48 + d)) = true ∧ dval (UInt8.ofNat (48 + d)) = d := by
  have e : (UInt8.ofNat (48 + d)).toNat = 48 + d := by simp; omega
  exact ⟨isDig_iff.2 (by omega), by unfold dval; omega⟩

theorem val_snoc (l : B) (b : UInt8) : val (l ++ [b]) = 10 * val l + dval b := by simp [val]

/-- a decimal number, without zeros ahead -/
def IsNum (l : B) : Prop := l ≠ [] ∧ (∀ b ∈ l, isDig b = true) ∧ (1 < l.length → l.head? ≠ some 48)

theorem decDigits_num (k : Nat) : IsNum (decDigits k) ∧ val (decDigits k) = k ∧ (0 < k → (decDigits k).head? ≠ some 48) := by
  induction k using Nat.strongRecOn with
  | _ k ih =>
    by_cases h : k < 10
    · obtain ⟨d1, d2⟩ := dig_of h
      rw [decDigits, dif_pos h]
      refine ⟨⟨by simp, fun b hb => by rw [List.mem_singleton.1 hb]; exact d1, by simp⟩, by simp only [val, List.foldl_cons, List.foldl_nil, Nat.mul_zero, Nat.zero_add]; exact d2, fun hk h0 => ?_⟩
      simp only [List.head?_cons, Option.some.injEq] at h0
      rw [h0] at d2
      simp [dval] at d2
      omega
    · obtain ⟨⟨i1, i2, i3⟩, i4, i5⟩ := ih (k / 10) (by omega)
      obtain ⟨d1, d2⟩ := dig_of (show k % 10 < 10 by omega)
      rw [decDigits, dif_neg h]
      have hd : (decDigits (k / 10) ++ [UInt8.ofNat (48 + k % 10)]).head? ≠ some 48 := by
        cases hd0 : decDigits (k / 10) with
        | nil => exact absurd hd0 i1
        | cons a r => rw [hd0] at i5; exact i5 (by omega)
      refine ⟨⟨by simp, ?_, fun _ => hd⟩, by rw [val_snoc, i4, d2]; omega, fun _ => hd⟩
      intro b hb
      rcases List.mem_append.1 hb with hb | hb
      · exact i2 b hb
      · rw [List.mem_singleton.1 hb]; exact d1

theorem val_pos : ∀ {l : B}, (∀ b ∈ l, isDig b = true) → l.head? ≠ some 48 → l ≠ [] → 0 < val l := by
  intro l
  induction l using snocRec with
  | nil => intro _ _ h; exact absurd rfl h
  | snoc l b ih =>
    intro h1 h2 _
    rw [val_snoc]
    cases l with
    | nil =>
      simp only [List.nil_append, List.head?_cons, ne_eq, Option.some.injEq] at h2
      have hb := isDig_iff.1 (h1 b (by simp))
      have : b.toNat ≠ 48 := fun e => h2 (UInt8.toNat_inj.1 (by rw [e]; rfl))
      simp [val, dval]; omega
    | cons a l =>
      have := ih (fun c hc => h1 c (by simp at hc ⊢; rcases hc with h | h <;> simp [h])) (by simpa using h2) (by simp)
      omega

theorem num_dec : ∀ {l : B}, IsNum l → decDigits (val l) = l := by
  intro l
  induction l using snocRec with
  | nil => intro h; exact absurd rfl h.1
  | snoc l b ih =>
    intro ⟨h1, h2, h3⟩
    have hb := h2 b (by simp)
    have hd : dval b < 10 := by have := isDig_iff.1 hb; unfold dval; omega
    cases l with
    | nil =>
      have e : val ([] ++ [b]) = dval b := by simp [val]
      rw [e, decDigits, dif_pos hd, ofNat_dval hb]; rfl
    | cons a l =>
      have hd2 : (a :: l).head? ≠ some 48 := by
        have := h3 (by simp)
        simpa using this
      have ha : ∀ c ∈ a :: l, isDig c = true := fun c hc => h2 c (by simp at hc ⊢; rcases hc with h | h <;> simp [h])
      have := ih ⟨by simp, ha, fun _ => hd2⟩
      have hp := val_pos ha hd2 (by simp)
      rw [val_snoc, decDigits, dif_neg (by omega), show (10 * val (a :: l) + dval b) / 10 = val (a :: l) by omega, this,
        show (10 * val (a :: l) + dval b) % 10 = dval b by omega, ofNat_dval hb]

theorem dec_free {c : UInt8} (h : isDig c = false) (k : Nat) : c ∉ decDigits k := fun hc => by
  rw [(decDigits_num k).1.2.1 c hc] at h; simp at h

theorem dec_len {k : Nat} : ((decDigits k).length ≤ 3 ↔ k < 1000) ∧ 1 ≤ (decDigits k).length := by
  rw [decDigits_length]
  refine ⟨?_, nDigits_pos k⟩
  have := lt_pow_nDigits k
  constructor
  · intro h
    exact Nat.lt_of_lt_of_le this (Nat.pow_le_pow_right (by omega) h)
  · intro h
    by_cases h1 : k < 10
    · rw [nDigits_small h1]; omega
    · rw [nDigits_big h1]
      by_cases h2 : k / 10 < 10
      · rw [nDigits_small h2]; omega
      · rw [nDigits_big h2, nDigits_small (by omega)]; omega
end Go.Txt
