/- The laws of chapter 07 but for the one against the document's answer. -/
import Derived.Test.YtibhegeedppkpaaDoorP07d
namespace Go.Proofs.Zz
open Go Go.Sy Go.Txt
set_option linter.unusedSimpArgs false
set_option linter.unusedVariables false

theorem size_mul {k k' : Int} (h0 : 0 ≤ k) (h : k ≤ k') (h1 : k' ≤ 32) : szI k % szI k' = 0 := by
  unfold szI
  have : (2 ^ (32 - k').toNat : Nat) ∣ 2 ^ (32 - k).toNat := Nat.pow_dvd_pow 2 (by omega)
  have := Nat.mod_eq_zero_of_dvd this
  omega

theorem mod_trans {b m n : Int} (h1 : b % m = 0) (h2 : m % n = 0) : b % n = 0 :=
  Int.emod_eq_zero_of_dvd (Int.dvd_trans (Int.dvd_of_emod_eq_zero h2) (Int.dvd_of_emod_eq_zero h1))

/-- of two that meet the one with no fewer bits lies in the other one -/
theorem nested {b k b' k' : Int} (h : MeetP b k b' k') (hk : k ≤ k') : b ≤ b' ∧ b' + szI k' ≤ b + szI k := by
  obtain ⟨m, m', hor⟩ := h
  have p := szI_pos k
  have p' := szI_pos k'
  have hd := size_mul m.1 hk m'.2.1
  have hb : b % szI k' = 0 := mod_trans m.2.2.2.2 hd
  have hbs : (b + szI k) % szI k' = 0 := by rw [Int.add_emod, hb, hd]; simp
  have hb' := m'.2.2.2.2
  rcases hor with h | h
  · exact ⟨h.1, add_le_of_mod (by omega) hb' hbs h.2⟩
  · have e : b = b' := by
      by_cases he : b' < b
      · have := add_le_of_mod (by omega) hb' hb he
        omega
      · omega
    refine ⟨by omega, add_le_of_mod (by omega) hb' hbs (by omega)⟩

theorem meet_comm (b k b' k' : Int) : decide (MeetP b k b' k') = decide (MeetP b' k' b k) := by
  rw [decide_eq_decide]
  unfold MeetP
  constructor <;> rintro ⟨h1, h2, h3⟩ <;> exact ⟨h2, h1, h3.symm⟩

theorem law4 (b k b' k' a : Int) : f4 b k b' k' a = some (true, ()) := by
  unfold f4
  have e1 := index_nonneg b k a
  have e2 := index_nonneg b' k' a
  have hn : MeetP b k b' k' → k ≤ k' → b ≤ b' ∧ b' + szI k' ≤ b + szI k := fun h => nested h
  have hm : MayP b k → MayP b' k' → b ≤ a ∧ a < b + szI k → b' ≤ a ∧ a < b' + szI k' → MeetP b k b' k' := fun h1 h2 h3 h4 => ⟨h1, h2, by omega⟩
  have hmay : MeetP b k b' k' → MayP b k := fun h => h.1
  rw [f10_eq, f16_eq, f16_eq, f17_eq, f17_eq, f15_eq, meet_comm b' k' b k]
  simp only [Option.bind_some]
  by_cases hx : 0 ≤ indexI b k a <;> by_cases hy : 0 ≤ indexI b' k' a <;> by_cases hmm : MeetP b k b' k' <;> by_cases hma : MayP b k <;> by_cases hk : k' < k <;>
    simp only [hx, hy, hmm, hma, hk, decide_true, decide_false, Bool.not_true, Bool.not_false, cond_true, cond_false, beq_self_eq_true]
  all_goals exfalso
  all_goals first
    | exact hmm (hm (e1.1 hx).1 (e2.1 hy).1 (e1.1 hx).2 (e2.1 hy).2)
    | exact hma (hmay hmm)
    | (have n := hn hmm (by omega); have y := (e2.1 hy).2; exact hx (e1.2 ⟨hma, by omega, by omega⟩))

theorem law5 (b k : Int) : f5 b k = some (true, ()) := by
  unfold f5
  rw [f10_eq, f18_eq, f15_eq, f18_eq, f17_eq]
  simp only [Option.bind_some, Bool.not_true, cond_false]
  by_cases hm : MayP b k
  case neg =>
    have : sizeI b k = 0 := by unfold sizeI; rw [if_neg hm]
    simp [this, hm]
  have hs : sizeI b k = szI k := by unfold sizeI; rw [if_pos hm]
  have hp := szI_pos k
  have hle := szI_le hm.1
  have d1 : Int.tmod 4294967296 (szI k) = 0 := by rw [Int.tmod_eq_emod_of_nonneg (by omega)]; exact szI_dvd hm.1
  have d2 : Int.tmod b (szI k) = 0 := by rw [Int.tmod_eq_emod_of_nonneg hm.2.2.1]; exact hm.2.2.2.2
  have hsz : ∀ m : Int, decide (m = 0) = decide (m = 0) := fun _ => rfl
  have c1 : (0 : Int) < szI k := by omega
  have c2 : ¬ szI k < 0 := by omega
  have c3 : ¬ szI k = 0 := by omega
  simp only [hs, hm, c1, c2, c3, d1, d2, decide_true, decide_false, cond_true, cond_false, Bool.not_true, Bool.not_false, beq_self_eq_true]
  by_cases h32 : k = 32
  · simp [h32]
  have hk := hm.1
  have hk' := hm.2.1
  rw [decide_eq_false h32, w64 (show -9223372036854775808 ≤ k + 1 by omega) (by omega)]
  have hhalf : szI k = 2 * szI (k + 1) := by
    unfold szI
    have : (32 - k).toNat = (32 - (k + 1)).toNat + 1 := by omega
    rw [this, Nat.pow_succ]; omega
  have hm2 : MayP b (k + 1) := ⟨by omega, by omega, hm.2.2.1, hm.2.2.2.1, mod_trans hm.2.2.2.2 (by rw [hhalf]; exact Int.mul_emod_left 2 _)⟩
  have hs2 : sizeI b (k + 1) = szI (k + 1) := by unfold sizeI; rw [if_pos hm2]
  have hq : Int.tdiv (szI k) 2 = szI (k + 1) := by rw [Int.tdiv_eq_ediv_of_nonneg (by omega)]; omega
  have hmeet : MeetP b k b (k + 1) := ⟨hm, hm2, .inl ⟨by omega, by omega⟩⟩
  rw [hq, w64 (show -9223372036854775808 ≤ szI (k + 1) by omega) (by omega), hs2]
  simp [hmeet]

theorem text4_inj {n m : Nat} (hn : n < 4294967296) (hm : m < 4294967296) (h : text4 n = text4 m) : n = m := by
  have := addr_text n hn
  rw [h, addr_text m hm] at this
  exact (Option.some.inj this).symm

theorem textI_ne (a : Int) : textI a = [] ↔ ¬ (0 ≤ a ∧ a < 4294967296) := by
  unfold textI
  split
  · rename_i h
    have := (text4_len a.toNat (by omega)).1
    constructor
    · intro e; rw [e] at this; simp at this
    · intro e; exact absurd h e
  · rename_i h; simp [h]

theorem textP_ne (b k : Int) : textP b k = [] ↔ ¬ MayP b k := by
  unfold textP
  split
  · rename_i h; simp [h]
  · rename_i h; simp [h]

theorem bs_empty : bs (⟨#[]⟩ : ByteArray) = [] := rfl

theorem size_sb_textI (a : Int) : (sb (textI a)).size < 4294967281 := by
  rw [sb_size]
  unfold textI
  split
  · have := (text4_len a.toNat (by omega)).2; omega
  · simp

theorem size_sb_textP (b k : Int) : (sb (textP b k)).size < 4294967281 := by
  rw [sb_size]; have := textP_len b k; omega

theorem pref_textI (a : Int) : prefO (textI a) = none := by
  unfold textI
  split
  · exact pref_none _
  · rfl

theorem law6 (b k b' k' x y : Int) : f6 b k b' k' x y = some (true, ()) := by
  unfold f6
  rw [f10_eq, f12_eq, f12_eq, f14_eq, f14_eq]
  simp only [Option.bind_some, f13_eq _ (size_sb_textI x), f11_eq _ (size_sb_textP b k), str_eq, bs_sb, bs_empty, pref_textI, addr_pref, outP, outA, textI_ne, textP_ne, Bool.not_true, Bool.not_false, cond_true, cond_false]
  have h1 : (0 ≤ x ∧ x < 4294967296) → (0 ≤ y ∧ y < 4294967296) → decide (textI x = textI y) = decide (x = y) := by
    intro hx hy
    rw [decide_eq_decide]
    constructor
    · intro h
      unfold textI at h
      rw [if_pos hx, if_pos hy] at h
      have := text4_inj (by omega) (by omega) h
      omega
    · intro h; rw [h]
  have h2 : MayP b k → MayP b' k' → decide (textP b k = textP b' k') = (decide (b = b') && (decide (k = k') && true)) := by
    intro hp hq
    rw [Bool.and_true, Bool.eq_iff_iff]
    simp only [Bool.and_eq_true, decide_eq_true_eq]
    constructor
    · intro h
      have e := pref_text hp
      rw [h, pref_text hq] at e
      simp only [Option.some.injEq, Prod.mk.injEq] at e
      have := hp.1; have := hq.1; have := hp.2.2.1; have := hq.2.2.1
      omega
    · rintro ⟨rfl, rfl⟩; rfl
  by_cases hx : 0 ≤ x ∧ x < 4294967296 <;> by_cases hy : 0 ≤ y ∧ y < 4294967296 <;> by_cases hp : MayP b k <;> by_cases hq : MayP b' k' <;>
    simp only [hx, hy, hp, hq, not_true, not_false_eq_true, decide_true, decide_false, Bool.not_true, Bool.not_false, cond_true, cond_false, h1, h2, true_implies, and_self, beq_self_eq_true, false_implies]

/-! ### points -/
theorem count_dec (k : Nat) : (dec k).count 46 = 0 := List.count_eq_zero.2 (dec_free (by decide) k)

theorem count_text (n : Nat) : (text4 n).count 46 = 3 := by
  rw [text4_eq]
  simp only [List.count_append, List.count_cons_self, count_dec]

theorem bt_at {s : ByteArray} {i : Nat} {b : UInt8} {r : B} (h : (bs s).drop i = b :: r) : bt s i = b.toNat := by
  obtain ⟨h1, h2, _⟩ := get_at h
  unfold bt
  rw [dif_pos (by simpa using h1)]
  congr 1
  congr 1
  rw [← h2]
  show s.data[(i : Int).toNat]'_ = s.data[i]!
  have hd : i < s.data.size := h1
  rw [getElem!_pos s.data i hd]
  rfl

theorem loop7 (x : Int) (u : Bool) (s t : ByteArray) (hs : s.size ≤ 15) : ∀ (r : B) (i c fuel : Nat), (bs s).drop i = r → i ≤ s.size → c ≤ i → r.length < fuel →
    iter fuel u7_6 ((x, (u, (s, (t, ((c : Int), ((i : Int), ())))))), ((), ())) = some (.inl ((x, (u, (s, (t, (((c + r.count 46 : Nat) : Int), ()))))), ((), ())))
  | r, i, c, 0, _, _, _, h => by omega
  | [], i, c, fuel + 1, hr, hi, hc, hf => by
    refine it_out ?_
    show t7_6 x u s t c i = _
    have := List.drop_eq_nil_iff.1 hr
    rw [bs_len] at this
    unfold t7_6
    rw [decide_eq_false (by omega)]; rfl
  | b :: r, i, c, fuel + 1, hr, hi, hc, hf => by
    obtain ⟨h1, h2, h3⟩ := get_at hr
    simp only [List.length_cons] at hf
    have hb := bt_at hr
    have c1 : ((i : Nat) : Int) < ((s.size : Nat) : Int) := by omega
    have c2 : (0 : Int) ≤ ((i : Nat) : Int) := by omega
    have w1 : IntKind.wrap .i64 ((i : Int) + 1) = ((i + 1 : Nat) : Int) := by rw [w64 (by omega) (by omega)]; omega
    have w2 : IntKind.wrap .i64 ((c : Int) + 1) = ((c + 1 : Nat) : Int) := by rw [w64 (by omega) (by omega)]; omega
    by_cases h46 : b = 46
    · subst h46
      have ih := loop7 x u s t hs r (i + 1) (c + 1) fuel h3 (by omega) (by omega) (by omega)
      rw [List.count_cons_self, show c + (r.count 46 + 1) = c + 1 + r.count 46 by omega, ← ih]
      refine it_next ?_
      show t7_6 x u s t c i = _
      unfold t7_6
      have : bt s i = 46 := hb
      simp only [c1, c2, this, decide_true, Bool.and_self, cond_true, w1, w2]
    · have ih := loop7 x u s t hs r (i + 1) c fuel h3 (by omega) (by omega) (by omega)
      rw [List.count_cons_of_ne (Ne.symm h46).symm, ← ih]
      refine it_next ?_
      show t7_6 x u s t c i = _
      unfold t7_6
      have : ¬ bt s i = 46 := by
        rw [hb]
        intro e
        exact h46 (UInt8.toNat_inj.1 (by rw [show (46 : UInt8).toNat = 46 from rfl]; omega))
      simp only [c1, c2, this, decide_true, decide_false, Bool.and_self, cond_true, cond_false, w1]

theorem law7 (a b k : Int) : f7 a b k = some (true, ()) := by
  unfold f7
  rw [f10_eq, f12_eq, f14_eq]
  simp only [Option.bind_some]
  have hl : (textI a).length ≤ 15 := by
    unfold textI
    split
    · exact (text4_len a.toNat (by omega)).2
    · simp
  have := loop7 a true (sb (textI a)) (sb (textP b k)) (by rw [sb_size]; exact hl) (textI a) 0 0 16 (by rw [bs_sb]; rfl) (by omega) (by omega) (by omega)
  rw [show ((0 : Nat) : Int) = 0 from rfl, Nat.zero_add] at this
  rw [it_mono (show 16 ≤ big from Nat.le_of_ble_eq_true rfl) this]
  have hp := textP_len b k
  simp only [Option.bind_some, str_eq, bs_sb, bs_empty, textI_ne, sb_size, cond_true]
  rw [decide_eq_true (show (((textP b k).length : Nat) : Int) ≤ 18 by omega)]
  by_cases ha : 0 ≤ a ∧ a < 4294967296
  · have h4 : textI a = text4 a.toNat := by unfold textI; rw [if_pos ha]
    have hlen := text4_len a.toNat (by omega)
    rw [h4, count_text]
    have c1 : (7 : Int) ≤ (((text4 a.toNat).length : Nat) : Int) := by omega
    have c2 : (((text4 a.toNat).length : Nat) : Int) ≤ 15 := by omega
    have c3 : ¬ a < 0 := by omega
    have c4 : ¬ 4294967296 ≤ a := by omega
    simp [ha, c1, c2, c3, c4]
  · by_cases h0 : a < 0
    · simp [ha, h0]
    · have : 4294967296 ≤ a := by omega
      simp [ha, h0, this]

theorem law9 (b k i a : Int) : f9 b k i a = some (true, ()) := by
  unfold f9
  rw [f10_eq, f19_eq, f18_eq]
  have hi0 : MayP b k → sizeI b k = szI k := fun h => by unfold sizeI; rw [if_pos h]
  have hi1 : ¬ MayP b k → sizeI b k = 0 := fun h => by unfold sizeI; rw [if_neg h]
  have tail : (f16 b k a).bind (fun y9 => (f19 b k y9.1).bind fun y10 =>
       cond (decide (y9.1 = (-1))) (
        cond (!y10.2.1) (
         some (true, ())) (
         cond (decide (0 ≤ y9.1)) (
          cond y10.2.1 (
           some ((decide (y10.1 = a)), ())) (
           some (false, ()))) (
          some (false, ())))) (
        cond (decide (0 ≤ y9.1)) (
         cond y10.2.1 (
          some ((decide (y10.1 = a)), ())) (
          some (false, ()))) (
         some (false, ())))) = some (true, ()) := by
    rw [f16_eq]
    simp only [Option.bind_some, f19_eq]
    unfold indexI
    by_cases h : MayP b k ∧ b ≤ a ∧ a < b + szI k
    · rw [if_pos h]
      have : 0 ≤ a - b ∧ a - b < sizeI b k := by rw [hi0 h.1]; omega
      have c1 : ¬ a - b = -1 := by omega
      have c2 : 0 ≤ a - b := by omega
      have c3 : b + (a - b) = a := by omega
      rw [if_pos this]
      simp only [c1, c2, c3, decide_true, decide_false, cond_true, cond_false]
    · rw [if_neg h]
      simp
  simp only [Option.bind_some, Bool.not_true, cond_false]
  by_cases hin : 0 ≤ i ∧ i < sizeI b k
  · have hm : MayP b k := by
      by_cases hm : MayP b k
      · exact hm
      · have := hi1 hm; omega
    have hidx : indexI b k (b + i) = i := by
      have := hi0 hm
      unfold indexI
      rw [if_pos ⟨hm, by omega, by omega⟩]; omega
    have hb := hm.2.2.1
    have hb' := hm.2.2.2.1
    have hs := szI_le hm.1
    have hi := hi0 hm
    have w : IntKind.wrap .i64 (b + i - b) = i := by rw [w64 (by omega) (by omega)]; omega
    rw [if_pos hin]
    simp only [hin.1, hin.2, decide_true, cond_true, beq_self_eq_true, Bool.not_true, cond_false, f16_eq b k (b + i), hidx, w, Option.bind_some]
    exact tail
  · rw [if_neg hin]
    by_cases h0 : 0 ≤ i
    · have : ¬ i < sizeI b k := fun h => hin ⟨h0, h⟩
      simp only [h0, this, decide_true, decide_false, cond_true, cond_false, beq_self_eq_true, Bool.not_true]
      exact tail
    · simp only [h0, decide_false, cond_false, beq_self_eq_true, Bool.not_true]
      exact tail
end Go.Proofs.Zz
