/- The document's answer of chapter 07 in plain words, and AddrTells. -/
import Derived.Test.YtibhegeedppkpaaDoorP07e
namespace Go.Proofs.Zz
open Go Go.Sy Go.Txt
set_option linter.unusedSimpArgs false
set_option linter.unusedVariables false

/-! ### powers -/
theorem loop35 (n : Nat) (hn : n ≤ 32) : ∀ (d i fuel : Nat), i + d = n → d < fuel →
    iter fuel u35_3 (((n : Int), (((2 ^ i : Nat) : Int), ((i : Int), ()))), ((), ())) = some (.inl ((((2 ^ n : Nat) : Int), ()), ((), ())))
  | d, i, 0, _, h => by omega
  | 0, i, fuel + 1, hi, hf => by
    refine it_out ?_
    show t35_3 n _ i = _
    unfold t35_3
    rw [decide_eq_false (by omega), show i = n by omega]; rfl
  | d + 1, i, fuel + 1, hi, hf => by
    have ih := loop35 n hn d (i + 1) fuel (by omega) (by omega)
    rw [← ih]
    refine it_next ?_
    show t35_3 n _ i = _
    unfold t35_3
    have hp : 2 ^ (i + 1) ≤ 2 ^ 32 := Nat.pow_le_pow_right (by omega) (by omega)
    have hp2 : 2 ^ (i + 1) = 2 ^ i * 2 := Nat.pow_succ ..
    have w1 : IntKind.wrap .i64 (2 * ((2 ^ i : Nat) : Int)) = ((2 ^ (i + 1) : Nat) : Int) := by rw [w64 (by omega) (by omega)]; omega
    have w2 : IntKind.wrap .i64 ((i : Int) + 1) = ((i + 1 : Nat) : Int) := by rw [w64 (by omega) (by omega)]; omega
    rw [decide_eq_true (by omega), w1, w2]; rfl

theorem f35_eq (k : Int) (h0 : 0 ≤ k) (h1 : k ≤ 32) : f35 (IntKind.wrap .i64 (32 - k)) = some (szI k, ()) := by
  obtain ⟨n, hn⟩ : ∃ n : Nat, 32 - k = n := ⟨(32 - k).toNat, by omega⟩
  rw [w64 (by omega) (by omega), hn]
  unfold f35
  have := loop35 n (by omega) n 0 33 (by omega) (by omega)
  rw [show ((2 ^ 0 : Nat) : Int) = 1 from rfl, show ((0 : Nat) : Int) = 0 from rfl] at this
  rw [it_mono (show 33 ≤ big from Nat.le_of_ble_eq_true rfl) this]
  unfold szI
  rw [hn]; rfl

theorem f23_eq (b k : Int) : f23 b k = some (decide (MayP b k), ()) := by
  unfold f23
  by_cases h1 : 0 ≤ k
  case neg => simp [h1, MayP]
  by_cases h2 : k ≤ 32
  case neg => simp [h1, h2, MayP]
  by_cases h3 : 0 ≤ b
  case neg => simp [h1, h2, h3, MayP]
  by_cases h4 : b < 4294967296
  case neg => simp [h1, h2, h3, h4, MayP]
  have := szI_pos k
  have hz : ¬ szI k = 0 := by omega
  rw [f35_eq k h1 h2]
  simp only [h1, h2, h3, h4, hz, decide_true, decide_false, cond_true, Bool.not_false, Option.bind_some, MayP, true_and, Int.tmod_eq_emod_of_nonneg h3]

theorem f25_eq (b k : Int) : f25 b k = some (sizeI b k, ()) := by
  unfold f25 sizeI
  rw [f23_eq]
  by_cases h : MayP b k
  · simp only [h, decide_true, Option.bind_some, Bool.not_true, cond_false, f35_eq k h.1 h.2.1, if_true]
  · simp only [h, decide_false, Option.bind_some, Bool.not_false, cond_true, if_false]

theorem f20_eq (b k i : Int) (hb : MayP b k → 0 ≤ b) : f20 b k i = f19 b k i := by
  unfold f20
  rw [f19_eq, f25_eq]
  by_cases h0 : i < 0
  · have : ¬ (0 ≤ i ∧ i < sizeI b k) := by omega
    simp [h0, this]
  by_cases h1 : sizeI b k ≤ i
  · have : ¬ (0 ≤ i ∧ i < sizeI b k) := by omega
    simp [h0, h1, this]
  have hlt : 0 ≤ i ∧ i < sizeI b k := by omega
  have hm : MayP b k := by
    by_cases hm : MayP b k
    · exact hm
    · unfold sizeI at h1; rw [if_neg hm] at h1; omega
  have hsz : sizeI b k = szI k := by unfold sizeI; rw [if_pos hm]
  have := may_room hm
  have := hb hm
  rw [w64 (by omega) (by omega), if_pos hlt, decide_eq_false h0]
  simp only [cond_false, Option.bind_some]
  rw [decide_eq_false h1]; rfl

theorem f26_eq (b k a : Int) : f26 b k a = f16 b k a := by
  unfold f26
  rw [f16_eq, f23_eq, f25_eq]
  unfold indexI sizeI
  by_cases hm : MayP b k
  case neg => simp [hm]
  have hr := may_room hm
  have hp := szI_pos k
  have hb := hm.2.2.1
  simp only [Option.bind_some, if_pos hm]
  rw [w64 (x := b + _) (by omega) (by omega)]
  by_cases h1 : a < b
  · have : ¬ (b ≤ a) := by omega
    simp [hm, h1, this]
  by_cases h2 : b + szI k ≤ a
  · have : ¬ (a < b + szI k) := by omega
    simp [hm, h1, h2, this]
  have h3 : b ≤ a := by omega
  have h4 : a < b + szI k := by omega
  simp only [hm, h1, h2, h3, h4, decide_true, decide_false, Option.bind_some, Bool.not_true, cond_false, if_true, and_self]
  rw [w64 (by omega) (by omega)]

theorem f24_eq (b k b' k' : Int) : f24 b k b' k' = f17 b k b' k' := by
  unfold f24
  rw [f17_eq, f23_eq, f23_eq, f26_eq, f26_eq, f16_eq, f16_eq]
  unfold MeetP
  have e1 := index_nonneg b k b'
  have e2 := index_nonneg b' k' b
  by_cases h1 : MayP b k
  case neg => simp [h1]
  by_cases h2 : MayP b' k'
  case neg => simp [h1, h2]
  simp only [h1, h2, true_and] at e1 e2
  simp only [h1, h2, decide_true, Option.bind_some, cond_true, e1, e2, true_and]
  by_cases h3 : b ≤ b' ∧ b' < b + szI k
  · simp [h3]
  · simp only [h3, decide_false, cond_false, false_or]

/-! ### digits -/
theorem bytes1 (n : Nat) (h : n < 10) : bytesStr [(IntKind.wrap .u8 (IntKind.wrap .i64 (48 + (n : Int))))] = sb [UInt8.ofNat (48 + n)] := by
  rw [w64 (by omega) (by omega), w8 (by omega) (by omega)]
  unfold bytesStr sb
  congr 2

theorem tdiv_nat (n m : Nat) : Int.tdiv (n : Int) (m : Int) = ((n / m : Nat) : Int) := by rw [Int.tdiv_eq_ediv_of_nonneg (by omega)]; rfl
theorem tmod_nat (n m : Nat) : Int.tmod (n : Int) (m : Int) = ((n % m : Nat) : Int) := by rw [Int.tmod_eq_emod_of_nonneg (by omega)]; rfl

theorem loop36 (n : Nat) : ∀ (t : B) (fuel : Nat), n < 1000 → t.length + Lib.nDigits n ≤ 13 → n < fuel →
    ∃ (d : Nat) (u : B), d < 10 ∧ u.length ≤ 13 ∧ dec n ++ t = UInt8.ofNat (48 + d) :: u ∧
      iter fuel u36_2 (((n : Int), (sb t, ())), ((), ())) = some (.inl (((d : Int), (sb u, ())), ((), ()))) := by
  induction n using Nat.strongRecOn with
  | _ n ih =>
    intro t fuel hn ht hf
    obtain ⟨fuel, rfl⟩ : ∃ f, fuel = f + 1 := ⟨fuel - 1, by omega⟩
    by_cases h : n < 10
    · refine ⟨n, t, h, by omega, by show Lib.decDigits n ++ t = _; rw [Lib.decDigits, dif_pos h]; rfl, it_out ?_⟩
      show t36_2 n (sb t) = _
      unfold t36_2
      rw [decide_eq_false (by omega)]; rfl
    · have hd : Lib.nDigits n = Lib.nDigits (n / 10) + 1 := Lib.nDigits_big h
      obtain ⟨d, u, h1, h2, h3, h4⟩ := ih (n / 10) (by omega) (UInt8.ofNat (48 + n % 10) :: t) fuel (by omega) (by simp only [List.length_cons]; omega) (by omega)
      refine ⟨d, u, h1, h2, ?_, ?_⟩
      · show Lib.decDigits n ++ t = _
        rw [Lib.decDigits, dif_neg h, List.append_assoc]; exact h3
      · rw [← h4]
        refine it_next ?_
        show t36_2 n (sb t) = _
        unfold t36_2
        have m : Int.tmod (n : Int) 10 = ((n % 10 : Nat) : Int) := tmod_nat n 10
        have q : Int.tdiv (n : Int) 10 = ((n / 10 : Nat) : Int) := tdiv_nat n 10
        rw [m, q, bytes1 _ (by omega), sb_app, sb_size, sb_size, decide_eq_true (by omega), decide_eq_false (by simp only [List.length_singleton]; omega), w64 (x := ((n / 10 : Nat) : Int)) (by omega) (by omega)]
        rfl

theorem f36_eq (n : Nat) (h : n < 1000) : f36 (n : Int) = some (sb (dec n), ()) := by
  unfold f36
  have hl : Lib.nDigits n ≤ 3 := by
    have := (@dec_len n).1.2 h
    rwa [Lib.decDigits_length] at this
  obtain ⟨d, u, h1, h2, h3, h4⟩ := loop36 n [] 1000 h (by simp; omega) h
  rw [show (⟨#[]⟩ : ByteArray) = sb [] from rfl, it_mono (show 1000 ≤ big from Nat.le_of_ble_eq_true rfl) h4]
  simp only [Option.bind_some, bytes1 d h1, sb_app, sb_size, List.cons_append, List.nil_append, ← h3, List.append_nil]
  rw [decide_eq_false (by simp only [List.length_singleton]; omega)]
  rfl

theorem f27_eq (a : Int) : f27 a = some (sb (textI a), ()) := by
  unfold f27 textI
  by_cases h0 : a < 0
  · rw [decide_eq_true h0, if_neg (by omega)]; rfl
  by_cases h1 : 4294967296 ≤ a
  · rw [decide_eq_false h0, decide_eq_true h1, if_neg (by omega)]; rfl
  obtain ⟨n, rfl⟩ : ∃ n : Nat, a = n := ⟨a.toNat, by omega⟩
  rw [decide_eq_false h0, decide_eq_false h1, if_pos (by omega)]
  have t1 : Int.tdiv (n : Int) 16777216 = ((n / 16777216 : Nat) : Int) := tdiv_nat n 16777216
  have t2 : Int.tdiv (n : Int) 65536 = ((n / 65536 : Nat) : Int) := tdiv_nat n 65536
  have t3 : Int.tdiv (n : Int) 256 = ((n / 256 : Nat) : Int) := tdiv_nat n 256
  have m2 : Int.tmod ((n / 65536 : Nat) : Int) 256 = ((n / 65536 % 256 : Nat) : Int) := tmod_nat _ 256
  have m3 : Int.tmod ((n / 256 : Nat) : Int) 256 = ((n / 256 % 256 : Nat) : Int) := tmod_nat _ 256
  have m4 : Int.tmod (n : Int) 256 = ((n % 256 : Nat) : Int) := tmod_nat _ 256
  have dl : ∀ k, k < 1000 → (dec k).length ≤ 3 := fun k hk => dec_len.1.2 hk
  have l1 := dl (n / 16777216) (by omega)
  have l2 := dl (n / 65536 % 256) (by omega)
  have l3 := dl (n / 256 % 256) (by omega)
  have l4 := dl (n % 256) (by omega)
  have s46 : (⟨#[46]⟩ : ByteArray) = sb [46] := rfl
  simp only [cond_false]
  rw [t1, t2, t3, w64 (x := ((n / 16777216 : Nat) : Int)) (by omega) (by omega), w64 (x := ((n / 65536 : Nat) : Int)) (by omega) (by omega), w64 (x := ((n / 256 : Nat) : Int)) (by omega) (by omega), m2, m3, m4,
    f36_eq _ (by omega), f36_eq _ (by omega), f36_eq _ (by omega), f36_eq _ (by omega)]
  simp only [Option.bind_some, s46, sb_app, sb_size, List.length_append, List.length_singleton]
  rw [decide_eq_false (by omega), decide_eq_false (by omega), decide_eq_false (by omega), decide_eq_false (by omega), decide_eq_false (by omega), decide_eq_false (by omega)]
  simp only [Bool.not_false, cond_true, Int.toNat_natCast, text4_eq]
  simp

theorem f28_eq (b k : Int) : f28 b k = some (sb (textP b k), ()) := by
  unfold f28 textP
  rw [f23_eq]
  by_cases h : MayP b k
  case neg => simp only [h, decide_false, Option.bind_some, Bool.not_false, cond_true, if_false]; rfl
  obtain ⟨n, j, rfl, rfl, hn, hj⟩ := may_nat h
  have ht : textI (n : Int) = text4 n := by unfold textI; rw [if_pos (by omega)]; rfl
  have hl := text4_len n hn
  have hd : (dec j).length ≤ 3 := dec_len.1.2 (by omega)
  simp only [h, decide_true, Option.bind_some, Bool.not_true, cond_false, f27_eq, ht, if_true]
  rw [decide_eq_false (by rw [sb_size]; omega), f36_eq _ (by omega)]
  simp only [Bool.not_false, cond_true, Option.bind_some, sb47, sb_app, sb_size, List.length_append, List.length_singleton]
  rw [decide_eq_false (by omega)]
  simp

/-! ### the numbers of a text -/
def nstep (st : List Int × Int) (b : UInt8) : List Int × Int :=
  if isDig b = true then (st.1, if st.2 < 1000 then 10 * st.2 + dval b else st.2) else (st.1 ++ [st.2], 0)
def nums (l : B) : List Int × Int := l.foldl nstep ([], 0)

def NOK (st : List Int × Int) : Prop := (0 ≤ st.2 ∧ st.2 < 10000) ∧ ∀ x ∈ st.1, 0 ≤ x ∧ x < 10000
theorem nstep_ok {st : List Int × Int} (h : NOK st) (b : UInt8) : NOK (nstep st b) := by
  unfold nstep
  split
  · rename_i hb
    have := isDig_iff.1 hb
    refine ⟨?_, h.2⟩
    simp only
    have := h.1
    split
    · unfold dval; omega
    · exact h.1
  · refine ⟨by simp, fun x hx => ?_⟩
    rcases List.mem_append.1 hx with hx | hx
    · exact h.2 x hx
    · rw [List.mem_singleton.1 hx]; exact h.1

theorem nums_ok (l : B) : NOK (nums l) := by
  have : ∀ (l : B) (st : List Int × Int), NOK st → NOK (l.foldl nstep st) := by
    intro l
    induction l with
    | nil => intro st h; exact h
    | cons b l ih => intro st h; exact ih _ (nstep_ok h b)
  exact this l _ ⟨by simp, by simp⟩

theorem nstep_len (st : List Int × Int) (b : UInt8) : (nstep st b).1.length ≤ st.1.length + 1 := by
  unfold nstep
  split <;> simp

theorem rd_last (p : List Int) (n : Int) : rd (.int .i64) (p ++ [n]) p.length = n := by
  show (p ++ [n]).getD p.length _ = n
  simp

theorem set_last (p : List Int) (n m : Int) : (p ++ [n]).set p.length m = p ++ [m] := by simp

theorem loop34 (s : ByteArray) (hs : s.size ≤ 60) : ∀ (r : B) (i fuel : Nat) (st : List Int × Int), (bs s).drop i = r → i ≤ s.size → NOK st → st.1.length ≤ i → r.length < fuel →
    iter fuel u34_3 ((s, ((i : Int), ())), ((), (st.1 ++ [st.2], ()))) = some (.inl ((), ((), ((r.foldl nstep st).1 ++ [(r.foldl nstep st).2], ()))))
  | r, i, 0, _, _, _, _, _, h => by omega
  | [], i, fuel + 1, st, hr, hi, hn, hl, hf => by
    refine it_out ?_
    show t34_3 s i (st.1 ++ [st.2]) = _
    have := List.drop_eq_nil_iff.1 hr
    rw [bs_len] at this
    unfold t34_3
    rw [decide_eq_false (by omega)]; rfl
  | b :: r, i, fuel + 1, st, hr, hi, hn, hl, hf => by
    obtain ⟨h1, h2, h3⟩ := get_at hr
    simp only [List.length_cons] at hf
    have hb := bt_at hr
    have hl' := nstep_len st b
    have ih := loop34 s hs r (i + 1) fuel (nstep st b) h3 (by omega) (nstep_ok hn b) (by omega) (by omega)
    rw [List.foldl_cons, ← ih]
    refine it_next ?_
    show t34_3 s i (st.1 ++ [st.2]) = _
    have c1 : ((i : Nat) : Int) < ((s.size : Nat) : Int) := by omega
    have c2 : (0 : Int) ≤ ((i : Nat) : Int) := by omega
    have w1 : IntKind.wrap .i64 ((i : Int) + 1) = ((i + 1 : Nat) : Int) := by rw [w64 (by omega) (by omega)]; omega
    have hlen : (st.1 ++ [st.2]).length = st.1.length + 1 := by simp
    have w2 : IntKind.wrap .i64 (((st.1.length + 1 : Nat) : Int) - 1) = ((st.1.length : Nat) : Int) := by rw [w64 (by omega) (by omega)]; omega
    have c3 : ((st.1.length : Nat) : Int) < ((st.1.length + 1 : Nat) : Int) := by omega
    have c4 : (0 : Int) ≤ ((st.1.length : Nat) : Int) := by omega
    have c5 : st.1.length < st.1.length + 1 := by omega
    have c6 : ((st.1.length + 1 + 1) * 8) ≤ 140737488355328 := by omega
    have c7 : (st.1.length + 1 + 1) ≤ 9223372036854775807 := by omega
    unfold t34_3 nstep
    by_cases hd : isDig b = true
    · have hbb := isDig_iff.1 hd
      have d1 : 48 ≤ bt s i := by omega
      have d2 : bt s i ≤ 57 := by omega
      rw [if_pos hd]
      simp only [hlen, w1, w2, c1, c2, c3, c4, c5, d1, d2, decide_true, Bool.and_self, cond_true, Int.toNat_natCast, rd_last, set_last]
      by_cases hk : st.2 < 1000
      · have h0 := hn.1.1
        have e : IntKind.wrap .i64 ((IntKind.wrap .i64 (10 * st.2)) + (IntKind.wrap .i64 (IntKind.wrap .u8 ((bt s i) - 48)))) = 10 * st.2 + dval b := by
          rw [hb, w8 (by omega) (by omega), w64 (x := 10 * st.2) (by omega) (by omega), w64 (x := (b.toNat : Int) - 48) (by omega) (by omega), w64 (by omega) (by omega)]
          unfold dval; omega
        simp only [hk, decide_true, cond_true, if_true, e]
      · simp only [hk, decide_false, cond_false, if_false]
    · rw [if_neg hd]
      have hnd : ¬ (48 ≤ b.toNat ∧ b.toNat ≤ 57) := fun h => hd (isDig_iff.2 h)
      by_cases d1 : 48 ≤ bt s i
      · have d2 : ¬ bt s i ≤ 57 := by omega
        simp only [hlen, w1, c1, c2, c6, c7, d1, d2, decide_true, decide_false, Bool.and_self, cond_true, cond_false]
      · simp only [hlen, w1, c1, c2, c6, c7, d1, decide_true, decide_false, Bool.and_self, cond_true, cond_false]

theorem f34_eq (s : ByteArray) (hs : s.size ≤ 60) : f34 s = some ((nums (bs s)).1 ++ [(nums (bs s)).2], ()) := by
  unfold f34
  have := loop34 s hs (bs s) 0 61 ([], 0) rfl (by omega) ⟨by simp, by simp⟩ (by simp) (by rw [bs_len]; omega)
  rw [show ((0 : Nat) : Int) = 0 from rfl] at this
  simp only [List.nil_append] at this
  rw [it_mono (show 61 ≤ big from Nat.le_of_ble_eq_true rfl) this]
  rfl

theorem fold_dec (p : List Int) : ∀ (l : B), (∀ b ∈ l, isDig b = true) → val l < 1000 → l.foldl nstep (p, 0) = (p, ((val l : Nat) : Int)) := by
  intro l
  induction l using snocRec with
  | nil => intro _ _; rfl
  | snoc l b ih =>
    intro h1 h2
    rw [val_snoc] at h2
    have hb := h1 b (by simp)
    rw [List.foldl_append, ih (fun c hc => h1 c (by simp [hc])) (by omega), List.foldl_cons, List.foldl_nil, val_snoc]
    unfold nstep
    rw [if_pos hb]
    simp only
    rw [if_pos (by omega)]
    congr 1

theorem nums_dec (p : List Int) (k : Nat) (h : k < 1000) : (dec k).foldl nstep (p, 0) = (p, (k : Int)) := by
  obtain ⟨h1, h2, _⟩ := decDigits_num k
  have e : val (dec k) = k := h2
  rw [fold_dec p _ h1.2.1 (by rw [e]; exact h), e]

theorem nums_text4 (n : Nat) (h : n < 4294967296) : nums (text4 n) = ([((n / 16777216 : Nat) : Int), ((n / 65536 % 256 : Nat) : Int), ((n / 256 % 256 : Nat) : Int)], ((n % 256 : Nat) : Int)) := by
  unfold nums
  have e46 : ∀ (p : List Int) (x : Int), nstep (p, x) 46 = (p ++ [x], 0) := fun p x => by unfold nstep; rw [if_neg (by decide)]
  rw [text4_eq, List.foldl_append, List.foldl_cons, List.foldl_append, List.foldl_cons, List.foldl_append, List.foldl_cons, nums_dec _ _ (by omega), e46, nums_dec _ _ (by omega), e46, nums_dec _ _ (by omega), e46, nums_dec _ _ (by omega)]
  rfl

theorem nums_textP (n k : Nat) (h : n < 4294967296) (hk : k ≤ 32) : nums (text4 n ++ 47 :: dec k) = ([((n / 16777216 : Nat) : Int), ((n / 65536 % 256 : Nat) : Int), ((n / 256 % 256 : Nat) : Int), ((n % 256 : Nat) : Int)], (k : Int)) := by
  have e47 : ∀ (p : List Int) (x : Int), nstep (p, x) 47 = (p ++ [x], 0) := fun p x => by unfold nstep; rw [if_neg (by decide)]
  have h4 := nums_text4 n h
  unfold nums at h4 ⊢
  rw [List.foldl_append, h4, List.foldl_cons, e47, nums_dec _ _ (by omega)]
  rfl
end Go.Proofs.Zz
