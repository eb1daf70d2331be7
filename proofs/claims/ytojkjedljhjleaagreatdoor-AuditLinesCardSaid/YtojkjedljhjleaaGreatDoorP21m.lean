/- The addresses' functions in plain words: texts of addresses and prefixes. -/
import Derived.Test.YtojkjedljhjleaaGreatDoorP21l
namespace Go.Proofs.Zz
open Go Go.Sy Go.Txt
set_option linter.unusedSimpArgs false
set_option linter.unusedVariables false

abbrev dec (k : Nat) : B := Lib.decDigits k

theorem zr_false {l : B} : zr l = false ↔ l.head? ≠ some 48 := by
  unfold zr
  cases h : l.head? with
  | none => simp
  | some a => simp

theorem numOk_iff (l : B) : numOk l = true ↔ IsNum l ∧ l.length ≤ 3 := by
  unfold numOk IsNum
  simp only [Bool.and_eq_true, Bool.or_eq_true, decide_eq_true_eq, List.all_eq_true, Bool.not_eq_true', zr_false]
  constructor
  · rintro ⟨⟨⟨h1, h2⟩, h3⟩, h4⟩
    exact ⟨⟨h1, h2, fun h => h4.resolve_left (by omega)⟩, h3⟩
  · rintro ⟨⟨h1, h2, h3⟩, h4⟩
    refine ⟨⟨⟨h1, h2⟩, h4⟩, ?_⟩
    by_cases h : l.length ≤ 1
    · exact .inl h
    · exact .inr (h3 (by omega))

/-- the number of a text, up to m -/
def numV (m : Nat) (l : B) : Option Nat := if numOk l = true ∧ val l ≤ m then some (val l) else none

theorem numF_some {m : Nat} {l : B} {v : Nat} (h : numV m l = some v) : numF l m = ((v : Int), true, ()) := by
  unfold numV at h
  split at h
  · rename_i hc
    cases h
    obtain ⟨h1, h2⟩ := hc
    unfold numOk at h1
    simp only [Bool.and_eq_true, decide_eq_true_eq] at h1
    obtain ⟨⟨⟨a, b⟩, c⟩, d⟩ := h1
    unfold numF
    rw [if_pos (by simp only [Bool.and_eq_true, decide_eq_true_eq]; exact ⟨⟨b, c⟩, d⟩)]
    have : ((val l : Nat) : Int) ≤ (m : Int) := by omega
    simp [a, this]
  · simp at h

theorem numF_none {m : Nat} {l : B} (h : numV m l = none) : (numF l m).2.1 = false := by
  unfold numV at h
  split at h
  · simp at h
  · rename_i hc
    unfold numF
    split
    · rename_i hb
      simp only [Bool.and_eq_true, decide_eq_true_eq] at hb
      obtain ⟨⟨b, c⟩, d⟩ := hb
      by_cases hn : l = []
      · simp [hn]
      · have h1 : numOk l = true := by unfold numOk; simp only [Bool.and_eq_true, decide_eq_true_eq]; exact ⟨⟨⟨hn, b⟩, c⟩, d⟩
        have : ¬ ((val l : Nat) : Int) ≤ (m : Int) := fun h2 => hc ⟨h1, by omega⟩
        simp [this]
    · rfl

theorem numV_dec {m k : Nat} (h : k ≤ m) (hm : m < 1000) : numV m (dec k) = some k := by
  unfold numV
  obtain ⟨h1, h2, _⟩ := decDigits_num k
  rw [if_pos ⟨(numOk_iff _).2 ⟨h1, dec_len.1.2 (by omega)⟩, by show val (Lib.decDigits k) ≤ m; rw [h2]; exact h⟩]
  exact congrArg some h2

theorem numV_of {m : Nat} {l : B} {v : Nat} (h : numV m l = some v) : dec v = l ∧ v ≤ m := by
  unfold numV at h
  split at h
  · rename_i hc
    cases h
    exact ⟨num_dec ((numOk_iff _).1 hc.1).1, hc.2⟩
  · simp at h

theorem fItoa_nat (n : Nat) (h : n < 9223372036854775808) : fItoa (n : Int) = some (sb (dec n), ()) := by
  unfold fItoa
  have h1 : decide (-9223372036854775808 ≤ (n : Int)) = true := decide_eq_true (by omega)
  have h2 : decide ((n : Int) ≤ 9223372036854775807) = true := decide_eq_true (by omega)
  rw [h1, h2]
  simp only [Bool.and_self, cond_true, itoaB, Lib.itoa_nonneg]; rfl

/-! ### the text of an address -/
def parts (n : Nat) : List B := [dec (n / 16777216), dec (n / 65536 % 256), dec (n / 256 % 256), dec (n % 256)]
def text4 (n : Nat) : B := Lib.join (parts n) [46]

theorem step43 (n i : Nat) (hn : n < 4294967296) (hi : i < 4) (l : List ByteArray) (hl : l.length ≤ 4) :
    u43_5 ((((n : Int), (((i : Nat) : Int), ())), ((), (l, ())))) = some (.next (((n : Int), (((i + 1 : Nat) : Int), ())), ((), (l ++ [sb (dec (n / 2 ^ (24 - 8 * i) % 256))], ())))) := by
  show t43_5 n i l = _
  unfold t43_5
  have w1 : IntKind.wrap .i64 (8 * (i : Int)) = ((8 * i : Nat) : Int) := by rw [w64 (by omega) (by omega)]; omega
  have w2 : IntKind.wrap .i64 (24 - ((8 * i : Nat) : Int)) = ((24 - 8 * i : Nat) : Int) := by rw [w64 (by omega) (by omega)]; omega
  have w3 : IntKind.wrap .i64 ((i : Int) + 1) = ((i + 1 : Nat) : Int) := by rw [w64 (by omega) (by omega)]; omega
  have hmin : min (Int.toNat ((24 - 8 * i : Nat) : Int)) 64 = 24 - 8 * i := by omega
  have hd := Nat.div_le_self n (2 ^ (24 - 8 * i))
  have e : bitop .and .i64 ((n / 2 ^ (24 - 8 * i) : Nat) : Int) 255 = ((n / 2 ^ (24 - 8 * i) % 256 : Nat) : Int) := by
    have := b_and_mask (a := n / 2 ^ (24 - 8 * i)) (m := 8) (by omega) (by omega)
    exact this
  have c1 : ((i : Int) < 4) := by omega
  have c2 : ¬ (((24 - 8 * i : Nat) : Int) < 0) := by omega
  have c3 : ((l.length + 1) * 16) ≤ 140737488355328 := by omega
  have c4 : (l.length + 1) ≤ 9223372036854775807 := by omega
  simp only [w1, w2, w3, hmin, fdiv_pow, e, c1, c2, c3, c4, decide_true, decide_false, cond_true, Bool.not_false, Bool.and_self]
  rw [fItoa_nat _ (by omega)]
  rfl

theorem out43 (n : Int) (l : List ByteArray) : u43_5 (((n, (((4 : Nat) : Int), ())), ((), (l, ())))) = some (.out ((), ((), (l, ())))) := rfl

theorem loop43 (n : Nat) (hn : n < 4294967296) : iter big u43_5 ((((n : Int), (0, ())), ((), ([], ())))) = some (.inl ((), ((), ((parts n).map sb, ())))) := by
  refine it_mono (show 5 ≤ big from Nat.le_of_ble_eq_true rfl) ?_
  refine (it_next (step43 n 0 hn (by omega) [] (by simp))).trans ?_
  refine (it_next (step43 n 1 hn (by omega) _ (by simp))).trans ?_
  refine (it_next (step43 n 2 hn (by omega) _ (by simp))).trans ?_
  refine (it_next (step43 n 3 hn (by omega) _ (by simp))).trans ?_
  refine (it_out (out43 _ _)).trans ?_
  have h0 : n / 2 ^ (24 - 8 * 0) % 256 = n / 16777216 := by
    have : n / 2 ^ (24 - 8 * 0) = n / 16777216 := rfl
    omega
  have h3 : n / 2 ^ (24 - 8 * 3) % 256 = n % 256 := by simp
  rw [h0, h3]
  rfl

theorem parts_free (n : Nat) (c : UInt8) (h : isDig c = false) : ∀ x ∈ parts n, c ∉ x := by
  intro x hx
  simp only [parts, List.mem_cons, List.not_mem_nil, or_false] at hx
  rcases hx with rfl | rfl | rfl | rfl <;> exact dec_free h _

theorem text4_eq (n : Nat) : text4 n = dec (n / 16777216) ++ 46 :: (dec (n / 65536 % 256) ++ 46 :: (dec (n / 256 % 256) ++ 46 :: dec (n % 256))) := by
  unfold text4 parts
  rw [jn_cons _ _ (by simp), jn_cons _ _ (by simp), jn_cons _ _ (by simp), Lib.join_one]

theorem text4_len (n : Nat) (h : n < 4294967296) : 7 ≤ (text4 n).length ∧ (text4 n).length ≤ 15 := by
  have dec_len : ∀ {k : Nat}, ((dec k).length ≤ 3 ↔ k < 1000) ∧ 1 ≤ (dec k).length := Txt.dec_len
  have h0 := @dec_len (n / 16777216)
  have h1 := @dec_len (n / 65536 % 256)
  have h2 := @dec_len (n / 256 % 256)
  have h3 := @dec_len (n % 256)
  have g0 := h0.1.2 (by omega)
  have g1 := h1.1.2 (by omega)
  have g2 := h2.1.2 (by omega)
  have g3 := h3.1.2 (by omega)
  rw [text4_eq]
  simp only [List.length_append, List.length_cons]
  have := h0.2; have := h1.2; have := h2.2; have := h3.2
  omega

theorem map_sb (l : List B) : (l.map sb).map (·.data.toList) = l := by
  rw [List.map_map]
  exact (List.map_congr_left fun x _ => bs_sb x).trans (List.map_id _)

theorem fJoin_sb (xs : List B) (c : UInt8) (h1 : xs.length ≤ 140737488355328) (h2 : (Lib.join xs [c]).length ≤ 140737488355328) :
    fJoin (xs.map sb) ⟨#[c]⟩ = some (sb (Lib.join xs [c]), ()) := by
  unfold fJoin
  have e : joinB (xs.map sb) ⟨#[c]⟩ = sb (Lib.join xs [c]) := by unfold joinB; rw [map_sb]; rfl
  rw [e, sb_size, List.length_map, Nat.ble_eq_true_of_le h1, Nat.ble_eq_true_of_le h2]; rfl

def textI (a : Int) : B := if 0 ≤ a ∧ a < 4294967296 then text4 a.toNat else []

theorem f43_eq (a : Int) : f43 a = some (sb (textI a), ()) := by
  unfold f43 textI
  by_cases h0 : a < 0
  · rw [decide_eq_true h0, if_neg (by omega)]; rfl
  by_cases h1 : 4294967296 ≤ a
  · rw [decide_eq_false h0, decide_eq_true h1, if_neg (by omega)]; rfl
  obtain ⟨n, rfl⟩ : ∃ n : Nat, a = n := ⟨a.toNat, by omega⟩
  rw [decide_eq_false h0, decide_eq_false h1, if_pos (by omega)]
  simp only [cond_false]
  rw [loop43 n (by omega)]
  simp only [Option.bind_some]
  have := text4_len n (by omega)
  rw [show (⟨#[46]⟩ : ByteArray) = ⟨#[46]⟩ from rfl, fJoin_sb (parts n) 46 (by simp [parts]) (by unfold text4 at this; omega)]
  rfl

/-! ### reading an address -/
def addrL : List B → Nat → Option Nat
  | [], a => some a
  | x :: r, a => match numV 255 x with
    | some v => addrL r (a * 256 + v)
    | none => none

def addrO (l : B) : Option Nat := if (spl 46 l).length = 4 then addrL (spl 46 l) 0 else none

def outA (o : Option Nat) : Int × Bool × Unit := match o with
  | some a => ((a : Int), true, ())
  | none => (0, false, ())

theorem loop45 (l : List ByteArray) (h4 : l.length = 4) : ∀ (r : List B) (i a fuel : Nat), (l.map bs).drop i = r → i + r.length = 4 → a < 256 ^ i → r.length < fuel →
    iter fuel u45_6 (((a : Int), (((4 : Nat) : Int), (((i : Nat) : Int), ()))), ((), (l, ()))) = some (match addrL r a with
      | some a => .inl (((a : Int), ()), ((), ()))
      | none => .inr ((0, (false, ())), ((), ())))
  | r, i, a, 0, _, _, _, h => by omega
  | [], i, a, fuel + 1, hr, hi, ha, hf => by
    refine it_out ?_
    show t45_6 a (4 : Nat) i l = _
    unfold t45_6
    have : ¬ ((i : Nat) : Int) < ((4 : Nat) : Int) := by simp at hi; omega
    rw [decide_eq_false this]; rfl
  | x :: r, i, a, fuel + 1, hr, hi, ha, hf => by
    simp only [List.length_cons] at hi hf
    have hlt : i < (l.map bs).length := by rw [List.length_map]; omega
    rw [List.drop_eq_getElem_cons hlt] at hr
    obtain ⟨hx, hr'⟩ := List.cons.inj hr
    have hil : i < l.length := by omega
    have hx' : bs (rd .str l i) = x := by
      rw [← hx, List.getElem_map]
      have : (l.getD i Ty.str.dflt) = l[i] := by simp [List.getD, List.getElem?_eq_getElem hil]
      show bs (l.getD i Ty.str.dflt) = _
      rw [this]
    have c1 : ((i : Nat) : Int) < ((4 : Nat) : Int) := by omega
    have c2 : (0 : Int) ≤ ((i : Nat) : Int) := by omega
    have c3 : ((i : Nat) : Int) < ((l.length : Nat) : Int) := by omega
    simp only [addrL]
    cases hv : numV 255 x with
    | none =>
      refine it_ret ?_
      show t45_6 a (4 : Nat) i l = _
      unfold t45_6
      have := numF_none hv
      simp only [c1, c2, c3, decide_true, cond_true, Bool.and_self, Int.toNat_natCast, hil, f84_eq, hx', Option.bind_some]
      rw [show ((255 : Nat) : Int) = 255 from rfl] at this
      rw [this]; rfl
    | some v =>
      have hvle := (numV_of hv).2
      have hpow : 256 ^ (i + 1) = 256 ^ i * 256 := Nat.pow_succ ..
      have hi4 : 256 ^ (i + 1) ≤ 256 ^ 4 := Nat.pow_le_pow_right (by omega) (by omega)
      have hb : a * 256 + v < 256 ^ (i + 1) := by rw [hpow]; omega
      have ih := loop45 l h4 r (i + 1) (a * 256 + v) fuel hr' (by omega) hb (by omega)
      simp only
      rw [← ih]
      refine it_next ?_
      show t45_6 a (4 : Nat) i l = _
      unfold t45_6
      have hn := numF_some hv
      rw [show ((255 : Nat) : Int) = 255 from rfl] at hn
      have w1 : IntKind.wrap .i64 ((a : Int) * 256) = ((a * 256 : Nat) : Int) := by rw [w64 (by omega) (by omega)]; omega
      have w2 : IntKind.wrap .i64 ((i : Int) + 1) = ((i + 1 : Nat) : Int) := by rw [w64 (by omega) (by omega)]; omega
      have q0 : a * 256 + v < 4294967296 := Nat.lt_of_lt_of_le hb hi4
      have q1 : a * 256 < 4294967296 := Nat.lt_of_le_of_lt (Nat.le_add_right _ _) q0
      have e : bitop .or .i64 ((a * 256 : Nat) : Int) (v : Int) = ((a * 256 + v : Nat) : Int) :=
        b_or_add (m := 8) (Nat.lt_of_lt_of_le q1 (by decide)) (Nat.mul_mod_left a 256) (Nat.lt_of_le_of_lt hvle (by decide)) (by decide)
      simp only [c1, c2, c3, decide_true, cond_true, Bool.and_self, Int.toNat_natCast, hil, f84_eq, hx', Option.bind_some, hn, Bool.not_true, cond_false, w1, w2, e]

theorem split_bs (s : ByteArray) (c : UInt8) : (splitL s ⟨#[c]⟩).map bs = spl c (bs s) := by
  unfold splitL
  have := Lib.splitB_data ⟨#[c]⟩ 0 (Lib.countB s ⟨#[c]⟩) s
  refine this.trans ?_
  exact splitK_all c _ _ (Nat.le_refl _)

theorem f45_eq (s : ByteArray) (h : s.size < 4294967281) : f45 s = some (outA (addrO (bs s))) := by
  unfold f45 fSplit
  rw [ltN_true h, show Nat.ble 1 (⟨#[46]⟩ : ByteArray).size = true from rfl]
  simp only [Bool.and_self, cond_true, Option.bind_some]
  have hs := split_bs s 46
  have hlen : (splitL s ⟨#[46]⟩).length = (spl 46 (bs s)).length := by rw [← hs, List.length_map]
  unfold addrO
  by_cases h4 : (spl 46 (bs s)).length = 4
  · have h4' : (splitL s ⟨#[46]⟩).length = 4 := hlen.trans h4
    rw [if_pos h4, h4', show (!(decide (((4 : Nat) : Int) = 4))) = false from rfl]
    simp only [cond_false]
    have := loop45 (splitL s ⟨#[46]⟩) h4' (spl 46 (bs s)) 0 0 5 (by rw [hs]; rfl) (by omega) (by decide) (by omega)
    rw [show (((0 : Nat) : Int)) = 0 from rfl] at this
    rw [it_mono (show 5 ≤ big from Nat.le_of_ble_eq_true rfl) this]
    cases addrL (spl 46 (bs s)) 0 <;> rfl
  · have : ¬ (((splitL s ⟨#[46]⟩).length : Nat) : Int) = 4 := by omega
    rw [if_neg h4, decide_eq_false this]; rfl

/-- what is told is read as it -/
theorem addr_text (n : Nat) (h : n < 4294967296) : addrO (text4 n) = some n := by
  unfold addrO text4
  rw [spl_jn (by simp [parts]) (parts_free n 46 (by decide)), if_pos (by simp [parts])]
  simp only [parts, addrL]
  rw [numV_dec (show n / 16777216 ≤ 255 by omega) (by omega), numV_dec (show n / 65536 % 256 ≤ 255 by omega) (by omega), numV_dec (show n / 256 % 256 ≤ 255 by omega) (by omega), numV_dec (show n % 256 ≤ 255 by omega) (by omega)]
  simp only
  congr 1
  omega

/-- what is read is told as the same text -/
theorem text_addr {l : B} {a : Nat} (h : addrO l = some a) : a < 4294967296 ∧ text4 a = l := by
  unfold addrO at h
  split at h
  case isFalse => simp at h
  rename_i h4
  match hs : spl 46 l, h4 with
  | [p, q, r, t], _ =>
    rw [hs] at h
    simp only [addrL] at h
    cases h0 : numV 255 p with
    | none => rw [h0] at h; simp at h
    | some v0 =>
    cases h1 : numV 255 q with
    | none => rw [h0, h1] at h; simp at h
    | some v1 =>
    cases h2 : numV 255 r with
    | none => rw [h0, h1, h2] at h; simp at h
    | some v2 =>
    cases h3 : numV 255 t with
    | none => rw [h0, h1, h2, h3] at h; simp at h
    | some v3 =>
      rw [h0, h1, h2, h3] at h
      simp only [Option.some.injEq] at h
      obtain ⟨e0, b0⟩ := numV_of h0
      obtain ⟨e1, b1⟩ := numV_of h1
      obtain ⟨e2, b2⟩ := numV_of h2
      obtain ⟨e3, b3⟩ := numV_of h3
      have ha : a = ((v0 * 256 + v1) * 256 + v2) * 256 + v3 := by omega
      refine ⟨by omega, ?_⟩
      have k0 : a / 16777216 = v0 := by omega
      have k1 : a / 65536 % 256 = v1 := by omega
      have k2 : a / 256 % 256 = v2 := by omega
      have k3 : a % 256 = v3 := by omega
      unfold text4 parts
      rw [k0, k1, k2, k3, e0, e1, e2, e3, ← hs, jn_spl]
end Go.Proofs.Zz
