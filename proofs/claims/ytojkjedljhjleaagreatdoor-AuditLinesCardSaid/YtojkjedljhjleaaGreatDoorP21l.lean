/- The addresses' functions in plain words: texts. -/
import Derived.Test.YtojkjedljhjleaaGreatDoorP21k
import Derived.Test.YtojkjedljhjleaaGreatDoorTxt
namespace Go.Proofs.Zz
open Go Go.Sy Go.Txt
set_option linter.unusedSimpArgs false
set_option linter.unusedVariables false

def bs (s : ByteArray) : B := s.data.toList
def sb (l : B) : ByteArray := ⟨l.toArray⟩
theorem bs_sb (l : B) : bs (sb l) = l := by simp [bs, sb]
theorem sb_bs (s : ByteArray) : sb (bs s) = s := by simp [bs, sb]
theorem bs_inj {s t : ByteArray} (h : bs s = bs t) : s = t := by rw [← sb_bs s, h, sb_bs]
theorem bs_len (s : ByteArray) : (bs s).length = s.size := by unfold bs; rw [Array.length_toList]; rfl
theorem sb_size (l : B) : (sb l).size = l.length := by simp [sb, ByteArray.size]

theorem str_eq (s t : ByteArray) : (s.toList == t.toList) = decide (bs s = bs t) := by
  rw [ByteArray.toList_eq, ByteArray.toList_eq, Bool.eq_iff_iff, beq_iff_eq, decide_eq_true_eq]; rfl

/-! ### what a byte decodes to -/
theorem get_at {s : ByteArray} {i : Nat} {b : UInt8} {r : B} (h : (bs s).drop i = b :: r) : i < s.size ∧ s.get! i = b ∧ (bs s).drop (i + 1) = r := by
  have hi : i < (bs s).length := by
    rcases Nat.lt_or_ge i (bs s).length with h' | h'
    · exact h'
    · rw [List.drop_eq_nil_of_le h'] at h; simp at h
  rw [List.drop_eq_getElem_cons hi] at h
  cases h
  rw [bs_len] at hi
  refine ⟨hi, ?_, rfl⟩
  have hd : i < s.data.size := hi
  show s.data[i]! = s.data.toList[i]
  rw [getElem!_pos s.data i hd, Array.getElem_toList]

theorem decode_low {s : ByteArray} {i : Nat} {b : UInt8} {r : B} (h : (bs s).drop i = b :: r) (hb : b.toNat < 128) : Utf8.decode s i = (b.toNat, 1) := by
  obtain ⟨_, h2, _⟩ := get_at h
  simp [Utf8.decode, h2, hb]

theorem decode_high {s : ByteArray} {i : Nat} {b : UInt8} {r : B} (h : (bs s).drop i = b :: r) (hb : ¬ b.toNat < 128) : 128 ≤ (Utf8.decode s i).1 := by
  obtain ⟨_, h2, _⟩ := get_at h
  have h3 : ¬ b.toNat < 0x80 := hb
  have hr : 128 ≤ Utf8.runeError := by decide
  simp only [Utf8.decode, Nat.add_zero, h2, h3, if_false]
  repeat' split
  all_goals first | exact hr | (simp only [Bool.and_eq_true, decide_eq_true_eq] at *; omega)

/-! ### numbers -/
/-- what the loop makes of what is left, behind i bytes; z: did it begin with a zero -/
def goN (z : Bool) : Nat → Int → B → Option Int
  | _, n, [] => some n
  | i, n, b :: l => if isDig b = true ∧ i < 3 ∧ ¬ (0 < i ∧ z = true) then goN z (i + 1) (10 * n + dval b) l else none

def zr (l : B) : Bool := l.head? == some 48

theorem bt_zero {s : ByteArray} (h : 0 < s.size) : decide (bt s 0 = 48) = zr (bs s) := by
  obtain ⟨⟨l⟩⟩ := s
  cases l with
  | nil => simp [ByteArray.size] at h
  | cons b l =>
    have : bt ⟨⟨b :: l⟩⟩ 0 = (b.toNat : Int) := by
      unfold bt
      rw [dif_pos (by exact h)]; rfl
    rw [this]
    simp only [zr, bs, List.head?_cons]
    rw [Bool.eq_iff_iff]
    simp only [decide_eq_true_eq, beq_iff_eq, Option.some.injEq]
    constructor
    · intro h; exact UInt8.toNat_inj.1 (by rw [show (48 : UInt8).toNat = 48 from rfl]; omega)
    · intro h; rw [h]; rfl

theorem f98_eq (b : Int) : f98 b = some (decide (48 ≤ b ∧ b ≤ 57), ()) := by
  unfold f98
  by_cases h : 48 ≤ b <;> simp [h]

theorem loop84 (s : ByteArray) (m : Int) : ∀ (l : B) (i : Nat) (n : Int) (fuel : Nat), (bs s).drop i = l → i ≤ 3 → 4 - i ≤ fuel → 0 ≤ n → n < 10 ^ i →
    iter fuel u84_3 ((s, (m, (n, ((), ())))), (((s, i), ()), ())) = some (match goN (zr (bs s)) i n l with
      | some k => .inl ((s, (m, (k, ()))), ((), ()))
      | none => .inr ((0, (false, ())), ((), ())))
  | [], i, n, 0, _, _, hf, _, _ => by omega
  | [], i, n, fuel + 1, hl, hi, hf, h0, h1 => by
    have hs : ¬ i < s.size := by
      have := List.drop_eq_nil_iff.1 hl
      rw [bs_len] at this; omega
    refine it_out ?_
    show t84_3 s m n s i = _
    unfold t84_3
    simp [hs]
  | b :: l, i, n, 0, _, hi, hf, _, _ => by omega
  | b :: l, i, n, fuel + 1, hl, hi, hf, h0, h1 => by
    obtain ⟨hs, hg, hd⟩ := get_at hl
    have hsz : 0 < s.size := by omega
    have hsz' : (0 : Int) < ((s.size : Nat) : Int) := by omega
    simp only [goN]
    by_cases hdig : isDig b = true
    case neg =>
      have hno : ¬ (48 ≤ (((Utf8.decode s i).1 : Nat) : Int) ∧ (((Utf8.decode s i).1 : Nat) : Int) ≤ 57) := by
        by_cases hb : b.toNat < 128
        · rw [decode_low hl hb]
          intro h
          exact hdig (isDig_iff.2 (by simp only at h; omega))
        · have := decode_high hl hb; omega
      rw [if_neg (fun h => hdig h.1)]
      refine it_ret ?_
      show t84_3 s m n s i = _
      unfold t84_3
      simp only [hs, f98_eq, hno, decide_true, decide_false, cond_true, Option.bind_some, Bool.not_false]
    have hbb := isDig_iff.1 hdig
    have hdec := decode_low hl (by omega)
    have hyes : (48 ≤ (((Utf8.decode s i).1 : Nat) : Int) ∧ (((Utf8.decode s i).1 : Nat) : Int) ≤ 57) := by rw [hdec]; simp only; omega
    by_cases h3 : i < 3
    case neg =>
      rw [if_neg (fun h => h3 h.2.1)]
      refine it_ret ?_
      show t84_3 s m n s i = _
      unfold t84_3
      have : (3 : Int) ≤ ((i : Nat) : Int) := by omega
      simp only [hs, f98_eq, hyes, this, decide_true, cond_true, Option.bind_some, Bool.not_true, cond_false, and_self]
    have h3' : ¬ (3 : Int) ≤ ((i : Nat) : Int) := by omega
    have hz := bt_zero hsz
    have hn : n < 1000 := Int.lt_of_lt_of_le h1 (by
      have : i = 0 ∨ i = 1 ∨ i = 2 := by omega
      rcases this with rfl | rfl | rfl <;> decide)
    have hw : IntKind.wrap .i64 ((IntKind.wrap .i64 (10 * n)) + (IntKind.wrap .i64 (IntKind.wrap .i32 ((((Utf8.decode s i).1 : Nat) : Int) - 48)))) = 10 * n + dval b := by
      have hv : (((Utf8.decode s i).1 : Nat) : Int) - 48 = (dval b : Int) := by rw [hdec]; unfold dval; simp only; omega
      have hd9 : dval b ≤ 9 := by unfold dval; omega
      rw [hv, w32 (by omega) (by omega), w64 (x := (dval b : Int)) (by omega) (by omega), w64 (x := 10 * n) (by omega) (by omega), w64 (by omega) (by omega)]
    have hp1 : (Utf8.decode s i).2 = 1 := by rw [hdec]
    have hbound : 10 * n + (dval b : Int) < 10 ^ (i + 1) := by
      have hd9 : dval b ≤ 9 := by unfold dval; omega
      rw [Int.pow_succ]
      omega
    have ih := loop84 s m l (i + 1) (10 * n + dval b) fuel hd (by omega) (by omega) (by omega) hbound
    by_cases hi0 : 0 < i
    · have hi0' : (0 : Int) < ((i : Nat) : Int) := by omega
      by_cases hzr : zr (bs s) = true
      · rw [if_neg (fun h => h.2.2 ⟨hi0, hzr⟩)]
        refine it_ret ?_
        show t84_3 s m n s i = _
        unfold t84_3
        simp only [hs, f98_eq, hyes, h3', hi0', hsz', hz, hzr, decide_true, decide_false, cond_true, Option.bind_some, Bool.not_true, cond_false, and_self]
      · have hzr' : zr (bs s) = false := by simpa using hzr
        rw [if_pos ⟨hdig, h3, fun h => hzr h.2⟩, ← ih]
        refine it_next ?_
        show t84_3 s m n s i = _
        unfold t84_3
        simp only [hs, f98_eq, hyes, h3', hi0', hsz', hz, hzr', hw, hp1, decide_true, decide_false, cond_true, Option.bind_some, Bool.not_true, cond_false, and_self]
    · have hi0' : ¬ (0 : Int) < ((i : Nat) : Int) := by omega
      rw [if_pos ⟨hdig, h3, fun h => hi0 h.1⟩, ← ih]
      refine it_next ?_
      show t84_3 s m n s i = _
      unfold t84_3
      simp only [hs, f98_eq, hyes, h3', hi0', hw, hp1, decide_true, decide_false, cond_true, Option.bind_some, Bool.not_true, cond_false, and_self]

theorem goN_eq {z : Bool} : ∀ (l : B) (i : Nat) (n : Int), goN z i n l =
    if l.all isDig && (decide (l = []) || decide (i + l.length ≤ 3)) && (decide (l = []) || decide (i + l.length ≤ 1) || !z) then some (l.foldl (fun (n : Int) b => 10 * n + dval b) n) else none
  | [], i, n => by simp [goN]
  | b :: l, i, n => by
    unfold goN
    rw [goN_eq l]
    by_cases hb : isDig b = true
    case neg => simp [hb]
    have e : decide (b :: l = []) = false := by simp
    rw [e]
    simp only [hb, true_and, List.all_cons, Bool.true_and, Bool.false_or, List.length_cons, List.foldl_cons]
    cases l with
    | nil =>
      simp only [List.all_nil, decide_true, Bool.true_or, Bool.and_self, if_true, List.length_nil, List.foldl_nil, Bool.true_and, Nat.zero_add]
      by_cases h3 : i < 3
      case neg => simp [h3, show ¬ (i + 1 ≤ 3) by omega]
      by_cases h0 : 0 < i
      · cases z <;> simp [h3, h0, show i + 1 ≤ 3 by omega, show ¬ i = 0 by omega]
      · simp [h3, show i = 0 by omega]
    | cons c l =>
      simp only [reduceCtorEq, decide_false, Bool.false_or, List.length_cons]
      by_cases h3 : i + 1 + (l.length + 1) ≤ 3
      case neg =>
        simp [h3, show ¬ (i + (l.length + 1 + 1) ≤ 3) by omega]
      have e1 : i < 3 := by omega
      have e2 : i + (l.length + 1 + 1) ≤ 3 := by omega
      have e3 : ¬ (i + 1 + (l.length + 1) ≤ 1) := by omega
      have e4 : ¬ (i + (l.length + 1 + 1) ≤ 1) := by omega
      cases z
      · simp only [h3, e1, e2, e3, e4, decide_true, decide_false, Bool.and_true, Bool.false_or, Bool.not_false, reduceCtorEq, and_false, not_false_eq_true, and_self, if_true]
      · simp only [h3, e1, e2, e3, e4, decide_true, decide_false, Bool.and_true, Bool.false_or, Bool.not_true, Bool.and_false, reduceCtorEq, if_false, ite_self]

/-- the number of a text of at most three digits -/
def numOk (l : B) : Bool := decide (l ≠ []) && l.all isDig && decide (l.length ≤ 3) && (decide (l.length ≤ 1) || !(zr l))

theorem val_int (l : B) : ∀ (n : Nat), l.foldl (fun (n : Int) b => 10 * n + dval b) (n : Int) = ((l.foldl (fun n b => 10 * n + dval b) n : Nat) : Int) := by
  induction l with
  | nil => intro n; rfl
  | cons b l ih => intro n; simp only [List.foldl_cons]; rw [← ih]; congr 1

def numF (l : B) (m : Int) : Int × Bool × Unit :=
  if l.all isDig && decide (l.length ≤ 3) && (decide (l.length ≤ 1) || !(zr l)) then ((val l : Nat), decide (l ≠ []) && decide (((val l : Nat) : Int) ≤ m), ()) else (0, false, ())

theorem f84_eq (s : ByteArray) (m : Int) : f84 s m = some (numF (bs s) m) := by
  unfold f84
  have h := loop84 s m (bs s) 0 0 4 rfl (by omega) (by omega) (by omega) (by decide)
  rw [it_mono (show 4 ≤ big from Nat.le_of_ble_eq_true rfl) h]
  have e : ∀ l : B, (if l.all isDig && (decide (l = []) || decide (0 + l.length ≤ 3)) && (decide (l = []) || decide (0 + l.length ≤ 1) || !(zr l)) then some (l.foldl (fun (n : Int) b => 10 * n + dval b) 0) else none)
      = if l.all isDig && decide (l.length ≤ 3) && (decide (l.length ≤ 1) || !(zr l)) then some ((val l : Nat) : Int) else none := by
    intro l
    have := val_int l 0
    rw [show ((0 : Nat) : Int) = 0 from rfl] at this
    rw [this]
    cases l with
    | nil => rfl
    | cons b l => simp [val]
  rw [goN_eq, e]
  unfold numF
  by_cases hc : ((bs s).all isDig && decide ((bs s).length ≤ 3) && (decide ((bs s).length ≤ 1) || !(zr (bs s)))) = true
  · rw [if_pos hc, if_pos hc]
    simp only [Option.bind_some, str_eq]
    have e0 : bs (⟨#[]⟩ : ByteArray) = [] := rfl
    rw [e0]
    by_cases hn : bs s = []
    · simp [hn]
    · simp [hn]
  · rw [if_neg hc, if_neg hc]; rfl
end Go.Proofs.Zz
