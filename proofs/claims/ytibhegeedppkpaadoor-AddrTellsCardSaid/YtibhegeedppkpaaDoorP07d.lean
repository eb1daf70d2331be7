/- The addresses' functions in plain words: prefixes' texts; the chapter's example. -/
import Derived.Test.YtibhegeedppkpaaDoorP07c
namespace Go.Proofs.Zz
open Go Go.Sy Go.Txt
set_option linter.unusedSimpArgs false
set_option linter.unusedVariables false

theorem cond_of {α : Type} {c : Bool} {a b r : α} (h1 : c = true → a = r) (h2 : c = false → b = r) : cond c a b = r := by
  cases c
  · exact h2 rfl
  · exact h1 rfl

/-! ### prefixes' texts -/
def textP (b k : Int) : B := if MayP b k then text4 b.toNat ++ 47 :: dec k.toNat else []

theorem may_nat {b k : Int} (h : MayP b k) : ∃ n j : Nat, b = n ∧ k = j ∧ n < 4294967296 ∧ j ≤ 32 :=
  ⟨b.toNat, k.toNat, by have := h.2.2.1; omega, by have := h.1; omega, by have := h.2.2.2.1; omega, by have := h.2.1; omega⟩

theorem textP_len (b k : Int) : (textP b k).length ≤ 18 := by
  unfold textP
  split
  · rename_i h
    obtain ⟨n, j, rfl, rfl, hn, hj⟩ := may_nat h
    have := text4_len n hn
    have h2 : (dec j).length ≤ 2 := by
      have e : (dec j).length = Lib.nDigits j := Lib.decDigits_length j
      rw [e]
      by_cases h1 : j < 10
      · rw [Lib.nDigits_small h1]; omega
      · rw [Lib.nDigits_big h1, Lib.nDigits_small (by omega)]; omega
    simp only [Int.toNat_natCast, List.length_append, List.length_cons]
    omega
  · simp

theorem sb_app (l r : B) : sb l ++ sb r = sb (l ++ r) := by
  apply bs_inj
  rw [bs_sb]
  simp [bs, sb]

theorem sb47 : (⟨#[47]⟩ : ByteArray) = sb [47] := rfl

theorem f14_eq (b k : Int) : f14 b k = some (sb (textP b k), ()) := by
  unfold f14 textP
  rw [f15_eq]
  by_cases h : MayP b k
  case neg => simp only [h, decide_false, Option.bind_some, Bool.not_false, cond_true, if_false]; rfl
  obtain ⟨n, j, rfl, rfl, hn, hj⟩ := may_nat h
  have ht : textI (n : Int) = text4 n := by unfold textI; rw [if_pos (by omega)]; rfl
  have hl := text4_len n hn
  have hd : (dec j).length ≤ 3 := dec_len.1.2 (by omega)
  simp only [h, decide_true, Option.bind_some, Bool.not_true, cond_false, f12_eq, ht, if_true]
  rw [decide_eq_false (by rw [sb_size]; omega), fItoa_nat _ (by omega)]
  simp only [Bool.not_false, cond_true, Option.bind_some, sb47, sb_app, sb_size, List.length_append, List.length_singleton]
  rw [decide_eq_false (by omega)]
  simp

def restOf (l : B) : B := match spl 47 l with
  | _ :: r => if r = [] then [] else Lib.join r [47]
  | [] => []
def baseOf (l : B) : B := match spl 47 l with
  | x :: _ => x
  | [] => l

theorem cut_47 (l : B) : (Lib.cut l [47]).1 = baseOf l ∧ (Lib.cut l [47]).2.1 = restOf l := by
  rw [cut_at]
  unfold baseOf restOf
  cases h : spl 47 l with
  | nil => exact ⟨rfl, rfl⟩
  | cons x r => cases r with
    | nil => exact ⟨rfl, rfl⟩
    | cons y r => exact ⟨rfl, by simp⟩

def prefO (l : B) : Option (Nat × Nat) := match addrO (baseOf l), numV 32 (restOf l) with
  | some a, some k => if MayP a k then some (a, k) else none
  | _, _ => none

def outP (o : Option (Nat × Nat)) : (Int × Int) × Bool × Unit := match o with
  | some (a, k) => (((a : Int), (k : Int)), true, ())
  | none => ((0, 0), false, ())

theorem cut_len (l p : B) : (Lib.cut l p).1.length ≤ l.length := by
  unfold Lib.cut
  split
  · simp only [List.length_take]; omega
  · exact Nat.le_refl _

theorem f13_eq (s : ByteArray) (h : s.size < 4294967281) : f13 s = some (outP (prefO (bs s))) := by
  unfold f13 fCut
  rw [ltN_true h]
  simp only [cond_true, Option.bind_some]
  have e1 : (cutB s ⟨#[47]⟩).1 = sb (baseOf (bs s)) := by rw [← (cut_47 (bs s)).1]; rfl
  have e2 : (cutB s ⟨#[47]⟩).2.1 = sb (restOf (bs s)) := by rw [← (cut_47 (bs s)).2]; rfl
  have hlen : (baseOf (bs s)).length ≤ s.size := by rw [← (cut_47 (bs s)).1, ← bs_len]; exact cut_len _ _
  rw [e1, e2, f11_eq _ (by rw [sb_size]; omega), f30_eq, bs_sb, bs_sb]
  simp only [Option.bind_some]
  unfold prefO
  cases ha : addrO (baseOf (bs s)) with
  | none => rfl
  | some a =>
    cases hk : numV 32 (restOf (bs s)) with
    | none =>
      have := numF_none hk
      rw [show ((32 : Nat) : Int) = 32 from rfl] at this
      simp only [outA, this, Bool.not_true, Bool.not_false, cond_false, cond_true]; rfl
    | some k =>
      have := numF_some hk
      rw [show ((32 : Nat) : Int) = 32 from rfl] at this
      simp only [outA, this, Bool.not_true, cond_false, f15_eq, Option.bind_some]
      by_cases hm : MayP a k
      · simp only [hm, decide_true, Bool.not_true, cond_false, if_true, outP]
      · simp only [hm, decide_false, Bool.not_false, cond_true, if_false, outP]

theorem base_app {x : B} (r : B) (h : (47 : UInt8) ∉ x) (hr : (47 : UInt8) ∉ r) : baseOf (x ++ 47 :: r) = x ∧ restOf (x ++ 47 :: r) = r := by
  unfold baseOf restOf
  rw [spl_app r h, spl_none hr]
  simp [Lib.join_one]

theorem base_none {x : B} (h : (47 : UInt8) ∉ x) : baseOf x = x ∧ restOf x = [] := by
  unfold baseOf restOf
  rw [spl_none h]
  simp

theorem text4_free (n : Nat) : (47 : UInt8) ∉ text4 n := by
  have d := fun k => dec_free (c := 47) (by decide) k
  rw [text4_eq]
  simp only [List.mem_append, List.mem_cons, not_or]
  exact ⟨d _, by decide, d _, by decide, d _, by decide, d _⟩

theorem pref_text {b k : Int} (h : MayP b k) : prefO (textP b k) = some (b.toNat, k.toNat) := by
  obtain ⟨n, j, rfl, rfl, hn, hj⟩ := may_nat h
  unfold prefO textP
  rw [if_pos h]
  obtain ⟨e1, e2⟩ := base_app (x := text4 n) (dec j) (text4_free n) (dec_free (by decide) j)
  simp only [Int.toNat_natCast, e1, e2]
  rw [addr_text n hn, numV_dec (by omega) (by omega)]
  simp only [h, if_true]

theorem text_pref {l : B} {a k : Nat} (h : prefO l = some (a, k)) : MayP a k ∧ textP a k = l := by
  unfold prefO at h
  cases ha : addrO (baseOf l) with
  | none => rw [ha] at h; simp at h
  | some a' =>
  cases hk : numV 32 (restOf l) with
  | none => rw [ha, hk] at h; simp at h
  | some k' =>
    rw [ha, hk] at h
    simp only at h
    split at h
    case isFalse => simp at h
    rename_i hm
    cases h
    refine ⟨hm, ?_⟩
    unfold textP
    rw [if_pos hm]
    simp only [Int.toNat_natCast]
    have e1 := (text_addr ha).2
    have e2 := (numV_of hk).1
    rw [e1, e2]
    have hj := jn_spl 47 l
    unfold baseOf restOf at *
    cases hs : spl 47 l with
    | nil => exact absurd hs (spl_ne _ _)
    | cons x r =>
      rw [hs] at hj hk e1 e2
      simp only at hj hk e1 e2 ⊢
      by_cases hr : r = []
      · rw [if_pos hr] at hk
        have : numV 32 [] = none := rfl
        rw [this] at hk
        simp at hk
      · rw [if_neg hr]
        rw [jn_cons _ _ hr] at hj
        exact hj

theorem pref_none (n : Nat) : prefO (text4 n) = none := by
  unfold prefO
  obtain ⟨e1, e2⟩ := base_none (text4_free n)
  rw [e1, e2]
  have : numV 32 [] = none := rfl
  rw [this]
  cases addrO (text4 n) <;> rfl

theorem addr_nil : addrO [] = none := rfl
theorem pref_nil : prefO [] = none := rfl

theorem addr_pref {b k : Int} : addrO (textP b k) = none := by
  cases h : addrO (textP b k) with
  | none => rfl
  | some a =>
    obtain ⟨_, e⟩ := text_addr h
    unfold textP at e
    split at e
    · have := text4_free a
      rw [e] at this
      simp at this
    · have := (text4_len a (text_addr h).1).1
      rw [e] at this
      simp at this

def ex27 : B := [49, 48, 46, 48, 46, 48, 46, 48, 47, 50, 55]
def ex10 : B := [49, 48, 46, 48, 46, 48, 46, 48]
def ex01 : B := [48, 49, 48, 46, 48, 46, 48, 46, 49]

theorem f10_eq : f10 = some (true, ()) := by
  have hm : MayP 167772160 27 := by decide
  have p1 : prefO ex27 = some (167772160, 27) := by
    have h1 : addrO (baseOf ex27) = some 167772160 := by decide
    have h2 : numV 32 (restOf ex27) = some 27 := by decide
    unfold prefO
    rw [h1, h2]
    exact if_pos hm
  have p2 : addrO ex10 = some 167772160 := by decide
  have p3 : addrO ex01 = none := by decide
  have t1 : textI 167772160 = ex10 := by
    unfold textI
    rw [if_pos (by omega)]
    exact (text_addr p2).2
  have t2 : textP 167772160 27 = ex27 := (text_pref p1).2
  unfold f10
  rw [f13_eq _ (by decide), f11_eq _ (by decide), f11_eq _ (by decide)]
  have e1 : bs (⟨#[49, 48, 46, 48, 46, 48, 46, 48, 47, 50, 55]⟩ : ByteArray) = ex27 := rfl
  have e2 : bs (⟨#[49, 48, 46, 48, 46, 48, 46, 48]⟩ : ByteArray) = ex10 := rfl
  have e3 : bs (⟨#[48, 49, 48, 46, 48, 46, 48, 46, 49]⟩ : ByteArray) = ex01 := rfl
  rw [e1, e2, e3, p1, p2, p3]
  simp only [outP, outA, Option.bind_some]
  rw [show ((167772160 : Nat) : Int) = 167772160 from rfl, show ((27 : Nat) : Int) = 27 from rfl]
  rw [f18_eq, f15_eq, f16_eq, f12_eq, f14_eq, f17_eq, t1, t2]
  have hs : sizeI 167772160 27 = 32 := by decide
  have hi : indexI 167772160 27 167772160 = 0 := by decide
  have hmeet : MeetP 167772160 27 167772160 27 := by decide
  simp only [Option.bind_some, hs, hi, str_eq, bs_sb, e1, e2, hm, hmeet, decide_true, cond_true, Bool.not_false]
end Go.Proofs.Zz
