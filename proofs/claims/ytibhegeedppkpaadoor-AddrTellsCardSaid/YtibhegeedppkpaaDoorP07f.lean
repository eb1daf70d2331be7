/- AddrBack, in plain words. -/
import Derived.Test.YtibhegeedppkpaaDoorP07e
namespace Go.Proofs.Zz
open Go Go.Sy Go.Txt
set_option linter.unusedSimpArgs false
set_option linter.unusedVariables false

theorem law3 (b k a : Int) (s : ByteArray) : f3 b k a s = some (true, ()) := by
  unfold f3
  rw [f10_eq]
  simp only [Option.bind_some, Bool.not_true, cond_false]
  by_cases hsz : 60 < ((s.size : Nat) : Int)
  · simp [hsz]
  have hs : s.size < 4294967281 := by omega
  rw [decide_eq_false hsz]
  simp only [cond_false]
  -- what is read of the text
  have tail : ((f11 s)).bind (fun y11 => ((f13 s)).bind fun y12 =>
          cond (!y11.2.1) (
           cond (!y12.2.1) (
            some (true, ())) (
            ((f14 y12.1.1 y12.1.2)).bind fun y13 =>
            cond (y13.1.toList == s.toList) (
             ((f15 y12.1.1 y12.1.2)).bind fun y14 =>
             some (y14.1, ())) (
             some (false, ())))) (
           ((f12 y11.1)).bind fun y15 =>
           cond (y15.1.toList == s.toList) (
            cond (!y12.2.1) (
             some (true, ())) (
             ((f14 y12.1.1 y12.1.2)).bind fun y16 =>
             cond (y16.1.toList == s.toList) (
              ((f15 y12.1.1 y12.1.2)).bind fun y17 =>
              some (y17.1, ())) (
              some (false, ())))) (
            some (false, ())))) = some (true, ()) := by
    rw [f11_eq s hs, f13_eq s hs]
    simp only [Option.bind_some]
    cases ha : addrO (bs s) with
    | none =>
      cases hp : prefO (bs s) with
      | none => rfl
      | some x =>
        obtain ⟨p, q⟩ := x
        obtain ⟨hm, ht⟩ := text_pref hp
        simp only [outA, outP, f14_eq, f15_eq, Option.bind_some, str_eq, bs_sb, ht, hm, decide_true, cond_true, cond_false, Bool.not_true, Bool.not_false]
    | some n =>
      obtain ⟨hn, ht⟩ := text_addr ha
      have hti : textI (n : Int) = bs s := by unfold textI; rw [if_pos (by omega)]; exact ht
      cases hp : prefO (bs s) with
      | none => simp only [outA, outP, f12_eq, Option.bind_some, str_eq, bs_sb, hti, decide_true, cond_true, cond_false, Bool.not_true, Bool.not_false]
      | some x =>
        obtain ⟨p, q⟩ := x
        obtain ⟨hm, ht2⟩ := text_pref hp
        simp only [outA, outP, f12_eq, f14_eq, f15_eq, Option.bind_some, str_eq, bs_sb, hti, ht2, hm, decide_true, cond_true, cond_false, Bool.not_true, Bool.not_false]
  rw [f12_eq, f14_eq]
  simp only [Option.bind_some, f11_eq _ (size_sb_textI a), f13_eq _ (size_sb_textP b k), bs_sb]
  have hA : addrO (textI a) = if 0 ≤ a ∧ a < 4294967296 then some a.toNat else none := by
    unfold textI
    split
    · exact addr_text _ (by omega)
    · rfl
  have hP : prefO (textP b k) = if MayP b k then some (b.toNat, k.toNat) else none := by
    split
    · rename_i h; exact pref_text h
    · rename_i h; unfold textP; rw [if_neg h]; rfl
  rw [hA, hP, f15_eq]
  by_cases h0 : 0 ≤ a
  case neg =>
    rw [if_neg (fun h => h0 h.1), decide_eq_false h0]
    by_cases hm : MayP b k
    · rw [if_pos hm]
      have e1 : ((b.toNat : Nat) : Int) = b := by have := hm.2.2.1; omega
      have e2 : ((k.toNat : Nat) : Int) = k := by have := hm.1; omega
      simp only [outA, outP, e1, e2, hm, decide_true, Option.bind_some, Bool.and_self, Bool.not_true, cond_false, cond_true, beq_self_eq_true]
      exact tail
    · rw [if_neg hm]
      simp only [outA, outP, hm, decide_false, Option.bind_some, Bool.not_true, cond_false, cond_true, beq_self_eq_true]
      exact tail
  by_cases h1 : a < 4294967296
  · rw [if_pos ⟨h0, h1⟩]
    have e0 : ((a.toNat : Nat) : Int) = a := by omega
    by_cases hm : MayP b k
    · rw [if_pos hm]
      have e1 : ((b.toNat : Nat) : Int) = b := by have := hm.2.2.1; omega
      have e2 : ((k.toNat : Nat) : Int) = k := by have := hm.1; omega
      simp only [outA, outP, e0, e1, e2, h0, h1, hm, decide_true, Option.bind_some, Bool.and_self, Bool.not_true, cond_false, cond_true, beq_self_eq_true]
      exact tail
    · rw [if_neg hm]
      simp only [outA, outP, e0, h0, h1, hm, decide_true, decide_false, Option.bind_some, Bool.not_true, cond_false, cond_true, beq_self_eq_true]
      exact tail
  · rw [if_neg (fun h => h1 h.2)]
    by_cases hm : MayP b k
    · rw [if_pos hm]
      have e1 : ((b.toNat : Nat) : Int) = b := by have := hm.2.2.1; omega
      have e2 : ((k.toNat : Nat) : Int) = k := by have := hm.1; omega
      simp only [outA, outP, e1, e2, h0, h1, hm, decide_true, decide_false, Option.bind_some, Bool.and_self, Bool.not_true, cond_false, cond_true, beq_self_eq_true]
      exact tail
    · rw [if_neg hm]
      simp only [outA, outP, h0, h1, hm, decide_true, decide_false, Option.bind_some, Bool.not_true, cond_false, cond_true, beq_self_eq_true]
      exact tail
end Go.Proofs.Zz
