/- The loop of slices.DeleteFunc, over lists. -/
import Derived.Test.YtipajaocggpahaaGreatItl
import Derived.Test.YtipajaocggpahaaGreatIt2
namespace Go.Proofs.Zz
open Go Go.Sy
set_option linter.unusedSimpArgs false
set_option linter.unusedVariables false

theorem it_del {α X Y Z : Type} {u : X → Option (R3 X Y Z)} (del : α → Bool) (st : Nat → Nat → List α → X) (out : Nat → List α → Y) (N : Nat)
    (hstep : ∀ i j (l : List α) (h : j < l.length) (hi : i < j), l.length = N → u (st i j l) = some (.next (if del l[j] = true then st i (j + 1) l else st (i + 1) (j + 1) (l.set i l[j]))))
    (hout : ∀ i (l : List α), i < l.length → u (st i l.length l) = some (.out (out i l))) :
    ∀ (d i j : Nat) (l : List α) (fuel : Nat), l.length = N → j + d = l.length → i < j → d < fuel →
      ∃ k l', iter fuel u (st i j l) = some (.inl (out k l')) ∧ k = i + ((l.drop j).filter fun x => !del x).length ∧ l'.take k = l.take i ++ (l.drop j).filter (fun x => !del x) ∧ l'.length = l.length
  | _, i, j, l, 0, _, _, _, hf => by omega
  | 0, i, j, l, fuel + 1, hN, hj, hi, hf => by
    have e : j = l.length := by omega
    subst e
    refine ⟨i, l, it_out (hout i l (by omega)), by simp, by simp, rfl⟩
  | d + 1, i, j, l, fuel + 1, hN, hj, hi, hf => by
    have hlt : j < l.length := by omega
    have hs := hstep i j l hlt hi hN
    have hdrop : l.drop j = l[j] :: l.drop (j + 1) := by rw [List.drop_eq_getElem_cons hlt]
    by_cases hd : del l[j] = true
    · rw [if_pos hd] at hs
      obtain ⟨k, l', h1, h2, h3, h4⟩ := it_del del st out N hstep hout d i (j + 1) l fuel hN (by omega) (by omega) (by omega)
      refine ⟨k, l', by rw [← h1]; exact it_next hs, ?_, ?_, h4⟩
      · rw [hdrop, List.filter_cons, if_neg (by simp [hd])]; exact h2
      · rw [hdrop, List.filter_cons, if_neg (by simp [hd])]; exact h3
    · rw [if_neg hd] at hs
      obtain ⟨k, l', h1, h2, h3, h4⟩ := it_del del st out N hstep hout d (i + 1) (j + 1) (l.set i l[j]) fuel (by rw [List.length_set]; exact hN) (by rw [List.length_set]; omega) (by omega) (by omega)
      have hdr : (l.set i l[j]).drop (j + 1) = l.drop (j + 1) := List.drop_set_of_lt (by omega)
      rw [hdr] at h2 h3
      rw [List.length_set] at h4
      have htk : (l.set i l[j]).take (i + 1) = l.take i ++ [l[j]] := by
        rw [List.take_succ_eq_append_getElem (by rw [List.length_set]; omega), List.take_set_of_le (Nat.le_refl i)]
        simp
      refine ⟨k, l', by rw [← h1]; exact it_next hs, ?_, ?_, h4⟩
      · rw [hdrop, List.filter_cons, if_pos (by simp [hd]), List.length_cons]; omega
      · rw [hdrop, List.filter_cons, if_pos (by simp [hd]), h3, htk]; simp

/-- all of it: the first one that goes, and those behind it -/
theorem del_all {α X Y Z : Type} {u : X → Option (R3 X Y Z)} (del : α → Bool) (st : Nat → Nat → List α → X) (out : Nat → List α → Y) (l : List α)
    (hstep : ∀ i j (m : List α) (h : j < m.length) (hi : i < j), m.length = l.length → u (st i j m) = some (.next (if del m[j] = true then st i (j + 1) m else st (i + 1) (j + 1) (m.set i m[j]))))
    (hout : ∀ i (m : List α), i < m.length → u (st i m.length m) = some (.out (out i m))) (hl : l.length < big) (hi : l.findIdx del < l.length) :
    ∃ k l', iter big u (st (l.findIdx del) (l.findIdx del + 1) l) = some (.inl (out k l')) ∧ k = (l.filter fun x => !del x).length ∧ l'.take k = l.filter (fun x => !del x) ∧ l'.length = l.length := by
  obtain ⟨k, l', h1, h2, h3, h4⟩ := it_del del st out l.length hstep hout (l.length - (l.findIdx del + 1)) (l.findIdx del) (l.findIdx del + 1) l big rfl (by omega) (by omega) (by omega)
  have hat : del l[l.findIdx del] = true := List.findIdx_getElem (w := hi)
  have hfirst : (l.take (l.findIdx del)).filter (fun x => !del x) = l.take (l.findIdx del) := by
    rw [List.filter_eq_self]
    intro x hx
    obtain ⟨j, hj, rfl⟩ := List.mem_iff_getElem.1 hx
    rw [List.length_take] at hj
    rw [List.getElem_take]
    have := List.not_of_lt_findIdx (p := del) (xs := l) (i := j) (by omega)
    simpa using this
  have hfil : l.filter (fun x => !del x) = l.take (l.findIdx del) ++ (l.drop (l.findIdx del + 1)).filter (fun x => !del x) := by
    conv => lhs; rw [← List.take_append_drop (l.findIdx del) l]
    rw [List.filter_append, hfirst, List.drop_eq_getElem_cons hi, List.filter_cons, if_neg (by simp [hat])]
  refine ⟨k, l', h1, ?_, by rw [h3, hfil], h4⟩
  rw [hfil, List.length_append, List.length_take]
  omega
end Go.Proofs.Zz
