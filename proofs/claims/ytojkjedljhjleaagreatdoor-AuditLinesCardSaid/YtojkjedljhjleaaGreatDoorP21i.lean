/- Plain laws of chapter 21: AuditPorts. -/
import Derived.Test.YtojkjedljhjleaaGreatDoorP21h
namespace Go.Proofs.Zz
open Go Go.Sy
set_option linter.unusedSimpArgs false
set_option linter.unusedVariables false

section
variable {a b c d e f g h q i' o : Int} {p : Bool} {now : Int} {P H : List HT} {L : List LT}

/-- whose a port is: its own one's, or the block's that it lies in -/
noncomputable def whoseI (a b c d e f g h : Int) (L : List LT) (at' port : Int) : Int :=
  if whoI a b c d e f g h at' port ≠ -1 then whoI a b c d e f g h at' port
  else match L[L.findIdx (findP at' (whichI a b c d e f g h at' port))]? with
    | some x => x.1
    | none => -1

theorem f10_eq (hP : Sz P) (hL : Sz L) (hH : Sz H) (at' port : Int) : f10 a b c d e f g h q i' o p now P L H at' port = some (if mayB a b c d e f g h q i' o p now P L H = true then whoseI a b c d e f g h L at' port else -1, ()) := by
  unfold f10
  rw [f11_eq hP hL hH]
  simp only [Option.bind_some]
  cases hm : mayB a b c d e f g h q i' o p now P L H with
  | false => rfl
  | true =>
  simp only [Bool.not_true, cond_false, f24_eq, Option.bind_some, if_true]
  unfold whoseI
  by_cases h1 : whoI a b c d e f g h at' port = -1
  · rw [decide_eq_true h1, if_neg (fun hn => hn h1), f26_eq]
    simp only [Bool.not_true, cond_false, Option.bind_some]
    rw [f25_eq L hL]
    simp only [Option.bind_some]
    by_cases hi : L.findIdx (findP at' (whichI a b c d e f g h at' port)) < L.length
    · rw [if_pos hi, List.getElem?_eq_getElem hi, decide_eq_false (by omega), ge0, ltn hi, Int.toNat_natCast, rdL hi]
      rfl
    · rw [if_neg hi, List.getElem?_eq_none (by omega)]; rfl
  · rw [decide_eq_false h1, if_pos h1]; rfl

/-- leases of one block are one -/
theorem LeasesP.lt (M : LeasesP a b c d e f g h P L) : ∀ j k (hj : j < L.length) (hk : k < L.length), j < k → ltB L[j].2.1 L[j].2.2.1 L[k].2.1 L[k].2.2.1 := by
  intro j k
  induction k with
  | zero => intro _ _ h; omega
  | succ k ih =>
    intro hj hk hjk
    have hs := M.srt k hk
    by_cases e : j = k
    · subst e; exact hs
    · have := ih hj (by omega) (by omega)
      unfold ltB at *
      omega

theorem LeasesP.uniq (M : LeasesP a b c d e f g h P L) {j k : Nat} (hj : j < L.length) (hk : k < L.length) (h1 : L[j].2.1 = L[k].2.1) (h2 : L[j].2.2.1 = L[k].2.2.1) : j = k := by
  rcases Nat.lt_trichotomy j k with h | h | h
  · have := M.lt j k hj hk h; unfold ltB at this; omega
  · exact h
  · have := M.lt k j hk hj h; unfold ltB at this; omega

theorem LeasesP.find (M : LeasesP a b c d e f g h P L) {j : Nat} (hj : j < L.length) : L.findIdx (findP L[j].2.1 L[j].2.2.1) = j := by
  have hlt : L.findIdx (findP L[j].2.1 L[j].2.2.1) < L.length := by
    rw [List.findIdx_lt_length]
    exact ⟨L[j], List.getElem_mem hj, by simp⟩
  have hp : findP L[j].2.1 L[j].2.2.1 (L[L.findIdx (findP L[j].2.1 L[j].2.2.1)]'hlt) = true := List.findIdx_getElem
  simp only [Bool.and_eq_true, decide_eq_true_eq] at hp
  exact M.uniq hlt hj hp.1 hp.2

theorem isSub_nonneg {sub : Int} (hs : isSub a b c d e f g h sub = true) : 0 ≤ sub := by
  unfold isSub at hs
  simp only [Bool.and_eq_true, decide_eq_true_eq] at hs
  exact hs.2.1

/-- a span of a subscriber's is its -/
theorem whose_span (M : MayS a b c d e f g h P L H) {sub : Int} (hs : isSub a b c d e f g h sub = true) {s : HT} (hm : s ∈ baseI a b c d e f g sub :: spansI f g h L (ofI L sub L.length)) {port : Int} (h1 : s.2.1 ≤ port) (h2 : port ≤ s.2.2) :
    whoseI a b c d e f g h L s.1 port = sub := by
  rcases List.mem_cons.1 hm with rfl | hm
  · have := who_base hs rfl h1 h2
    unfold whoseI
    rw [this, if_pos (by have := isSub_nonneg hs; omega)]
  · unfold spansI at hm
    obtain ⟨j, hj, hje⟩ := List.mem_map.1 hm
    obtain ⟨hk, hks⟩ := ofI_mem hj
    rw [List.getElem?_eq_getElem hk] at hje
    simp only at hje
    subst hje
    have hb := M.leases.blk _ (List.getElem_mem hk)
    obtain ⟨k1, k2⟩ := which_blk hb h1 h2
    have hat : (blkI f g h L[j].2.1 L[j].2.2.1).1 = L[j].2.1 := rfl
    unfold whoseI
    rw [hat, who_blk k2, if_neg (fun h => h rfl), k1, M.leases.find hk, List.getElem?_eq_getElem hk]
    exact hks

/-- what is one's lies in its spans -/
theorem span_whose (M : MayS a b c d e f g h P L H) {at' port : Int} (hw : whoseI a b c d e f g h L at' port ≠ -1) :
    isSub a b c d e f g h (whoseI a b c d e f g h L at' port) = true ∧ ∃ s ∈ baseI a b c d e f g (whoseI a b c d e f g h L at' port) :: spansI f g h L (ofI L (whoseI a b c d e f g h L at' port) L.length), s.1 = at' ∧ s.2.1 ≤ port ∧ port ≤ s.2.2 := by
  unfold whoseI at hw ⊢
  by_cases h1 : whoI a b c d e f g h at' port ≠ -1
  · rw [if_pos h1]
    obtain ⟨q1, q2, q3, q4⟩ := who_spec h1
    exact ⟨q1, _, by simp, q2, q3, q4⟩
  · rw [if_neg h1] at hw ⊢
    by_cases hi : L.findIdx (findP at' (whichI a b c d e f g h at' port)) < L.length
    · have hp : findP at' (whichI a b c d e f g h at' port) (L[L.findIdx (findP at' (whichI a b c d e f g h at' port))]'hi) = true := List.findIdx_getElem
      simp only [Bool.and_eq_true, decide_eq_true_eq] at hp
      rw [List.getElem?_eq_getElem hi]
      simp only
      have hb := M.leases.blk _ (List.getElem_mem hi)
      generalize L.findIdx (findP at' (whichI a b c d e f g h at' port)) = k at hi hp hb ⊢
      have hb0 : 0 ≤ L[k].2.2.1 := by
        unfold isBlk at hb
        simp only [Bool.and_eq_true, decide_eq_true_eq] at hb
        exact hb.2.2.1
      obtain ⟨w1, w2⟩ := which_spec (a := a) (b := b) (c := c) (d := d) (e := e) (f := f) (g := g) (h := h) (at' := at') (port := port) (by omega)
      refine ⟨M.leases.sub _ (List.getElem_mem hi), blkI f g h L[k].2.1 L[k].2.2.1, List.mem_cons_of_mem _ ?_, hp.1, ?_, ?_⟩
      · unfold spansI
        refine List.mem_map.2 ⟨k, ?_, by rw [List.getElem?_eq_getElem hi]⟩
        unfold ofI
        rw [List.mem_filter]
        refine ⟨List.mem_range.2 hi, ?_⟩
        rw [List.getElem?_eq_getElem hi]
        simp
      · rw [hp.1, hp.2]; exact w1
      · rw [hp.1, hp.2]; exact w2
    · rw [List.getElem?_eq_none (by omega)] at hw
      exact absurd rfl hw

abbrev inP (at' port : Int) : HT → Bool := fun s => decide (s.1 = at') && (decide (s.2.1 ≤ port) && decide (port ≤ s.2.2))

theorem any_ok (at' port a b c d e f g h q i' o : Int) (p : Bool) (now : Int) (P : List HT) (L : List LT) (H : List HT) (l : List HT) (hl : l.length ≤ 1000) :
    iter big u3_14 ((at', (port, ((), (false, (0, ()))))), (((a, (b, (c, (d, (e, (f, (g, (h, (q, (i', (o, (p, (now, (P, (L, (H, ())))))))))))))))), ()), (l, ()))) =
      some (.inl (((), (l.any (inP at' port), ())), (((a, (b, (c, (d, (e, (f, (g, (h, (q, (i', (o, (p, (now, (P, (L, (H, ())))))))))))))))), ()), ()))) := by
  have := it_all (u := u3_14) (fun j => ((at', (port, ((), ((l.take j).any (inP at' port), (((j : Nat) : Int), ()))))), (((a, (b, (c, (d, (e, (f, (g, (h, (q, (i', (o, (p, (now, (P, (L, (H, ())))))))))))))))), ()), (l, ())))) (n := l.length)
    (y := (((), (l.any (inP at' port), ())), (((a, (b, (c, (d, (e, (f, (g, (h, (q, (i', (o, (p, (now, (P, (L, (H, ())))))))))))))))), ()), ())))
    (fun j hj => by
      simp only [u3_14, t3_14, ltn hj, ge0, cond_true, Bool.and_self, Int.toNat_natCast, rdH hj, nx hj (show l.length ≤ 9223372036854775807 by omega), decide_eq_true hj]
      rw [List.take_succ_eq_append_getElem hj, List.any_append]
      rw [show ([l[j]].any (inP at' port)) = (decide (l[j].1 = at') && (decide (l[j].2.1 ≤ port) && decide (port ≤ l[j].2.2))) by simp]
      cases (l.take j).any (inP at' port) with
      | true => rfl
      | false =>
        simp only [cond_false, Bool.false_or]
        cases decide (l[j].1 = at') with
        | false => rfl
        | true => cases decide (l[j].2.1 ≤ port) <;> rfl)
    (by simp only [u3_14, t3_14, nlt, cond_false, List.take_length])
    0 big (Nat.zero_le _) (by unfold big; omega)
  exact this

/-- the law's last part -/
theorem tail3 (hP : Sz P) (hL : L.length ≤ 100) (hH : Sz H) (at' port : Int) :
    ((f10 a b c d e f g h q i' o p now P L H at' port).bind fun y26 =>
      cond (decide (y26.1 < 0)) (some ((decide (y26.1 = (-1))), ()))
        ((f9 a b c d e f g h q i' o p now P L H y26.1).bind fun y27 =>
          (iter big u3_14 ((at', (port, ((), (false, (0, ()))))), (((a, (b, (c, (d, (e, (f, (g, (h, (q, (i', (o, (p, (now, (P, (L, (H, ())))))))))))))))), ()), (y27.1, ())))).bind fun r => match r with
          | .inl y28 => cond y28.1.2.1 ((f11 y28.2.1.1.1 y28.2.1.1.2.1 y28.2.1.1.2.2.1 y28.2.1.1.2.2.2.1 y28.2.1.1.2.2.2.2.1 y28.2.1.1.2.2.2.2.2.1 y28.2.1.1.2.2.2.2.2.2.1 y28.2.1.1.2.2.2.2.2.2.2.1 y28.2.1.1.2.2.2.2.2.2.2.2.1 y28.2.1.1.2.2.2.2.2.2.2.2.2.1 y28.2.1.1.2.2.2.2.2.2.2.2.2.2.1 y28.2.1.1.2.2.2.2.2.2.2.2.2.2.2.1 y28.2.1.1.2.2.2.2.2.2.2.2.2.2.2.2.1 y28.2.1.1.2.2.2.2.2.2.2.2.2.2.2.2.2.1 y28.2.1.1.2.2.2.2.2.2.2.2.2.2.2.2.2.2.1 y28.2.1.1.2.2.2.2.2.2.2.2.2.2.2.2.2.2.2.1).bind fun y30 => some (y30.1, ())) (some (false, ()))
          | .inr z29 => none)) = some (true, ()) := by
  have hL' : Sz L := by unfold Sz; omega
  rw [f10_eq hP hL' hH]
  simp only [Option.bind_some]
  cases hm : mayB a b c d e f g h q i' o p now P L H with
  | false => rfl
  | true =>
  have M := mayB_spec hP hL' hH hm
  simp only [if_true]
  by_cases hw : whoseI a b c d e f g h L at' port = -1
  · rw [hw]; rfl
  · obtain ⟨hs, s, hsm, hs1, hs2, hs3⟩ := span_whose M hw
    have h0 := isSub_nonneg hs
    rw [decide_eq_false (by omega)]
    simp only [cond_false]
    rw [f9_eq hP hL hH, if_pos ⟨hs, hm⟩]
    simp only [Option.bind_some]
    have hlen := ofI_len L (whoseI a b c d e f g h L at' port) L.length
    rw [any_ok _ _ _ _ _ _ _ _ _ _ _ _ _ _ _ _ _ _ _ (by rw [List.length_cons, spansI, List.length_map]; omega)]
    simp only [Option.bind_some]
    have hany : (baseI a b c d e f g (whoseI a b c d e f g h L at' port) :: spansI f g h L (ofI L (whoseI a b c d e f g h L at' port) L.length)).any (inP at' port) = true := by
      rw [List.any_eq_true]
      exact ⟨s, hsm, by simp [hs1, hs2, hs3]⟩
    rw [hany]
    simp only [cond_true]
    rw [f11_eq hP hL' hH, hm]
    rfl

theorem law3 (a b c d e f g h q i' o : Int) (p : Bool) (now : Int) (P : List HT) (L : List LT) (H : List HT) (sub i at' port : Int) : f3 a b c d e f g h q i' o p now P L H sub i at' port = some (true, ()) := by
  unfold f3
  rw [f7_eq, f8_eq]
  simp only [Option.bind_some, Bool.not_true, cond_false]
  cases hf : (decide (L.length ≤ 40) && (decide (H.length ≤ 40) && decide (P.length ≤ 6))) with
  | false => rfl
  | true =>
  simp only [Bool.and_eq_true, decide_eq_true_eq] at hf
  obtain ⟨hL, hH, hP⟩ := hf
  have hPs : Sz P := by unfold Sz; omega
  have hHs : Sz H := by unfold Sz; omega
  have hLs : Sz L := by unfold Sz; omega
  simp only [Bool.not_true, cond_false]
  have tl := tail3 (a := a) (b := b) (c := c) (d := d) (e := e) (f := f) (g := g) (h := h) (q := q) (i' := i') (o := o) (p := p) (now := now) hPs (show L.length ≤ 100 by omega) hHs at' port
  rw [f9_eq hPs (by omega) hHs]
  simp only [Option.bind_some]
  by_cases h0 : 0 ≤ i
  case neg => rw [decide_eq_false h0]; exact tl
  rw [decide_eq_true h0]
  simp only [cond_true]
  by_cases hc : isSub a b c d e f g h sub = true ∧ mayB a b c d e f g h q i' o p now P L H = true
  case neg =>
    rw [if_neg hc, decide_eq_false (show ¬ i < (([] : List HT).length : Int) by simp; omega)]
    exact tl
  rw [if_pos hc]
  have M := mayB_spec hPs hLs hHs hc.2
  have hall := fun {s : HT} (hm : s ∈ baseI a b c d e f g sub :: spansI f g h L (ofI L sub L.length)) => fun {port : Int} => whose_span M hc.1 hm (port := port)
  have hok : ∀ s ∈ baseI a b c d e f g sub :: spansI f g h L (ofI L sub L.length), s.2.1 ≤ s.2.2 := by
    intro s hm
    rcases List.mem_cons.1 hm with rfl | hm
    · exact (base_ok hc.1).2.2.1
    · unfold spansI at hm
      obtain ⟨j, hj, rfl⟩ := List.mem_map.1 hm
      obtain ⟨hk, hks⟩ := ofI_mem hj
      rw [List.getElem?_eq_getElem hk]
      exact (blk_ok (M.leases.blk _ (List.getElem_mem hk))).2.2.1
  generalize baseI a b c d e f g sub :: spansI f g h L (ofI L sub L.length) = l at hall hok ⊢
  by_cases h1 : i < ((l.length : Nat) : Int)
  case neg => rw [decide_eq_false h1]; exact tl
  have hi : i.toNat < l.length := by omega
  have hrd := rdH (l := l) hi
  have hmem := List.getElem_mem hi
  have w1 := hall hmem (Int.le_refl _) (hok _ hmem)
  have w2 := hall hmem (hok _ hmem) (Int.le_refl _)
  rw [decide_eq_true h1, decide_eq_true hi, hrd, f10_eq hPs hLs hHs, f10_eq hPs hLs hHs, if_pos hc.2, if_pos hc.2, w1, w2]
  simp only [Bool.and_self, cond_true, Option.bind_some, decide_true, Bool.not_true, cond_false]
  exact tl
end
end Go.Proofs.Zz
