/- Lists compared and cleaned, states settled: the program's functions in the model's words. -/
import Derived.Test.YtipajaocggpahaaGreatP15d
import Derived.Test.YtipajaocggpahaaGreatM2
import Derived.Test.YtipajaocggpahaaGreatItd
namespace Go.Proofs.Zz
open Go Go.Sy
set_option linter.unusedSimpArgs false
set_option linter.unusedVariables false

theorem fCP (l : List HT) (hl : l.length ≤ 1000) : fClonePool l = some (l, ()) := by
  unfold fClonePool fClone
  rw [Nat.ble_eq_true_of_le (show l.length * 24 ≤ 140737488355328 by omega)]; rfl
theorem fCL (l : List LT) (hl : l.length ≤ 1000) : fCloneLease l = some (l, ()) := by
  unfold fCloneLease fClone
  rw [Nat.ble_eq_true_of_le (show l.length * 40 ≤ 140737488355328 by omega)]; rfl
theorem fCH (l : List HT) (hl : l.length ≤ 1000) : fCloneHeld l = some (l, ()) := by
  unfold fCloneHeld fClone
  rw [Nat.ble_eq_true_of_le (show l.length * 24 ≤ 140737488355328 by omega)]; rfl

theorem f66_eq (l m : List HT) (hl : Sz l) : f66 l m = some (decide (l = m), ()) := by
  unfold f66
  by_cases hlen : l.length = m.length
  · rw [decide_eq_true (show ((l.length : Nat) : Int) = ((m.length : Nat) : Int) by omega)]
    simp only [Bool.not_true, cond_false]
    have e : iter big u66_4 ((l, (m, (((l.length : Nat) : Int), (0, ())))), ((), ())) = _ := it_any (fun j => ((l, (m, (((l.length : Nat) : Int), (((j : Nat) : Int), ())))), ((), ()))) (fun j => !decide (rd (.pair (.int .i64) (.pair (.int .i64) (.int .i64))) l j = rd (.pair (.int .i64) (.pair (.int .i64) (.int .i64))) m j))
      (n := l.length) (z := ((false, ()), ((), ()))) (y := ((), ((), ()))) (fun j hj => by
        simp only [u66_4, t66_4, ltn hj, ge0, ltn (show j < m.length by omega), nx hj hl, cond_true, Bool.and_self, Int.toNat_natCast, ht_eq])
      (by simp only [u66_4, t66_4, nlt, cond_false]) 0 big (Nat.zero_le _) (by unfold big; omega)
    rw [e, any_range_eq hlen _ (fun j h => by rw [rd_lt h, rd_lt (by omega)])]
    cases decide (l = m) <;> rfl
  · rw [decide_eq_false (show ¬ ((l.length : Nat) : Int) = ((m.length : Nat) : Int) by omega), decide_eq_false (fun h => hlen (by rw [h]))]
    rfl

theorem f68_eq (l m : List HT) (hl : Sz l) : f68 l m = some (decide (l = m), ()) := by
  unfold f68
  by_cases hlen : l.length = m.length
  · rw [decide_eq_true (show ((l.length : Nat) : Int) = ((m.length : Nat) : Int) by omega)]
    simp only [Bool.not_true, cond_false]
    have e : iter big u68_4 ((l, (m, (((l.length : Nat) : Int), (0, ())))), ((), ())) = _ := it_any (fun j => ((l, (m, (((l.length : Nat) : Int), (((j : Nat) : Int), ())))), ((), ()))) (fun j => !decide (rd (.pair (.int .i64) (.pair (.int .i64) (.int .i64))) l j = rd (.pair (.int .i64) (.pair (.int .i64) (.int .i64))) m j))
      (n := l.length) (z := ((false, ()), ((), ()))) (y := ((), ((), ()))) (fun j hj => by
        simp only [u68_4, t68_4, ltn hj, ge0, ltn (show j < m.length by omega), nx hj hl, cond_true, Bool.and_self, Int.toNat_natCast, ht_eq])
      (by simp only [u68_4, t68_4, nlt, cond_false]) 0 big (Nat.zero_le _) (by unfold big; omega)
    rw [e, any_range_eq hlen _ (fun j h => by rw [rd_lt h, rd_lt (by omega)])]
    cases decide (l = m) <;> rfl
  · rw [decide_eq_false (show ¬ ((l.length : Nat) : Int) = ((m.length : Nat) : Int) by omega), decide_eq_false (fun h => hlen (by rw [h]))]
    rfl

theorem f67_eq (l m : List LT) (hl : Sz l) : f67 l m = some (decide (l = m), ()) := by
  unfold f67
  by_cases hlen : l.length = m.length
  · rw [decide_eq_true (show ((l.length : Nat) : Int) = ((m.length : Nat) : Int) by omega)]
    simp only [Bool.not_true, cond_false]
    have e : iter big u67_4 ((l, (m, (((l.length : Nat) : Int), (0, ())))), ((), ())) = _ := it_any (fun j => ((l, (m, (((l.length : Nat) : Int), (((j : Nat) : Int), ())))), ((), ()))) (fun j => !decide (rd (.pair (.int .i64) (.pair (.int .i64) (.pair (.int .i64) (.pair (.int .i64) (.int .i64))))) l j = rd (.pair (.int .i64) (.pair (.int .i64) (.pair (.int .i64) (.pair (.int .i64) (.int .i64))))) m j))
      (n := l.length) (z := ((false, ()), ((), ()))) (y := ((), ((), ()))) (fun j hj => by
        simp only [u67_4, t67_4, ltn hj, ge0, ltn (show j < m.length by omega), nx hj hl, cond_true, Bool.and_self, Int.toNat_natCast, lt_eq])
      (by simp only [u67_4, t67_4, nlt, cond_false]) 0 big (Nat.zero_le _) (by unfold big; omega)
    rw [e, any_range_eq hlen _ (fun j h => by rw [rd_lt h, rd_lt (by omega)])]
    cases decide (l = m) <;> rfl
  · rw [decide_eq_false (show ¬ ((l.length : Nat) : Int) = ((m.length : Nat) : Int) by omega), decide_eq_false (fun h => hlen (by rw [h]))]
    rfl

theorem f35_eq (l m : List HT) (hl : Sz l) : f35 l m = some (decide (l = m), ()) := by unfold f35; rw [f66_eq l m hl]; rfl
theorem f36_eq (l m : List LT) (hl : Sz l) : f36 l m = some (decide (l = m), ()) := by unfold f36; rw [f67_eq l m hl]; rfl
theorem f37_eq (l m : List HT) (hl : Sz l) : f37 l m = some (decide (l = m), ()) := by unfold f37; rw [f68_eq l m hl]; rfl

/-- lists as long as the statements' guards, and the states that come of them -/
structure Sm (s : ST) : Prop where
  p : s.2.2.2.1.length ≤ 1000
  l : s.2.2.2.2.1.length ≤ 1000
  h : s.2.2.2.2.2.length ≤ 1000

theorem Sm.szP {s : ST} (h : Sm s) : Sz s.2.2.2.1 := by have := h.p; unfold Sz; omega
theorem Sm.szL {s : ST} (h : Sm s) : Sz s.2.2.2.2.1 := by have := h.l; unfold Sz; omega
theorem Sm.szH {s : ST} (h : Sm s) : Sz s.2.2.2.2.2 := by have := h.h; unfold Sz; omega

/-- states are the same -/
theorem f13_eq (s t : ST) (h : Sm s) :
    f13 s.1.1.1 s.1.1.2 s.1.2.1.1 s.1.2.1.2 s.1.2.2.1 s.1.2.2.2.1 s.1.2.2.2.2.1 s.1.2.2.2.2.2 s.2.1.1 s.2.1.2.1 s.2.1.2.2.1 s.2.1.2.2.2 s.2.2.1 s.2.2.2.1 s.2.2.2.2.1 s.2.2.2.2.2
      t.1.1.1 t.1.1.2 t.1.2.1.1 t.1.2.1.2 t.1.2.2.1 t.1.2.2.2.1 t.1.2.2.2.2.1 t.1.2.2.2.2.2 t.2.1.1 t.2.1.2.1 t.2.1.2.2.1 t.2.1.2.2.2 t.2.2.1 t.2.2.2.1 t.2.2.2.2.1 t.2.2.2.2.2 = some (decide (s = t), ()) := by
  unfold f13
  rw [f35_eq _ _ h.szP, f36_eq _ _ h.szL, f37_eq _ _ h.szH]
  obtain ⟨⟨⟨a, b⟩, ⟨c, d⟩, e, f, g, w⟩, ⟨q, i, o, p⟩, n, P, L, H⟩ := s
  obtain ⟨⟨⟨a', b'⟩, ⟨c', d'⟩, e', f', g', w'⟩, ⟨q', i', o', p'⟩, n', P', L', H'⟩ := t
  simp only [Option.bind_some]
  by_cases h1 : a = a' ∧ b = b' ∧ c = c' ∧ d = d' ∧ e = e' ∧ f = f' ∧ g = g' ∧ w = w'
  case neg =>
    have : ((decide (a = a') && (decide (b = b') && true)) && ((decide (c = c') && (decide (d = d') && true)) && (decide (e = e') && (decide (f = f') && (decide (g = g') && (decide (w = w') && true)))))) = false := by
      rw [Bool.eq_false_iff]
      intro h
      simp only [Bool.and_eq_true, decide_eq_true_eq, and_true] at h
      exact h1 ⟨h.1.1, h.1.2, h.2.1.1, h.2.1.2, h.2.2.1, h.2.2.2.1, h.2.2.2.2.1, h.2.2.2.2.2⟩
    have hne : ¬ ((((a, b), ((c, d), (e, (f, (g, w))))), ((q, (i, (o, p))), (n, (P, (L, H))))) : ST) = (((a', b'), ((c', d'), (e', (f', (g', w'))))), ((q', (i', (o', p'))), (n', (P', (L', H'))))) := by
      intro h
      simp only [Prod.mk.injEq] at h
      exact h1 ⟨h.1.1.1, h.1.1.2, h.1.2.1.1, h.1.2.1.2, h.1.2.2.1, h.1.2.2.2.1, h.1.2.2.2.2.1, h.1.2.2.2.2.2⟩
    rw [this, decide_eq_false hne]; rfl
  obtain ⟨rfl, rfl, rfl, rfl, rfl, rfl, rfl, rfl⟩ := h1
  simp only [decide_true, Bool.and_self, cond_true, Bool.and_true, Bool.true_and]
  by_cases h2 : q = q' ∧ i = i' ∧ o = o' ∧ p = p'
  case neg =>
    have : (decide (q = q') && (decide (i = i') && (decide (o = o') && (p == p')))) = false := by
      rw [Bool.eq_false_iff]
      intro h
      simp only [Bool.and_eq_true, decide_eq_true_eq, beq_iff_eq] at h
      exact h2 ⟨h.1, h.2.1, h.2.2.1, h.2.2.2⟩
    have hne : ¬ ((((a, b), ((c, d), (e, (f, (g, w))))), ((q, (i, (o, p))), (n, (P, (L, H))))) : ST) = (((a, b), ((c, d), (e, (f, (g, w))))), ((q', (i', (o', p'))), (n', (P', (L', H'))))) := by
      intro h
      simp only [Prod.mk.injEq, true_and] at h
      exact h2 ⟨h.1.1, h.1.2.1, h.1.2.2.1, h.1.2.2.2⟩
    rw [this, decide_eq_false hne]; rfl
  obtain ⟨rfl, rfl, rfl, rfl⟩ := h2
  simp only [decide_true, Bool.and_self, cond_true, Bool.and_true, Bool.true_and, beq_self_eq_true]
  by_cases h3 : n = n'
  case neg =>
    have hne : ¬ ((((a, b), ((c, d), (e, (f, (g, w))))), ((q, (i, (o, p))), (n, (P, (L, H))))) : ST) = (((a, b), ((c, d), (e, (f, (g, w))))), ((q, (i, (o, p))), (n', (P', (L', H'))))) := fun k => h3 (congrArg (fun s : ST => s.2.2.1) k)
    rw [decide_eq_false h3, decide_eq_false hne]; rfl
  subst h3
  simp only [decide_true, cond_true]
  by_cases h4 : P = P'
  case neg =>
    have hne : ¬ ((((a, b), ((c, d), (e, (f, (g, w))))), ((q, (i, (o, p))), (n, (P, (L, H))))) : ST) = (((a, b), ((c, d), (e, (f, (g, w))))), ((q, (i, (o, p))), (n, (P', (L', H'))))) := fun k => h4 (congrArg (fun s : ST => s.2.2.2.1) k)
    rw [decide_eq_false h4, decide_eq_false hne]; rfl
  subst h4
  simp only [decide_true, cond_true]
  by_cases h5 : L = L'
  case neg =>
    have hne : ¬ ((((a, b), ((c, d), (e, (f, (g, w))))), ((q, (i, (o, p))), (n, (P, (L, H))))) : ST) = (((a, b), ((c, d), (e, (f, (g, w))))), ((q, (i, (o, p))), (n, (P, (L', H'))))) := fun k => h5 (congrArg (fun s : ST => s.2.2.2.2.1) k)
    rw [decide_eq_false h5, decide_eq_false hne]; rfl
  subst h5
  simp only [decide_true, cond_true]
  by_cases h6 : H = H'
  case neg =>
    have hne : ¬ ((((a, b), ((c, d), (e, (f, (g, w))))), ((q, (i, (o, p))), (n, (P, (L, H))))) : ST) = (((a, b), ((c, d), (e, (f, (g, w))))), ((q, (i, (o, p))), (n, (P, (L, H'))))) := fun k => h6 (congrArg (fun s : ST => s.2.2.2.2.2) k)
    rw [decide_eq_false h6, decide_eq_false hne]
  subst h6
  simp

theorem f20_eq (s : ST) (h : Sm s) :
    f20 s.1.1.1 s.1.1.2 s.1.2.1.1 s.1.2.1.2 s.1.2.2.1 s.1.2.2.2.1 s.1.2.2.2.2.1 s.1.2.2.2.2.2 s.2.1.1 s.2.1.2.1 s.2.1.2.2.1 s.2.1.2.2.2 s.2.2.1 s.2.2.2.1 s.2.2.2.2.1 s.2.2.2.2.2 = some (s, ()) := by
  unfold f20
  rw [fCP _ h.p, fCL _ h.l, fCH _ h.h]; rfl

theorem f21_eq (H : List HT) (hH : H.length ≤ 1000) (now : Int) : f21 H now = some (cleanH H now, ()) := by
  have hS : Sz H := by unfold Sz; omega
  unfold f21
  rw [fCH H hH]
  simp only [Option.bind_some]
  have e : iter big u21_94_2_0 (((), ((), (((H.length : Nat) : Int), (0, ())))), (((now, ()), (H, ())), ())) = _ :=
    it_idx H (fun x => decide (x.2.2 ≤ now)) (fun j => (((), ((), (((H.length : Nat) : Int), (((j : Nat) : Int), ())))), (((now, ()), (H, ())), ()))) (fun j => ((((j : Nat) : Int), ()), (((now, ()), (H, ())), ())))
      (y := ((), (((now, ()), (H, ())), ()))) (fun j h => by
        simp only [u21_94_2_0, t21_94_2_0, ltn h, ge0, cond_true, Bool.and_self, Int.toNat_natCast, rdH h, decide_eq_true h, nx h hS])
      (by simp only [u21_94_2_0, t21_94_2_0, nlt, cond_false]) (fuel := big) (by unfold big; omega)
  rw [e]
  by_cases hlt : H.findIdx (fun x => decide (x.2.2 ≤ now)) < H.length
  · rw [if_pos hlt]
    simp only [Option.bind_some]
    rw [decide_eq_false (show ¬ ((H.findIdx (fun x => decide (x.2.2 ≤ now)) : Nat) : Int) = -1 by omega), nx hlt hS]
    simp only [cond_false]
    obtain ⟨k, l', k1, k2, k3, k4⟩ := del_all (u := u21_50_5_0) (fun x : HT => decide (x.2.2 ≤ now)) (fun i j l => (((), ((), (((i : Nat) : Int), (((j : Nat) : Int), ())))), (((now, ()), (l, ())), ())))
      (fun i l => (((), (((i : Nat) : Int), ())), (((now, ()), (l, ())), ()))) H (fun i j l h hi hN => by
        have hsz : l.length ≤ 9223372036854775807 := by omega
        simp only [u21_50_5_0, t21_50_5_0, ltn h, ge0, cond_true, Bool.and_self, Int.toNat_natCast, rdH h, decide_eq_true h, nx h hsz]
        by_cases hd : l[j].2.2 ≤ now
        · rw [decide_eq_true hd]; simp only [Bool.not_true, cond_false, if_true]
        · rw [decide_eq_false hd, ltn (show i < l.length by omega), decide_eq_true (show i < l.length by omega), nx (show i < l.length by omega) hsz]; rfl)
      (fun i l h => by simp only [u21_50_5_0, t21_50_5_0, nlt, cond_false]) (by unfold big; omega) hlt
    rw [k1]
    simp only [Option.bind_some, Nat.sub_zero, Nat.zero_add, Int.zero_add, Int.toNat_natCast, ge0, Bool.true_and]
    have hk : k ≤ l'.length := by rw [k2, k4]; exact List.length_filter_le _ _
    have hlen : (l'.take k ++ List.replicate (l'.length - k) ((0, (0, 0)) : HT) ++ l'.drop (k + (l'.length - k))).length = l'.length := by
      simp only [List.length_append, List.length_take, List.length_replicate, List.length_drop]; omega
    rw [dec_le hk, dec_le (Nat.le_refl l'.length)]
    simp only [Bool.and_self, cond_true, hlen]
    rw [dec_le hk]
    simp only [cond_true]
    rw [List.append_assoc, List.take_append_of_le_length (by rw [List.length_take]; omega), List.take_take, Nat.min_self, k3]
    rfl
  · rw [if_neg hlt]
    simp only [Option.bind_some]
    have : cleanH H now = H := by
      unfold cleanH
      rw [List.filter_eq_self]
      intro x hx
      rw [List.findIdx_lt_length] at hlt
      cases hd : decide (x.2.2 ≤ now) with
      | false => rfl
      | true => exact absurd ⟨x, hx, hd⟩ hlt
    rw [this]
end Go.Proofs.Zz
