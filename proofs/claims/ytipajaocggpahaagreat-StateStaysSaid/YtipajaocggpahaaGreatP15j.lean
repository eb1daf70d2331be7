/- Several events; StateStays and StateJoins. -/
import Derived.Test.YtipajaocggpahaaGreatP15i
namespace Go.Proofs.Zz
open Go Go.Sy
set_option linter.unusedSimpArgs false
set_option linter.unusedVariables false

theorem inc_len : ∀ (l : List Int) (lo hi : Int), l.Pairwise (· < ·) → (∀ x ∈ l, lo ≤ x ∧ x < hi) → (l.length : Int) ≤ max 0 (hi - lo)
  | [], lo, hi, _, _ => by simp; omega
  | a :: l, lo, hi, hp, hb => by
    obtain ⟨h1, h2⟩ := List.pairwise_cons.1 hp
    have ha := hb a (by simp)
    have := inc_len l (a + 1) hi h2 (fun x hx => ⟨by have := h1 x hx; omega, (hb x (by simp [hx])).2⟩)
    rw [List.length_cons]
    omega

/-- no more is held than there are blocks -/
theorem MayS.lenH {s : ST} (M : MayS s) : s.2.2.2.2.2.length ≤ 32 := by
  have hb : ∀ x ∈ s.2.2.2.2.2, (0 ≤ x.1 ∧ x.1 < 4) ∧ 0 ≤ x.2.1 ∧ x.2.1 < 8 := fun x hx => by
    have h := (M.helds.each x hx).blk
    have := M.fit.y2
    have := M.fit.blk
    have h1 := h.2.1
    have h2 := h.2.2
    omega
  have := inc_len (s.2.2.2.2.2.map fun x => 8 * x.1 + x.2.1) 0 32 (by
    rw [List.pairwise_map]
    have hp := M.helds.srt
    refine (List.pairwise_iff_forall_sublist.2 fun {x y} hs => ?_)
    have hlt := List.pairwise_iff_forall_sublist.1 hp hs
    have hx := hb x (hs.subset (by simp))
    have hy := hb y (hs.subset (by simp))
    unfold ltH ltB at hlt
    omega) (fun z hz => by
    obtain ⟨x, hx, rfl⟩ := List.mem_map.1 hz
    have := hb x hx
    omega)
  rw [List.length_map] at this
  omega

theorem MayS.sm {s : ST} (M : MayS s) : Sm s := ⟨by have := M.pools.len; omega, by have := M.len; omega, by have := M.lenH; omega⟩

/-- a state, cell by cell -/
abbrev fl (s : ST) : Int × Int × Int × Int × Int × Int × Int × Int × Int × Int × Int × Bool × Int × List HT × List LT × List HT × Unit :=
  (s.1.1.1, (s.1.1.2, (s.1.2.1.1, (s.1.2.1.2, (s.1.2.2.1, (s.1.2.2.2.1, (s.1.2.2.2.2.1, (s.1.2.2.2.2.2, (s.2.1.1, (s.2.1.2.1, (s.2.1.2.2.1, (s.2.1.2.2.2, (s.2.2.1, (s.2.2.2.1, (s.2.2.2.2.1, (s.2.2.2.2.2, ()))))))))))))))))
abbrev fl0 : Int × Int × Int × Int × Int × Int × Int × Int × Int × Int × Int × Bool × Int × Unit × Unit × Unit × Unit :=
  (0, (0, (0, (0, (0, (0, (0, (0, (0, (0, (0, (false, (0, ((), ((), ((), ()))))))))))))))))

/-- short enough lists for one event more -/
def Sm9 (s : ST) : Prop := s.2.2.2.1.length ≤ 900 ∧ s.2.2.2.2.1.length ≤ 900 ∧ s.2.2.2.2.2.length ≤ 900
theorem MayS.sm9 {s : ST} (M : MayS s) : Sm9 s := ⟨by have := M.pools.len; omega, by have := M.len; omega, by have := M.lenH; omega⟩
theorem Few.sm9 {s : ST} (h : Few s) : Sm9 s := ⟨by have := h.2.2; omega, by have := h.1; omega, by have := h.2.1; omega⟩
theorem Sm9.sm {s : ST} (h : Sm9 s) : Sm s := ⟨by have := h.1; omega, by have := h.2.1; omega, by have := h.2.2; omega⟩

theorem apply_sm9 {s : ST} {e : ET} (h : Sm9 s) : Sm9 (applyS s e).1 := by
  by_cases he : (applyS s e).2 = 0
  · exact (apply_may he).2.2.2.1.sm9
  · rw [apply_err he]; exact h

theorem go_sm9 : ∀ (l : List ET) {s : ST}, Sm9 s → Sm9 (goS s l).1
  | [], s, h => h
  | e :: l, s, h => by
    unfold goS
    split
    · exact go_sm9 l (apply_sm9 h)
    · exact h

theorem rdE {l : List ET} {j : Nat} (h : j < l.length) : rd (.pair (.int .i64) (.pair (.int .i64) (.pair (.int .i64) (.pair (.int .i64) (.pair (.int .i64) (.pair (.int .i64) (.pair (.int .i64) (.pair (.int .i64) .bool)))))))) l j = l[j] := rd_lt h

theorem loop16 (s : ST) (l : List ET) (hl : l.length ≤ 9223372036854775807) : ∀ (d j : Nat) (t : ST) (fuel : Nat), j + d = l.length → d < fuel → Sm9 t →
    iter fuel u16_4 (((), ((), ((), (0, (l, (((l.length : Nat) : Int), (((j : Nat) : Int), ()))))))), ((fl s, (fl0, (fl t, ()))), ([], ([], ([], ()))))) =
      some (.inl (((), ((), ((), ((goS t (l.drop j)).2, ())))), ((fl s, (fl0, (fl (goS t (l.drop j)).1, ()))), ([], ([], ([], ()))))))
  | _, j, t, 0, _, h, _ => by omega
  | 0, j, t, fuel + 1, hj, _, ht => by
    have : j = l.length := by omega
    subst this
    rw [List.drop_length]
    refine it_out ?_
    simp only [u16_4, t16_4, nlt, cond_false, fl, fl0, goS]
  | d + 1, j, t, fuel + 1, hj, hf, ht => by
    have hlt : j < l.length := by omega
    have hd : l.drop j = l[j] :: l.drop (j + 1) := by rw [List.drop_eq_getElem_cons hlt]
    have h15 := f15_eq t l[j] ht.1 ht.2.1 ht.2.2
    rw [hd]
    by_cases he : (applyS t l[j]).2 = 0
    · have hu : u16_4 (((), ((), ((), (0, (l, (((l.length : Nat) : Int), (((j : Nat) : Int), ()))))))), ((fl s, (fl0, (fl t, ()))), ([], ([], ([], ()))))) =
          some (.next (((), ((), ((), (0, (l, (((l.length : Nat) : Int), (((j + 1 : Nat) : Int), ()))))))), ((fl s, (fl0, (fl (applyS t l[j]).1, ()))), ([], ([], ([], ())))))) := by
        simp only [u16_4, t16_4, fl, fl0, ltn hlt, ge0, cond_true, Bool.and_self, Int.toNat_natCast, rdE hlt, h15, Option.bind_some, nx hlt hl, he, decide_true, Bool.not_true, cond_false]
      rw [it_next hu, loop16 s l hl d (j + 1) (applyS t l[j]).1 fuel (by omega) (by omega) (apply_sm9 ht)]
      have hg : goS t (l[j] :: l.drop (j + 1)) = goS (applyS t l[j]).1 (l.drop (j + 1)) := by rw [goS, if_pos he]
      rw [hg]
    · have hg : goS t (l[j] :: l.drop (j + 1)) = (t, (applyS t l[j]).2) := by rw [goS, if_neg he]
      rw [hg]
      have hu : u16_4 (((), ((), ((), (0, (l, (((l.length : Nat) : Int), (((j : Nat) : Int), ()))))))), ((fl s, (fl0, (fl t, ()))), ([], ([], ([], ()))))) =
          some (.out (((), ((), ((), ((applyS t l[j]).2, ())))), ((fl s, (fl0, (fl t, ()))), ([], ([], ([], ())))))) := by
        simp only [u16_4, t16_4, fl, fl0, ltn hlt, ge0, cond_true, Bool.and_self, Int.toNat_natCast, rdE hlt, h15, Option.bind_some, decide_eq_false he, Bool.not_false, apply_err he]
      exact it_out hu

theorem f16_eq (s : ST) (l : List ET) (h : Sm9 s) (hl : l.length ≤ 9223372036854775807) :
    f16 s.1.1.1 s.1.1.2 s.1.2.1.1 s.1.2.1.2 s.1.2.2.1 s.1.2.2.2.1 s.1.2.2.2.2.1 s.1.2.2.2.2.2 s.2.1.1 s.2.1.2.1 s.2.1.2.2.1 s.2.1.2.2.2 s.2.2.1 s.2.2.2.1 s.2.2.2.2.1 s.2.2.2.2.2 l = some ((allS' s l).1, ((allS' s l).2, ())) := by
  unfold f16 allS'
  rw [f20_eq s h.sm]
  simp only [Option.bind_some]
  have := loop16 s l hl l.length 0 s big (by omega) (by unfold big; omega) h
  rw [show (((0 : Nat) : Int)) = 0 from rfl] at this
  rw [this, List.drop_zero]
  simp only [Option.bind_some, fl]
  by_cases he : (goS s l).2 = 0
  · rw [decide_eq_true he, if_pos he]
    simp only [Bool.not_true, cond_false, he]
  · rw [decide_eq_false he, if_neg he]
    simp only [Bool.not_false, cond_true]
    rw [f20_eq s h.sm]
    rfl

/-! plain laws -/
theorem go_append : ∀ (l m : List ET) (s : ST), goS s (l ++ m) = if (goS s l).2 = 0 then goS (goS s l).1 m else goS s l
  | [], m, s => by simp [goS]
  | e :: l, m, s => by
    rw [List.cons_append, goS, goS]
    by_cases he : (applyS s e).2 = 0
    · rw [if_pos he, if_pos he, go_append l m]
    · rw [if_neg he, if_neg he, if_neg he]

end Go.Proofs.Zz
