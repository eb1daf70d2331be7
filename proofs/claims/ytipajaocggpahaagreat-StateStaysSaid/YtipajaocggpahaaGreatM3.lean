/- The model: what is done to pools; events, and what they make of states. -/
import Derived.Test.YtipajaocggpahaaGreatM2
namespace Go.Proofs.Zz
open Go Go.Sy
set_option linter.unusedSimpArgs false
set_option linter.unusedVariables false

/-- an event: its kind, when, three numbers, a policy -/
abbrev ET := Int × (Int × (Int × (Int × (Int × PT))))

def rng (n a b : Int) : Prop := a ≤ n ∧ n ≤ b
instance (n a b : Int) : Decidable (rng n a b) := by unfold rng; infer_instance

def evBody (k a b c : Int) (p : PT) : Prop :=
  if k = 0 ∨ k = 1 then rng a 0 31 ∧ rng b 0 3 ∧ rng c 0 7
  else if k = 2 then rng a 0 3 ∧ rng b 1 4 ∧ rng c 0 0
  else if k = 4 then rng a 0 2 ∧ rng b 1 4 ∧ rng c 0 0
  else if k = 3 ∨ k = 5 then rng a 0 2 ∧ rng b 0 0 ∧ rng c 0 0
  else if k = 6 then PolP p ∧ rng a 0 0 ∧ rng b 0 0 ∧ rng c 0 0
  else False
instance (k a b c : Int) (p : PT) : Decidable (evBody k a b c p) := by unfold evBody; infer_instance

/-- an event that may be -/
def MayE (e : ET) : Prop := rng e.2.1 0 1073741824 ∧ (e.1 ≠ 6 → e.2.2.2.2.2 = (0, (0, (0, false)))) ∧ evBody e.1 e.2.2.1 e.2.2.2.1 e.2.2.2.2.1 e.2.2.2.2.2
instance (e : ET) : Decidable (MayE e) := by unfold MayE; infer_instance

/-! pools -/
abbrev nthP (P : List HT) (k : Int) : HT := P.getD k.toNat (0, (0, 0))
/-- why a pool can't stand beside all others but one -/
def roomE (P : List HT) (out but : Int) (p : HT) : Int :=
  if ¬ FitsP p out then 1
  else if (List.range P.length).any (fun j => !decide ((j : Int) = but) && meetB p (P.getD j (0, (0, 0)))) = true then 11
  else if but = -1 ∧ P.length = 3 then 9 else 0

/-- an address that is had, of one pool, but not of another one -/
def lostB (busy : List Int) (p q : HT) : Bool := busy.any fun at' => hasB p at' && !hasB q at'

noncomputable def addP (P : List HT) (out a n : Int) : List HT × Int :=
  if ¬ PoolsP P out then (P, 1)
  else if roomE P out (-1) (a, (n, 0)) ≠ 0 then (P, roomE P out (-1) (a, (n, 0)))
  else (P ++ [(a, (n, 0))], 0)
noncomputable def drainP (P : List HT) (out k : Int) : List HT × Int :=
  if ¬ PoolsP P out then (P, 1)
  else if k < 0 ∨ (P.length : Int) ≤ k then (P, 5)
  else if (nthP P k).2.2 = 1 then (P, 11)
  else (P.set k.toNat ((nthP P k).1, ((nthP P k).2.1, 1)), 0)
noncomputable def sizeP (P : List HT) (out k n : Int) (busy : List Int) : List HT × Int :=
  if ¬ PoolsP P out then (P, 1)
  else if k < 0 ∨ (P.length : Int) ≤ k then (P, 5)
  else if roomE P out k ((nthP P k).1, (n, (nthP P k).2.2)) ≠ 0 then (P, roomE P out k ((nthP P k).1, (n, (nthP P k).2.2)))
  else if lostB busy (nthP P k) ((nthP P k).1, (n, (nthP P k).2.2)) = true then (P, 12)
  else (P.set k.toNat ((nthP P k).1, (n, (nthP P k).2.2)), 0)
noncomputable def goneP (P : List HT) (out k : Int) (busy : List Int) : List HT × Int :=
  if ¬ PoolsP P out then (P, 1)
  else if k < 0 ∨ (P.length : Int) ≤ k then (P, 5)
  else if (nthP P k).2.2 = 0 ∨ lostB busy (nthP P k) (0, (0, 0)) = true then (P, 12)
  else (P.eraseIdx k.toNat, 0)

/-! events -/
abbrev setPools (t : ST) (P : List HT) : ST := (t.1, (t.2.1, (t.2.2.1, (P, (t.2.2.2.2.1, t.2.2.2.2.2)))))
abbrev setL (t : ST) (L : List LT) : ST := (t.1, (t.2.1, (t.2.2.1, (t.2.2.2.1, (L, t.2.2.2.2.2)))))
abbrev setLH (t : ST) (L : List LT) (H : List HT) : ST := (t.1, (t.2.1, (t.2.2.1, (t.2.2.2.1, (L, H)))))
abbrev setPol (t : ST) (p : PT) : ST := (t.1, (p, (t.2.2.1, (t.2.2.2.1, (t.2.2.2.2.1, t.2.2.2.2.2)))))
def errO (t : ST) (r : List HT × Int) : Option ST := if r.2 = 0 then some (setPools t r.1) else none

def freeS (t : ST) (e : ET) : Option ST :=
  if findL t.2.2.2.2.1 e.2.2.2.1 e.2.2.2.2.1 = -1 then none
  else if (t.2.2.2.2.1.getD (findL t.2.2.2.2.1 e.2.2.2.1 e.2.2.2.2.1).toNat (0, (0, (0, (0, 0))))).1 ≠ e.2.2.1 then none
  else some (setLH t (delL t.2.2.2.2.1 e.2.2.2.1 e.2.2.2.2.1) (if 0 < t.2.1.2.2.1 then holdH t.2.2.2.2.2 (e.2.2.2.1, (e.2.2.2.2.1, e.2.1 + t.2.1.2.2.1)) else t.2.2.2.2.2))

/-- what an event makes of a settled state -/
noncomputable def makeS (t : ST) (e : ET) : Option ST :=
  if e.1 = 0 then (if (putL t.2.2.2.2.1 (e.2.2.1, (e.2.2.2.1, (e.2.2.2.2.1, (e.2.1, e.2.1))))).2 = true then some (setL t (putL t.2.2.2.2.1 (e.2.2.1, (e.2.2.2.1, (e.2.2.2.2.1, (e.2.1, e.2.1))))).1) else none)
  else if e.1 = 1 then freeS t e
  else if e.1 = 6 then some (setPol t e.2.2.2.2.2)
  else if e.1 = 2 then errO t (addP t.2.2.2.1 (szY t.1) e.2.2.1 e.2.2.2.1)
  else if e.1 = 3 then errO t (drainP t.2.2.2.1 (szY t.1) e.2.2.1)
  else if e.1 = 4 then errO t (sizeP t.2.2.2.1 (szY t.1) e.2.2.1 e.2.2.2.1 (busyL t.2.2.2.2.1))
  else errO t (goneP t.2.2.2.1 (szY t.1) e.2.2.1 (busyL t.2.2.2.2.1))

noncomputable def applyS (s : ST) (e : ET) : ST × Int :=
  if ¬ MayS s ∨ ¬ MayE e then (s, 1)
  else if ¬ CanSettle s e.2.1 then (s, 10)
  else match makeS (settleS s e.2.1) e with
    | none => (s, 2)
    | some t => if MayS t then (t, 0) else (s, 2)

/-- what several make, as far as they go -/
noncomputable def goS (s : ST) : List ET → ST × Int
  | [] => (s, 0)
  | e :: l => if (applyS s e).2 = 0 then goS (applyS s e).1 l else (s, (applyS s e).2)
noncomputable def allS' (s : ST) (l : List ET) : ST × Int := if (goS s l).2 = 0 then goS s l else (s, (goS s l).2)

theorem apply_err {s : ST} {e : ET} (h : (applyS s e).2 ≠ 0) : (applyS s e).1 = s := by
  unfold applyS at h ⊢
  split
  · rfl
  · split
    · rfl
    · rename_i h1 h2
      rw [if_neg h1, if_neg h2] at h
      split
      · rfl
      · rename_i t ht
        rw [ht] at h
        simp only at h
        split
        · rename_i hm; rw [if_pos hm] at h; exact absurd rfl h
        · rfl

theorem apply_may {s : ST} {e : ET} (h : (applyS s e).2 = 0) : MayS s ∧ MayE e ∧ CanSettle s e.2.1 ∧ MayS (applyS s e).1 ∧ makeS (settleS s e.2.1) e = some (applyS s e).1 := by
  unfold applyS at h ⊢
  split at h
  · cases h
  · rename_i h1
    split at h
    · cases h
    · rename_i h2
      rw [if_neg h1, if_neg h2]
      have hM : MayS s := Classical.not_not.1 fun k => h1 (.inl k)
      have hE : MayE e := Classical.not_not.1 fun k => h1 (.inr k)
      split at h
      · cases h
      · rename_i t ht
        split at h
        · rename_i hm
          rw [ht]
          show MayS s ∧ MayE e ∧ CanSettle s e.2.1 ∧ MayS (if MayS t then (t, (0 : Int)) else (s, 2)).1 ∧ some t = some (if MayS t then (t, (0 : Int)) else (s, 2)).1
          rw [if_pos hm]
          exact ⟨hM, hE, Classical.not_not.1 h2, hm, rfl⟩
        · cases h

theorem make_keeps {t u : ST} {e : ET} (h : makeS t e = some u) : u.1 = t.1 ∧ u.2.2.1 = t.2.2.1 := by
  unfold makeS freeS errO at h
  repeat' split at h
  all_goals first | (cases h; exact ⟨rfl, rfl⟩) | cases h
end Go.Proofs.Zz
