/- Loops over lists, told of lists. -/
import Derived.Test.YtipajaocggpahaaGreatItl
import Derived.Test.YtipajaocggpahaaGreatSym19
namespace Go.Sy
open Go
set_option linter.unusedSimpArgs false
set_option linter.unusedVariables false
variable {α β γ δ : Type} {u : α → Option (R3 α β γ)}

theorem rd_lt {e : Ty} {xs : List e.T} {i : Nat} (h : i < List.length xs) : rd e xs i = xs[i] := by
  unfold rd
  exact (List.getElem_eq_getD _).symm

theorem it_all (st : Nat → α) {n : Nat} {y : β} (hs : ∀ j, j < n → u (st j) = some (.next (st (j + 1)))) (he : u (st n) = some (.out y)) :
    ∀ (k fuel : Nat), k ≤ n → n - k < fuel → iter fuel u (st k) = some (.inl y)
  | k, 0, _, h => by omega
  | k, fuel + 1, hk, h => by
    rcases Nat.lt_or_ge k n with hlt | hge
    · rw [it_next (hs k hlt)]
      exact it_all st hs he (k + 1) fuel (by omega) (by omega)
    · have : k = n := by omega
      subst this
      exact it_out he

theorem it_first (st : Nat → α) {n : Nat} {y : γ} (hs : ∀ j, j < n → u (st j) = some (.next (st (j + 1)))) (he : u (st n) = some (.ret y)) :
    ∀ (k fuel : Nat), k ≤ n → n - k < fuel → iter fuel u (st k) = some (.inr y)
  | k, 0, _, h => by omega
  | k, fuel + 1, hk, h => by
    rcases Nat.lt_or_ge k n with hlt | hge
    · rw [it_next (hs k hlt)]
      exact it_first st hs he (k + 1) fuel (by omega) (by omega)
    · have : k = n := by omega
      subst this
      exact it_ret he

/-- a loop that goes out of it with one answer where p says so, and else through -/
theorem it_any (st : Nat → α) (p : Nat → Bool) {n : Nat} {y : β} {z : γ} (hs : ∀ j, j < n → u (st j) = cond (p j) (some (.ret z)) (some (.next (st (j + 1))))) (he : u (st n) = some (.out y)) :
    ∀ (k fuel : Nat), k ≤ n → n - k < fuel → iter fuel u (st k) = some (cond ((List.range' k (n - k)).any p) (.inr z) (.inl y))
  | k, 0, _, h => by omega
  | k, fuel + 1, hk, h => by
    rcases Nat.lt_or_ge k n with hlt | hge
    · have e : n - k = (n - (k + 1)) + 1 := by omega
      rw [e, List.range'_succ, List.any_cons]
      have h1 := hs k hlt
      cases hp : p k with
      | true => rw [hp] at h1; rw [it_ret h1]; rfl
      | false =>
        rw [hp] at h1
        rw [it_next h1, it_any st p hs he (k + 1) fuel (by omega) (by omega)]
        rfl
    · have : k = n := by omega
      subst this
      rw [Nat.sub_self, it_out he]; rfl

/-- a loop that looks for the first one -/
theorem it_idx (l : List δ) (q : δ → Bool) (st : Nat → α) (r : Nat → γ) {y : β} (hs : ∀ j (h : j < l.length), u (st j) = cond (q l[j]) (some (.ret (r j))) (some (.next (st (j + 1))))) (he : u (st l.length) = some (.out y)) {fuel : Nat} (hf : l.length < fuel) :
    iter fuel u (st 0) = some (if l.findIdx q < l.length then .inr (r (l.findIdx q)) else .inl y) := by
  by_cases hlt : l.findIdx q < l.length
  · rw [if_pos hlt]
    refine it_first st (n := l.findIdx q) (fun j hj => ?_) ?_ 0 fuel (Nat.zero_le _) (by omega)
    · rw [hs j (by omega)]
      have : q (l[j]'(by omega)) = false := by simpa using List.not_of_lt_findIdx hj
      rw [this]; rfl
    · rw [hs _ hlt]
      have : q (l[l.findIdx q]'hlt) = true := List.findIdx_getElem
      rw [this]; rfl
  · rw [if_neg hlt]
    refine it_all st (n := l.length) (fun j hj => ?_) he 0 fuel (Nat.zero_le _) (by omega)
    rw [hs j hj]
    have : q (l[j]'(by omega)) = false := by simpa using List.not_of_lt_findIdx (p := q) (xs := l) (i := j) (by omega)
    rw [this]; rfl

theorem any_range_eq {l m : List δ} [DecidableEq δ] (hl : l.length = m.length) (p : Nat → Bool) (hp : ∀ j (h : j < l.length), p j = !decide (l[j] = m[j]'(by omega))) : (List.range' 0 (l.length - 0)).any p = !decide (l = m) := by
  by_cases h : l = m
  · subst h
    rw [decide_eq_true rfl]
    simp only [Bool.not_true, List.any_eq_false]
    intro j hj
    have hj := List.mem_range'_1.1 hj
    rw [hp j (by omega)]
    simp
  · rw [decide_eq_false h]
    simp only [Bool.not_false, List.any_eq_true]
    apply Classical.byContradiction
    intro hn
    apply h
    apply List.ext_getElem hl
    intro j h1 h2
    apply Classical.byContradiction
    intro hne
    exact hn ⟨j, List.mem_range'_1.2 (by omega), by rw [hp j h1]; simp [hne]⟩
end Go.Sy
