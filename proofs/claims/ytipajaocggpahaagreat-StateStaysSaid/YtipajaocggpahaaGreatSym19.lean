/- Tables of contracts and of loops' summaries. -/
import Derived.Test.YtipajaocggpahaaGreatSym18
namespace Go.Sy
open Go Go.RowKit
set_option linter.unusedSimpArgs false
set_option linter.unusedVariables false

abbrev big : Nat := 18446744073709551616

def lookT {α : Type} : List (Nat × α) → Nat → Option α
  | [], _ => none
  | p :: l, k => cond (Nat.beq k p.1) (some p.2) (lookT l k)

def AllOK [Glob] (P : Program) : List (Nat × Con) → Prop
  | [] => True
  | p :: l => p.2.OK P p.1 ∧ AllOK P l

def AllU [Glob] (P : Program) : List (Nat × UCon) → Prop
  | [] => True
  | p :: l => p.2.OK P p.1 ∧ AllU P l

theorem lookT_ok [Glob] {P : Program} : ∀ {l : List (Nat × Con)}, AllOK P l → ∀ k c, lookT l k = some c → c.OK P k
  | [], _, k, c, h => by simp [lookT] at h
  | p :: l, ha, k, c, h => by
    simp only [lookT] at h
    cases hb : Nat.beq k p.1 with
    | true =>
      rw [hb] at h
      simp only [cond_true, Option.some.injEq] at h
      subst h
      rw [Nat.eq_of_beq_eq_true hb]
      exact ha.1
    | false => rw [hb] at h; exact lookT_ok ha.2 k c h

theorem lookU_ok [Glob] {P : Program} : ∀ {l : List (Nat × UCon)}, AllU P l → ∀ k c, lookT l k = some c → c.OK P k
  | [], _, k, c, h => by simp [lookT] at h
  | p :: l, ha, k, c, h => by
    simp only [lookT] at h
    cases hb : Nat.beq k p.1 with
    | true =>
      rw [hb] at h
      simp only [cond_true, Option.some.injEq] at h
      subst h
      rw [Nat.eq_of_beq_eq_true hb]
      exact ha.1
    | false => rw [hb] at h; exact lookU_ok ha.2 k c h

def lookC (l : List (Nat × Con)) (u : List (Nat × UCon)) : Cons := ⟨lookT l, lookT u⟩

/-- the ranges over functions that memory's records speak of are the program's -/
class RngG [Glob] (P : Program) : Prop where
  ok : ∀ k r, Glob.rng k r = rangeIn P k r

theorem lookC_ok [Glob] {P : Program} [RngG P] {l : List (Nat × Con)} {u : List (Nat × UCon)} (h : AllOK P l) (h' : AllU P u) : TabsOK P (lookC l u) :=
  ⟨fun k c => lookT_ok h k c, fun k c => lookU_ok h' k c, RngG.ok⟩

def theLoop (P : Program) (k r : Nat) : List Code := match P.funcs[k]? with
  | some fn => match fn.body with
    | some c => (loopsOf c).filter fun x => match firstReg x with
      | some q => Nat.beq q r
      | none => false
    | none => []
  | none => []

def hdC (l : List Code) : Code := match l with
  | x :: _ => x
  | [] => .skip

def lookS : List (Nat × Nat × LSum) → Sums
  | [], _, _ => none
  | p :: l, b, r => cond (Nat.beq b p.1 && Nat.beq r p.2.1) (some p.2.2) (lookS l b r)

def Round (P : Program) (C : Cons) (Sm : Sums) (lf b r : Nat) (s : LSum) : Prop :=
  (theLoop P s.k r).length = 1 ∧ ∀ z, kCode P C Sm (kFun P C Sm lf s.n) s.n s.k lf b s.od s.rf false (hdC (theLoop P s.k r)) (s.shape.emb z) s.roundF = s.step z

def AllR (P : Program) (C : Cons) (Sm : Sums) (lf : Nat) : List (Nat × Nat × LSum) → Prop
  | [] => True
  | p :: l => Round P C Sm lf p.1 p.2.1 p.2.2 ∧ AllR P C Sm lf l

theorem lookS_round {P : Program} {C : Cons} {Sm : Sums} {lf : Nat} : ∀ {l : List (Nat × Nat × LSum)}, AllR P C Sm lf l → ∀ b r s, lookS l b r = some s → Round P C Sm lf b r s
  | [], _, b, r, s, h => by simp [lookS] at h
  | p :: l, ha, b, r, s, h => by
    simp only [lookS] at h
    cases hb : (Nat.beq b p.1 && Nat.beq r p.2.1) with
    | true =>
      rw [hb] at h
      simp only [cond_true, Option.some.injEq] at h
      subst h
      simp only [Bool.and_eq_true] at hb
      rw [Nat.eq_of_beq_eq_true hb.1, Nat.eq_of_beq_eq_true hb.2]
      exact ha.1
    | false => rw [hb] at h; exact lookS_round ha.2 b r s h

theorem rounds_of {P : Program} {C : Cons} {lf : Nat} {l : List (Nat × Nat × LSum)} (h : AllR P C (lookS l) lf l) : RoundsOK P C (lookS l) lf := by
  intro b r s hs fn c x hfn hc hx hr z
  obtain ⟨h1, h2⟩ := lookS_round h b r s hs
  have hmem : x ∈ theLoop P s.k r := by
    unfold theLoop
    simp only [hfn, hc]
    exact List.mem_filter.2 ⟨hx, by simp only [hr, Nat.beq_refl]⟩
  have hd : hdC (theLoop P s.k r) = x := by
    match ht : theLoop P s.k r, h1 with
    | [y], _ => rw [ht] at hmem; simp at hmem; rw [hmem]; rfl
  have := h2 z
  rw [hd] at this
  exact Le.of_eq this.symm

/-- the same contract, told otherwise -/
theorem Con.OK.of [Glob] {P : Program} {k : Nat} {c : Con} (h : c.OK P k) {g : Args c.ps → Option (Res c.rs)} (hg : ∀ x y, g x = some y → c.f x = some y) : (⟨c.ps, c.rs, g⟩ : Con).OK P k :=
  fun x y hx => h x y (hg x y hx)
end Go.Sy
