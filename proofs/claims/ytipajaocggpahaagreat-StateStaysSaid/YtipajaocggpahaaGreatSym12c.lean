/- A scope in which the run jumps back to one label, inside a fence: round by round. -/
import Derived.Test.YtipajaocggpahaaGreatSym12b
namespace Go.Sy
open Go Go.RowKit
set_option linter.unusedSimpArgs false
set_option linter.unusedVariables false

section
variable {P : Program} {b : Frame} {a : Act} {k : List Item} {cs : List Frame} {w : World}

theorem stepR_scope {c : Code} : step P (lone (b.atR a (.code (.scope c) :: k)) cs w) = .next (lone (b.atR a (.code c :: .inScope c :: k)) cs w) :=
  step_lone_go (by simp [stepG, stepG.exec, Frame.atR])
theorem stepR_inScope {c : Code} : step P (lone (b.atR a (.inScope c :: k)) cs w) = .next (lone (b.atR a k) cs w) :=
  step_lone_go (by simp [stepG, stepG.exec, Frame.atR])
end

/-- as Q; by a goto to l: J; by no other goto -/
def jumpQ (l : Nat) (J : Act → World → Prop) (Q : Exit → Act → World → Prop) : Exit → Act → World → Prop
  | .goto l', a, w => l' = l ∧ J a w
  | e, a, w => Q e a w

def scopeR (F : Fence) (n : Nat) (P : Program) (l : Nat) (r : Code) (Q : Exit → Act → World → Prop) : Nat → Act → World → Prop
  | 0, _, _ => False
  | m + 1, a, w => r.wpIn F n P (jumpQ l (scopeR F n P l r Q m) Q) a w

theorem wpIn_scope_rounds {F : Fence} {n : Nat} {P : Program} {Q : Exit → Act → World → Prop} {a : Act} {w : World} {c r : Code} {l : Nat} (m : Nat) (hf : 0 < m → findLabel c l = some r)
    (h : c.wpIn F n P (jumpQ l (scopeR F n P l r Q m) Q) a w) : (Code.scope c).wpIn F n P Q a w := by
  intro b k cs hro hb hr
  have hx : ∀ i, exitTo i (.inScope c :: k) = exitTo i k := fun i => by simp [exitTo]
  have key : ∀ m a w, (0 < m → findLabel c l = some r) → scopeR F n P l r Q m a w →
      ∃ e a' w', Q e a' w' ∧ ArrivesIn (Machine.fenced P F) P (lone (b.atR a (.code r :: .inScope c :: k)) cs w) b k cs e a' w' := by
    intro m
    induction m with
    | zero => intro a w _ h; exact h.elim
    | succ m ih =>
      intro a w hf h
      obtain ⟨e, a₁, w₁, hq, harr⟩ := h b (.inScope c :: k) cs hro hb hr
      cases e with
      | normal => exact ⟨.normal, a₁, w₁, hq, StepsIn.trans harr (.one (fenced_calm hb hr rfl) stepR_inScope)⟩
      | exit i => exact ⟨.exit i, a₁, w₁, hq, fun k' hk => harr.1 k' (by rw [hx]; exact hk), fun hr' hk => harr.2 hr' (by rw [hx]; exact hk)⟩
      | goto l' =>
        obtain ⟨rfl, hJ⟩ := hq
        obtain ⟨e₂, a₂, w₂, hq₂, harr₂⟩ := ih a₁ w₁ (fun _ => hf (Nat.succ_pos _)) hJ
        have hg : gotoIn l' (.inScope c :: k) = some (.code r :: .inScope c :: k) := by simp [gotoIn, hf (Nat.succ_pos _)]
        exact ⟨e₂, a₂, w₂, hq₂, .of_steps (harr.1 _ hg) harr₂⟩
      | ret => exact ⟨_, a₁, w₁, hq, harr⟩
      | panic ch => exact ⟨_, a₁, w₁, hq, harr⟩
      | outgrown => exact ⟨_, a₁, w₁, hq, harr⟩
  have h0 : (lone (b.atR a (.code (.scope c) :: k)) cs w).fenced P F := fenced_calm hb hr rfl
  obtain ⟨e, a₁, w₁, hq, harr⟩ := h b (.inScope c :: k) cs hro hb hr
  cases e with
  | normal => exact ⟨.normal, a₁, w₁, hq, .head h0 stepR_scope (StepsIn.trans harr (.one (fenced_calm hb hr rfl) stepR_inScope))⟩
  | exit i => exact ⟨.exit i, a₁, w₁, hq, fun k' hk => .head h0 stepR_scope (harr.1 k' (by rw [hx]; exact hk)), fun hr' hk => let ⟨k₁, h1, h2⟩ := harr.2 hr' (by rw [hx]; exact hk); ⟨k₁, h1, .head h0 stepR_scope h2⟩⟩
  | goto l' =>
    obtain ⟨rfl, hJ⟩ := hq
    cases m with
    | zero => exact hJ.elim
    | succ m =>
      obtain ⟨e₂, a₂, w₂, hq₂, harr₂⟩ := key (m + 1) a₁ w₁ hf hJ
      have hg : gotoIn l' (.inScope c :: k) = some (.code r :: .inScope c :: k) := by simp [gotoIn, hf (Nat.succ_pos _)]
      exact ⟨e₂, a₂, w₂, hq₂, .of_steps (.head h0 stepR_scope (harr.1 _ hg)) harr₂⟩
  | ret => exact ⟨_, a₁, w₁, hq, .of_steps (.one h0 stepR_scope) harr⟩
  | panic ch => exact ⟨_, a₁, w₁, hq, .of_steps (.one h0 stepR_scope) harr⟩
  | outgrown => exact ⟨_, a₁, w₁, hq, .of_steps (.one h0 stepR_scope) harr⟩

/-- no label stands on the way -/
def noLab : Code → Bool
  | .seq x y => noLab x && noLab y
  | .label _ => false
  | _ => true

theorem noLab_find {l : Nat} : ∀ {c : Code}, noLab c = true → findLabel c l = none
  | .seq x y, h => by
    simp only [noLab, Bool.and_eq_true] at h
    simp [findLabel, noLab_find h.1, noLab_find h.2]
  | .label _, h => by simp [noLab] at h
  | .skip, _ => rfl
  | .region _ _ _, _ => rfl
  | .cond _ _ _, _ => rfl
  | .block _ _, _ => rfl
  | .loop _, _ => rfl
  | .exit _, _ => rfl
  | .ret, _ => rfl
  | .rangeFunc _ _ _ _, _ => rfl
  | .scope _, _ => rfl
  | .goto _, _ => rfl
  | .refuse _, _ => rfl

def labOf : Code → Option Nat
  | .label l => some l
  | _ => none

theorem labOf_eq {c : Code} {l : Nat} (h : labOf c = some l) : c = .label l := by
  cases c <;> simp_all [labOf]

/-- the way of a scope's code: labels stand but at the way's last part -/
def spineOK : Code → Bool
  | .seq x y => match labOf x with
    | some _ => true
    | none => noLab x && spineOK y
  | .label _ => false
  | _ => true

def spineLab : Code → Option (Nat × Code)
  | .seq x y => match labOf x with
    | some l => some (l, .seq .skip y)
    | none => spineLab y
  | _ => none

theorem spine_find : ∀ {c : Code} {l : Nat} {r : Code}, spineOK c = true → spineLab c = some (l, r) → findLabel c l = some r
  | .seq x y, l, r, h, hs => by
    simp only [spineOK, spineLab] at h hs
    cases hl : labOf x with
    | some l' =>
      rw [hl] at hs
      simp only [Option.some.injEq, Prod.mk.injEq] at hs
      obtain ⟨rfl, rfl⟩ := hs
      have := labOf_eq hl
      subst this
      simp [findLabel]
    | none =>
      rw [hl] at h hs
      simp only [Bool.and_eq_true] at h
      simp only at hs
      simp [findLabel, noLab_find h.1, spine_find h.2 hs]
  | .skip, _, _, _, hs => by simp [spineLab] at hs
  | .region _ _ _, _, _, _, hs => by simp [spineLab] at hs
  | .cond _ _ _, _, _, _, hs => by simp [spineLab] at hs
  | .block _ _, _, _, _, hs => by simp [spineLab] at hs
  | .loop _, _, _, _, hs => by simp [spineLab] at hs
  | .exit _, _, _, _, hs => by simp [spineLab] at hs
  | .label _, _, _, _, hs => by simp [spineLab] at hs
  | .ret, _, _, _, hs => by simp [spineLab] at hs
  | .rangeFunc _ _ _ _, _, _, _, hs => by simp [spineLab] at hs
  | .scope _, _, _, _, hs => by simp [spineLab] at hs
  | .goto _, _, _, _, hs => by simp [spineLab] at hs
  | .refuse _, _, _, _, hs => by simp [spineLab] at hs
end Go.Sy
