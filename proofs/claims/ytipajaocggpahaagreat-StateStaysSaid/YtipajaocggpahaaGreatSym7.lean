/- Contracts of functions over data, and how a state stays what it is behind a call. -/
import Derived.Test.YtipajaocggpahaaGreatSym6
namespace Go.Sy
open Go Go.RowKit
set_option linter.unusedSimpArgs false
set_option linter.unusedVariables false

inductive RTy where
  | val (t : Ty)
  | own (te : TypeId) (e : Ty)
  | pair (a b : RTy)
  | one (a : RTy)

@[reducible] def RTy.T : RTy → Type
  | .val t => t.T
  | .own _ e => List e.T
  | .pair a b => a.T × b.T
  | .one a => a.T

@[reducible] def Args : List Ty → Type
  | [] => Unit
  | t :: ts => t.T × Args ts

@[reducible] def Res : List RTy → Type
  | [] => Unit
  | t :: ts => t.T × Res ts

def RTy.isAgg : RTy → Bool
  | .val t => t.isAgg
  | .own _ _ => false
  | _ => true

/-- no slice inside -/
def Ty.flat : Ty → Bool
  | .row _ => false
  | .pair a b => a.flat && b.flat
  | .one a => a.flat
  | _ => true

def RTy.flat : RTy → Bool
  | .val t => t.flat
  | .own _ e => e.flat
  | .pair a b => a.flat && b.flat
  | .one a => a.flat

def flats : List RTy → Bool
  | [] => true
  | t :: ts => t.flat && flats ts

structure OwnR where
  loc : Lc
  te : TypeId
  e : Ty
  xs : List e.T

def RdV (S : Stable) (t : Ty) (x : t.T) (v : Value) : Prop :=
  if t.isAgg then ∃ cs, v = .agg cs ∧ Rd S t x cs.toList else Rd S t x [v]

def RdArgs (S : Stable) : (ps : List Ty) → Args ps → List Value → Prop
  | [], _, vs => vs = []
  | t :: ts, x, vs => ∃ v r, vs = v :: r ∧ RdV S t x.1 v ∧ RdArgs S ts x.2 r

def RdR (S : Stable) : (t : RTy) → t.T → List Value → List OwnR → Prop
  | .val t, x, cs, os => Rd S t x cs ∧ os = []
  | .own te e, xs, cs, os => ∃ l : Lc, cs = [.slice l.addr (List.length xs) l.cap] ∧ os = [⟨l, te, e, xs⟩]
  | .pair a b, x, cs, os => ∃ c d o p, cs = c ++ d ∧ os = o ++ p ∧ RdR S a x.1 c o ∧ RdR S b x.2 d p
  | .one a, x, cs, os => RdR S a x cs os

def RdRV (S : Stable) (t : RTy) (x : t.T) (v : Value) (os : List OwnR) : Prop :=
  if t.isAgg then ∃ cs, v = .agg cs ∧ RdR S t x cs.toList os else RdR S t x [v] os

def RdRs (S : Stable) : (rs : List RTy) → Res rs → List Value → List OwnR → Prop
  | [], _, vs, os => vs = [] ∧ os = []
  | t :: ts, x, vs, os => ∃ v r o p, vs = v :: r ∧ os = o ++ p ∧ RdRV S t x.1 v o ∧ RdRs S ts x.2 r p

def OwnOK (S : Stable) (w : World) (B : Nat) (o : OwnR) : Prop :=
  (o.xs.length ≤ o.loc.cap ∧ o.loc.cap ≤ maxLen) ∧ ((o.loc.blk = none ∧ o.loc.cap = 0) ∨ ∃ b cs, o.loc.blk = some b ∧ B ≤ b ∧ S b = none ∧ w.heap[b]? = some (.cells cs o.te (0, 0)) ∧ cs.size = o.loc.cap * o.e.size ∧
    ∀ (j : Nat) (x : o.e.T), o.xs[j]? = some x → ∃ c, Rd S o.e x c ∧ ∀ m v, c[m]? = some v → cs[j * o.e.size + m]? = some v)

def ApartR (o p : OwnR) : Prop := ∀ b, o.loc.blk = some b → p.loc.blk ≠ some b

def resVal : List Value → Value
  | [v] => v
  | vs => .tuple vs.toArray

structure Con where
  ps : List Ty
  rs : List RTy
  f : Args ps → Option (Res rs)

/-- What a function's call comes to, told of data. -/
def Con.OK [Glob] (P : Program) (k : FuncId) (c : Con) : Prop :=
  ∀ x y, c.f x = some y → ∀ (S : Stable) (w : World) (vs : List Value), (∀ b o, S b = some o → w.heap[b]? = some o) → Glob.pre S → RdArgs S c.ps x vs →
    Calls P k vs.toArray w fun e w' => ∃ us S' os, e = .returned (resVal us) ∧ Below w.heap.size w w' ∧ (∀ b o, S b = some o → S' b = some o) ∧
      (∀ b o, S' b = some o → w'.heap[b]? = some o) ∧ (∀ b, S' b ≠ none → S b ≠ none ∨ w.heap.size ≤ b) ∧ RdRs S' c.rs y us os ∧
      (∀ o ∈ os, OwnOK S' w' w.heap.size o) ∧ os.Pairwise ApartR

/-! reading data off abstract values -/
def decV (H : Heap) (t : Ty) (a : AV) : Option t.T := cond (t.isAgg == a.isAgg) (decAll H t a.inside) none

def decArgs (H : Heap) : (ps : List Ty) → List AV → Option (Args ps)
  | [], [] => some ()
  | t :: ts, a :: as => match decV H t a with
    | some x => match decArgs H ts as with
      | some y => some (x, y)
      | none => none
    | none => none
  | _, _ => none

section
variable [Glob] {P : Program} {w w' w0 : World} {μ : Mu} {S S' : Stable} {H Hh : Heap} {B : Nat}

/-- The whole of memory, as it is. -/
def allS (w : World) : Stable := fun b => w.heap[b]?

theorem allS_st (R : Rel μ S H B w0 w) (b : Nat) (o : Obj) (h : S b = some o) : allS w b = some o := R.st b o h

theorem row_Rd (R : Rel μ S H B w0 w) {i : Nat} {t : TypeId} {e : Ty} {g : Nat} {xs : List e.T} (hi : H i = some (.row t e g xs)) {l : Lc} (hm : μ i = some l) :
    Rd (allS w) (.row e) xs [.slice l.addr xs.length l.cap] := by
  obtain ⟨l', h1, h2⟩ := R.obj i _ hi
  have : l' = l := Option.some.inj (h1.symm.trans hm)
  subst this
  refine ⟨l'.addr, l'.cap, rfl, ⟨h2.1.1, fun ha => ?_⟩, fun j x hj => ?_⟩
  · rcases h2.2 with h3 | ⟨b, cs, e1, _⟩
    · exact h3.2
    · simp [Lc.addr, e1] at ha
  rcases h2.2 with h3 | ⟨b, cs, e1, _, _, h4, _, h6⟩
  · have hlt : j < xs.length := by
      rcases Nat.lt_or_ge j xs.length with h | h
      · exact h
      · rw [List.getElem?_eq_none h] at hj; simp at hj
    have := h2.1.1; omega
  · obtain ⟨c, k1, k2⟩ := h6 j x hj
    refine ⟨⟨b, 0, none⟩, c, by simp [Lc.addr, e1], Rd_mono (allS_st R) _ _ _ k1, fun m v hv => ?_⟩
    rw [plain_add, Nat.zero_add]
    have hb : allS w b = some (.cells cs t (0, 0)) := h4
    simp only [cellS, hb, Option.isSome_none, Bool.false_eq_true, if_false]
    exact k2 m v hv

omit [Glob] in
theorem decV_Rd (hS : ∀ b o, S b = some o → S' b = some o)
    (hrow : ∀ i t e g xs l, Hh i = some (.row t e g xs) → μ i = some l → Rd S' (.row e) xs [.slice l.addr xs.length l.cap])
    (sub : ∀ i o, Hh i = some o → H i = some o) {t : Ty} {a : AV} {v : Value} {x : t.T} (hv : VR μ S H a v) (h : decV Hh t a = some x) : RdV S' t x v := by
  unfold decV at h
  cases hb : (t.isAgg == a.isAgg) with
  | false => rw [hb] at h; simp at h
  | true =>
    rw [hb] at h
    simp only [cond_true] at h
    have hta : t.isAgg = a.isAgg := by simpa using hb
    unfold decAll at h
    split at h
    · rename_i y hd
      cases h
      unfold RdV
      rw [hta]
      have base : a.isAgg = false → VRs μ S H a.inside [v] := by
        intro ha
        cases a <;> first | (simp [AV.isAgg] at ha; done) | (simp only [AV.inside, VRs]; exact ⟨v, [], rfl, hv, rfl⟩)
      cases ha : a.isAgg with
      | true =>
        rw [if_pos rfl]
        cases a <;> simp only [AV.isAgg, reduceCtorEq] at ha
        simp only [VR] at hv
        obtain ⟨vs, rfl, hvs⟩ := hv
        obtain ⟨c, u, e1, k1, k2⟩ := dec_Rd hS hrow sub t _ vs.toList _ [] hvs hd
        simp only [VRs] at k2
        subst k2
        rw [List.append_nil] at e1
        exact ⟨vs, rfl, by rw [e1]; exact k1⟩
      | false =>
        rw [if_neg (by simp)]
        obtain ⟨c, u, e1, k1, k2⟩ := dec_Rd hS hrow sub t _ [v] _ [] (base ha) hd
        simp only [VRs] at k2
        subst k2
        rw [List.append_nil] at e1
        rw [e1]; exact k1
    · simp at h

omit [Glob] in
theorem decArgs_Rd (hS : ∀ b o, S b = some o → S' b = some o)
    (hrow : ∀ i t e g xs l, Hh i = some (.row t e g xs) → μ i = some l → Rd S' (.row e) xs [.slice l.addr xs.length l.cap])
    (sub : ∀ i o, Hh i = some o → H i = some o) : ∀ {ps : List Ty} {as : List AV} {vs : List Value} {x : Args ps}, VRs μ S H as vs → decArgs Hh ps as = some x → RdArgs S' ps x vs
  | [], [], vs, x, hv, h => by simp only [VRs] at hv; exact hv
  | [], _ :: _, vs, x, hv, h => by simp [decArgs] at h
  | t :: ts, [], vs, x, hv, h => by simp [decArgs] at h
  | t :: ts, a :: as, vs, x, hv, h => by
    simp only [decArgs] at h
    split at h
    · rename_i y hy
      split at h
      · rename_i z hz
        cases h
        simp only [VRs] at hv
        obtain ⟨v, r, rfl, h1, h2⟩ := hv
        exact ⟨v, r, rfl, decV_Rd hS hrow sub h1 hy, decArgs_Rd hS hrow sub h2 hz⟩
      · simp at h
    · simp at h
end
end Go.Sy
