/- Code and functions, and a contract out of a run. -/
import Derived.Test.YticonaifcigpoaaSym12
import Derived.LoopN
namespace Go.Sy
open Go Go.RowKit
set_option linter.unusedSimpArgs false
set_option linter.unusedVariables false

inductive Ex where
  | nrm
  | exit (id : Nat)
  | goto (l : Nat)
  | ret

def Ex.to : Ex → Exit
  | .nrm => .normal
  | .exit i => .exit i
  | .goto l => .goto l
  | .ret => .ret

def exLoop : Nat → (St → Option (Ex × St)) → St → Option (Ex × St)
  | 0, _, _ => none
  | n + 1, f, σ => match f σ with
    | some (.nrm, σ') => exLoop n f σ'
    | some (.exit i, σ') => some (.exit i, σ')
    | some (.goto i, σ') => some (.goto i, σ')
    | some (.ret, σ') => some (.ret, σ')
    | none => none

/-- where a region's new objects stand: 256 operations at most, sixteen objects each -/
def site (base id : Nat) : Nat := base + id * 4096

/-- the number of the first region, by which a loop is known -/
def firstReg : Code → Option Nat
  | .region id _ _ => some id
  | .seq x y => match firstReg x with
    | some i => some i
    | none => firstReg y
  | .cond _ x y => match firstReg x with
    | some i => some i
    | none => firstReg y
  | .block _ x => firstReg x
  | .loop x => firstReg x
  | .scope x => firstReg x
  | _ => none

abbrev Hints := Nat → Nat → Option LoopH

def hintOf (Hn : Hints) (base : Nat) (x : Code) : Option LoopH :=
  match firstReg x with
  | some r => Hn base r
  | none => none

def exRound (od : List Nat) (h : Option LoopH) (f : St → Option (Ex × St)) (σ : St) : Option (Ex × St) :=
  match h with
  | none => f σ
  | some h => match head od h.top σ with
    | some σ' => f σ'
    | none => none

/-- what is left behind a loop -/
def exOut (od : List Nat) (h : Option LoopH) : Option (Ex × St) → Option (Ex × St)
  | some (e, σ) => match h with
    | none => some (e, σ)
    | some h => match e with
      | .exit i => match h.out with
        | some h' => match head od h' σ with
          | some σ' => some (.exit i, σ')
          | none => none
        | none => some (.exit i, σ)
      | .ret => match h.ret with
        | some h' => match head od h' σ with
          | some σ' => some (.ret, σ')
          | none => none
        | none => some (.ret, σ)
      | e => some (e, σ)
  | none => none

def exCode (P : Program) (C : Cons) (Hn : Hints) (F : Inl) (lf base : Nat) (od : List Nat) : Code → St → Option (Ex × St)
  | .skip, σ => some (.nrm, σ)
  | .region id ops draw, σ =>
    match cond draw (exAny P C ops (site base id) σ) (exOps P C F ops (site base id) (List.range ops.size) σ) with
    | some σ' => some (.nrm, σ')
    | none => none
  | .seq x y, σ => match exCode P C Hn F lf base od x σ with
    | some (.nrm, σ') => exCode P C Hn F lf base od y σ'
    | some (.exit i, σ') => some (.exit i, σ')
    | some (.goto i, σ') => some (.goto i, σ')
    | some (.ret, σ') => some (.ret, σ')
    | none => none
  | .cond c x y, σ => match σ.val c with
    | .lit (.bool b) => cond b (exCode P C Hn F lf base od x σ) (exCode P C Hn F lf base od y σ)
    | _ => none
  | .block id x, σ => match exCode P C Hn F lf base od x σ with
    | some (.exit i, σ') => cond (Nat.beq i id) (some (.nrm, σ')) (some (.exit i, σ'))
    | r => r
  | .loop x, σ => exOut od (hintOf Hn base x) (exLoop lf (exRound od (hintOf Hn base x) (exCode P C Hn F lf base od x)) σ)
  | .exit id, σ => some (.exit id, σ)
  | .label _, σ => some (.nrm, σ)
  | .ret, σ => some (.ret, σ)
  | _, _ => none

def resOf (P : Program) (σ : St) : ResultVar → Option AV
  | .tmp t => cond (ltN t σ.nt) (some (σ.tmps t)) none
  | .cell a t => match σ.val (.tmp a) with
    | .ptr i off => match σ.heap i with
      | some (.box _ cs) => cut P t cs off
      | _ => none
    | _ => none

def resAll (P : Program) (σ : St) : List ResultVar → Option (List AV)
  | [] => some []
  | r :: rs => match resOf P σ r, resAll P σ rs with
    | some v, some vs => some (v :: vs)
    | _, _ => none

def nthAV : List AV → Nat → AV
  | [], _ => .lit undef
  | a :: _, 0 => a
  | _ :: l, n + 1 => nthAV l n

def exEnd (P : Program) (rs : List ResultVar) : Option (Ex × St) → Option (AV × Heap × List Nat)
  | some (.nrm, σ) => match resAll P σ rs with
    | some vs => some (resAV vs, σ.heap, σ.ids)
    | none => none
  | some (.ret, σ) => match resAll P σ rs with
    | some vs => some (resAV vs, σ.heap, σ.ids)
    | none => none
  | _ => none

def exFun (P : Program) (C : Cons) (Hn : Hints) (lf : Nat) : Nat → Inl
  | 0 => fun _ _ _ _ _ => none
  | n + 1 => fun base k as H L => match P.funcs[k]? with
    | some fn => match fn.body with
      | some c => cond (Nat.ble as.length fn.ntmps) (exEnd P fn.results.toList (exCode P C Hn (exFun P C Hn lf n) lf (Nat.succ base * 4294967296) L c ⟨fn.ntmps, nthAV as, H, L⟩)) none
      | none => none
    | none => none

section
variable [Glob] {P : Program} {C : Cons} {F : Inl} {B lf base : Nat} {w0 : World}

omit [Glob] in
theorem exLoop_bd {f : St → Option (Ex × St)} (hf : ∀ σ e σ', f σ = some (e, σ') → Bd σ → Bd σ') : ∀ (n : Nat) (σ : St) (e : Ex) (σ' : St), exLoop n f σ = some (e, σ') → Bd σ → Bd σ'
  | 0, σ, e, σ', h, _ => by simp [exLoop] at h
  | n + 1, σ, e, σ', h, hB => by
    simp only [exLoop] at h
    split at h
    · rename_i σ1 h1; exact exLoop_bd hf n σ1 e σ' h (hf _ _ _ h1 hB)
    · rename_i h1; cases h; exact hf _ _ _ h1 hB
    · rename_i h1; cases h; exact hf _ _ _ h1 hB
    · rename_i h1; cases h; exact hf _ _ _ h1 hB
    · simp at h

omit [Glob] in
theorem exOut_cases {od : List Nat} {h : Option LoopH} {r : Option (Ex × St)} {e : Ex} {σ' : St} (hr : exOut od h r = some (e, σ')) :
    r = some (e, σ') ∨ ∃ σ h', r = some (e, σ) ∧ head od h' σ = some σ' := by
  unfold exOut at hr
  split at hr
  · rename_i e0 σ
    split at hr
    · exact .inl hr
    · split at hr
      · split at hr
        · rename_i h' _
          split at hr
          · rename_i σ1 h1; cases hr; exact .inr ⟨σ, h', rfl, h1⟩
          · simp at hr
        · exact .inl hr
      · split at hr
        · rename_i h' _
          split at hr
          · rename_i σ1 h1; cases hr; exact .inr ⟨σ, h', rfl, h1⟩
          · simp at hr
        · exact .inl hr
      · exact .inl hr
  · simp at hr

theorem exCode_bd {Hn : Hints} {od : List Nat} (hF : InlOK P F) : ∀ (c : Code) (σ : St) (e : Ex) (σ' : St), exCode P C Hn F lf base od c σ = some (e, σ') → Bd σ → Bd σ'
  | .skip, σ, e, σ', h, hB => by simp only [exCode] at h; cases h; exact hB
  | .region id ops draw, σ, e, σ', h, hB => by
    simp only [exCode] at h
    split at h
    · rename_i σ1 h1
      cases h
      cases draw with
      | true => exact exAny_bd h1 hB
      | false => exact exOps_bd hF _ _ _ h1 hB
    · simp at h
  | .seq x y, σ, e, σ', h, hB => by
    simp only [exCode] at h
    split at h
    · rename_i σ1 h1; exact exCode_bd hF y σ1 e σ' h (exCode_bd hF x σ _ σ1 h1 hB)
    · rename_i h1; cases h; exact exCode_bd hF x σ _ _ h1 hB
    · rename_i h1; cases h; exact exCode_bd hF x σ _ _ h1 hB
    · rename_i h1; cases h; exact exCode_bd hF x σ _ _ h1 hB
    · simp at h
  | .cond c x y, σ, e, σ', h, hB => by
    simp only [exCode] at h
    split at h
    · rename_i b hb
      cases b with
      | true => exact exCode_bd hF x σ e σ' h hB
      | false => exact exCode_bd hF y σ e σ' h hB
    · simp at h
  | .block id x, σ, e, σ', h, hB => by
    simp only [exCode] at h
    split at h
    · rename_i i σ1 h1
      have := exCode_bd hF x σ _ σ1 h1 hB
      cases hb : Nat.beq i id <;> rw [hb] at h <;> cases h <;> exact this
    · exact exCode_bd hF x σ e σ' h hB
  | .loop x, σ, e, σ', h, hB => by
    simp only [exCode] at h
    rcases exOut_cases h with h | ⟨σ1, h', h, hh⟩
    · refine exLoop_bd (fun σ e σ' h hB => ?_) lf σ e σ' h hB
      unfold exRound at h
      split at h
      · exact exCode_bd hF x σ e σ' h hB
      · split at h
        · rename_i σ1 h1; exact exCode_bd hF x σ1 e σ' h (head_bd h1)
        · simp at h
    · exact head_bd hh
  | .exit id, σ, e, σ', h, hB => by simp only [exCode] at h; cases h; exact hB
  | .label l, σ, e, σ', h, hB => by simp only [exCode] at h; cases h; exact hB
  | .ret, σ, e, σ', h, hB => by simp only [exCode] at h; cases h; exact hB
  | .rangeFunc _ _ _ _, σ, e, σ', h, hB => by simp [exCode] at h
  | .scope _, σ, e, σ', h, hB => by simp [exCode] at h
  | .goto _, σ, e, σ', h, hB => by simp [exCode] at h
  | .refuse _, σ, e, σ', h, hB => by simp [exCode] at h

section
variable {μo : Mu} {So : Stable} {Ho : Heap}

theorem exLoop_ok {f : St → Option (Ex × St)} {x : Code} (hf : ∀ σ e σ', f σ = some (e, σ') → Bd σ → Bd σ')
    (ih : ∀ (σ : St) (e : Ex) (σ' : St) (a : Act) (w : World) (μ : Mu) (S : Stable) (Q : Exit → Act → World → Prop), f σ = some (e, σ') → Bd σ → AR μ S σ a → Rel μ S σ.heap B w0 w → Carry B μo So Ho μ S σ.heap →
      (∀ a' w' μ' S', AR μ' S' σ' a' → Rel μ' S' σ'.heap B w0 w' → Carry B μo So Ho μ' S' σ'.heap → Q e.to a' w') → x.wp P Q a w) :
    ∀ (n : Nat) (σ : St) (e : Ex) (σ' : St) (a : Act) (w : World) (μ : Mu) (S : Stable) (Q : Exit → Act → World → Prop), exLoop n f σ = some (e, σ') → Bd σ → AR μ S σ a → Rel μ S σ.heap B w0 w → Carry B μo So Ho μ S σ.heap →
      (∀ a' w' μ' S', AR μ' S' σ' a' → Rel μ' S' σ'.heap B w0 w' → Carry B μo So Ho μ' S' σ'.heap → Q e.to a' w') → Code.rounds P x Q n a w := by
  intro n
  induction n with
  | zero => intro σ e σ' a w μ S Q h; simp [exLoop] at h
  | succ n ihn =>
    intro σ e σ' a w μ S Q h hB A R Co hK
    rw [rounds_succ]
    simp only [exLoop] at h
    split at h
    · rename_i σ1 h1
      refine ih σ .nrm σ1 a w μ S _ h1 hB A R Co fun a1 w1 μ1 S1 A1 R1 C1 => ?_
      exact ihn σ1 e σ' a1 w1 μ1 S1 Q h (hf _ _ _ h1 hB) A1 R1 C1 hK
    · rename_i i σ1 h1; cases h; exact ih σ (.exit i) _ a w μ S _ h1 hB A R Co hK
    · rename_i i σ1 h1; cases h; exact ih σ (.goto i) _ a w μ S _ h1 hB A R Co hK
    · rename_i σ1 h1; cases h; exact ih σ .ret _ a w μ S _ h1 hB A R Co hK
    · simp at h

theorem exCode_ok {Hn : Hints} {od : List Nat} (hC : TabsOK P C) (hF : InlOK P F) (hod : ∀ i, μo i ≠ none → i ∈ od) :
    ∀ (c : Code) (σ : St) (e : Ex) (σ' : St) (a : Act) (w : World) (μ : Mu) (S : Stable) (Q : Exit → Act → World → Prop),
    exCode P C Hn F lf base od c σ = some (e, σ') → Bd σ → AR μ S σ a → Rel μ S σ.heap B w0 w → Carry B μo So Ho μ S σ.heap →
    (∀ a' w' μ' S', AR μ' S' σ' a' → Rel μ' S' σ'.heap B w0 w' → Carry B μo So Ho μ' S' σ'.heap → Q e.to a' w') → c.wp P Q a w
  | .skip, σ, e, σ', a, w, μ, S, Q, h, hB, A, R, Co, hK => by
    simp only [exCode] at h; cases h; exact wp_skip (hK a w μ S A R Co)
  | .region id ops draw, σ, e, σ', a, w, μ, S, Q, h, hB, A, R, Co, hK => by
    simp only [exCode] at h
    split at h
    · rename_i σ1 h1
      cases h
      cases draw with
      | true => exact exAny_ok hC h1 A R fun a' w' μ' S' A' R' C' => hK a' w' μ' S' A' R' (Co.trans C')
      | false => exact wp_region (exOps_ok hC hF _ _ _ a w μ S h1 hB A R fun a' w' μ' S' A' R' C' => hK a' w' μ' S' A' R' (Co.trans C'))
    · simp at h
  | .seq x y, σ, e, σ', a, w, μ, S, Q, h, hB, A, R, Co, hK => by
    simp only [exCode] at h
    refine wp_seq ?_
    split at h
    · rename_i σ1 h1
      refine exCode_ok hC hF hod x σ .nrm σ1 a w μ S _ h1 hB A R Co fun a1 w1 μ1 S1 A1 R1 C1 => ?_
      exact exCode_ok hC hF hod y σ1 e σ' a1 w1 μ1 S1 Q h (exCode_bd hF x σ _ σ1 h1 hB) A1 R1 C1 hK
    · rename_i i σ1 h1; cases h; exact exCode_ok hC hF hod x σ (.exit i) _ a w μ S _ h1 hB A R Co hK
    · rename_i i σ1 h1; cases h; exact exCode_ok hC hF hod x σ (.goto i) _ a w μ S _ h1 hB A R Co hK
    · rename_i σ1 h1; cases h; exact exCode_ok hC hF hod x σ .ret _ a w μ S _ h1 hB A R Co hK
    · simp at h
  | .cond c x y, σ, e, σ', a, w, μ, S, Q, h, hB, A, R, Co, hK => by
    simp only [exCode] at h
    split at h
    · rename_i b hb
      have hv := A.val c
      rw [hb] at hv
      simp only [VR] at hv
      refine wp_cond hv ?_
      cases b with
      | true => exact exCode_ok hC hF hod x σ e σ' a w μ S Q h hB A R Co hK
      | false => exact exCode_ok hC hF hod y σ e σ' a w μ S Q h hB A R Co hK
    · simp at h
  | .block id x, σ, e, σ', a, w, μ, S, Q, h, hB, A, R, Co, hK => by
    simp only [exCode] at h
    refine wp_block ?_
    split at h
    · rename_i i σ1 h1
      refine exCode_ok hC hF hod x σ (.exit i) σ1 a w μ S _ h1 hB A R Co fun a1 w1 μ1 S1 A1 R1 C1 => ?_
      simp only [Ex.to, Exit.inBlock]
      cases hb : Nat.beq i id with
      | true =>
        rw [hb] at h; simp only [cond_true, Option.some.injEq, Prod.mk.injEq] at h
        obtain ⟨rfl, rfl⟩ := h
        rw [if_pos (Nat.eq_of_beq_eq_true hb)]
        exact hK a1 w1 μ1 S1 A1 R1 C1
      | false =>
        rw [hb] at h; simp only [cond_false, Option.some.injEq, Prod.mk.injEq] at h
        obtain ⟨rfl, rfl⟩ := h
        rw [if_neg (fun e => by subst e; simp at hb)]
        exact hK a1 w1 μ1 S1 A1 R1 C1
    · rename_i r hne
      refine exCode_ok hC hF hod x σ e σ' a w μ S _ h hB A R Co fun a1 w1 μ1 S1 A1 R1 C1 => ?_
      have := hK a1 w1 μ1 S1 A1 R1 C1
      cases e with
      | exit i => exact absurd h (hne i σ')
      | _ => exact this
  | .loop x, σ, e, σ', a, w, μ, S, Q, h, hB, A, R, Co, hK => by
    simp only [exCode] at h
    have main : ∀ (σ2 : St), exLoop lf (exRound od (hintOf Hn base x) (exCode P C Hn F lf base od x)) σ = some (e, σ2) →
        (∀ a' w' μ' S', AR μ' S' σ2 a' → Rel μ' S' σ2.heap B w0 w' → Carry B μo So Ho μ' S' σ2.heap → Q e.to a' w') → (Code.loop x).wp P Q a w := by
      intro σ2 h hK
      refine wp_loop_rounds lf (exLoop_ok (μo := μo) (So := So) (Ho := Ho) (fun σ e σ' h hB => ?_) (fun σ e σ' a w μ S Q h hB A R Co hK => ?_) lf σ e σ2 a w μ S Q h hB A R Co hK)
      · unfold exRound at h
        split at h
        · exact exCode_bd hF x σ e σ' h hB
        · split at h
          · rename_i σ1 h1; exact exCode_bd hF x σ1 e σ' h (head_bd h1)
          · simp at h
      · unfold exRound at h
        split at h
        · exact exCode_ok hC hF hod x σ e σ' a w μ S Q h hB A R Co hK
        · split at h
          · rename_i σ1 h1
            obtain ⟨μ1, A1, R1, C1, B1⟩ := head_ok h1 A R hod Co
            exact exCode_ok hC hF hod x σ1 e σ' a w μ1 S Q h B1 A1 R1 C1 hK
          · simp at h
    rcases exOut_cases h with h | ⟨σ2, h', h, hh⟩
    · exact main σ' h hK
    · refine main σ2 h fun a' w' μ' S' A' R' C' => ?_
      obtain ⟨μ1, A1, R1, C1, B1⟩ := head_ok hh A' R' hod C'
      exact hK a' w' μ1 S' A1 R1 C1
  | .exit id, σ, e, σ', a, w, μ, S, Q, h, hB, A, R, Co, hK => by
    simp only [exCode] at h; cases h; exact wp_exit (hK a w μ S A R Co)
  | .label l, σ, e, σ', a, w, μ, S, Q, h, hB, A, R, Co, hK => by
    simp only [exCode] at h; cases h; exact wp_label (hK a w μ S A R Co)
  | .ret, σ, e, σ', a, w, μ, S, Q, h, hB, A, R, Co, hK => by
    simp only [exCode] at h; cases h; exact wp_ret (hK a w μ S A R Co)
  | .rangeFunc _ _ _ _, σ, e, σ', a, w, μ, S, Q, h, hB, A, R, Co, hK => by simp [exCode] at h
  | .scope _, σ, e, σ', a, w, μ, S, Q, h, hB, A, R, Co, hK => by simp [exCode] at h
  | .goto _, σ, e, σ', a, w, μ, S, Q, h, hB, A, R, Co, hK => by simp [exCode] at h
  | .refuse _, σ, e, σ', a, w, μ, S, Q, h, hB, A, R, Co, hK => by simp [exCode] at h
end

def resSem (tmps : Array Value) : ResultVar → Sem Value
  | .tmp t => pure (tmps.getD t undef)
  | .cell x t => do loadVar t (← asAddr (tmps.getD x undef))

theorem resOf_ok {σ : St} {a : Act} {w : World} {μ : Mu} {S : Stable} (A : AR μ S σ a) (R : Rel μ S σ.heap B w0 w) {r : ResultVar} {v : AV} (h : resOf P σ r = some v) :
    ∃ u, (resSem a.tmps r).run P w = .ok u w ∧ VR μ S σ.heap v u := by
  cases r with
  | tmp t =>
    obtain ⟨h1, rfl⟩ := cond_some h
    exact ⟨_, rfl, A.tmp t (of_ltN h1)⟩
  | cell x t =>
    simp only [resOf] at h
    split at h
    · rename_i i off hx
      split at h
      · rename_i t' cs hH
        have hv := A.val (.tmp x)
        rw [hx] at hv
        simp only [VR] at hv
        obtain ⟨b, c, hm, _, e⟩ := hv
        obtain ⟨vs, hb, hvs⟩ := box_cells R hH hm
        obtain ⟨u, hu, hv⟩ := cut_loadVar (P := P) (w := w) (ad := ⟨b, 0, none⟩) hvs (fun j u hj => by rw [plain_add, Nat.zero_add, cell_of hb]; simpa using hj) h
        rw [plain_add, Nat.zero_add] at hu
        have e' : a.tmps.getD x undef = .pointer (some ⟨b, off, none⟩) := e
        refine ⟨u, ?_, hv⟩
        simp only [resSem, e', asAddr, Sem.run_bind, Sem.run_pure, Result.andThen_ok, hu]
      · simp at h
    · simp at h

theorem resAll_ok {σ : St} {a : Act} {w : World} {μ : Mu} {S : Stable} (A : AR μ S σ a) (R : Rel μ S σ.heap B w0 w) : ∀ {rs : List ResultVar} {vs : List AV}, resAll P σ rs = some vs →
    ∃ us, (rs.mapM (resSem a.tmps)).run P w = .ok us w ∧ VRs μ S σ.heap vs us
  | [], vs, h => by
    simp only [resAll, Option.some.injEq] at h; subst h
    exact ⟨[], by simp, by simp [VRs]⟩
  | r :: rs, vs, h => by
    simp only [resAll] at h
    split at h
    · rename_i v vs' h1 h2
      cases h
      obtain ⟨u, k1, k2⟩ := resOf_ok A R h1
      obtain ⟨us, q1, q2⟩ := resAll_ok A R h2
      refine ⟨u :: us, ?_, by simp only [VRs]; exact ⟨u, us, rfl, k2, q2⟩⟩
      rw [List.mapM_cons]
      simp only [Sem.run_bind, k1, q1, Result.andThen_ok, Sem.run_pure]
    · simp at h

theorem results_ok {fn : Func} {σ : St} {a : Act} {w : World} {μ : Mu} {S : Stable} (A : AR μ S σ a) (R : Rel μ S σ.heap B w0 w) {vs : List AV} (h : resAll P σ fn.results.toList = some vs) :
    ∃ u, (results fn a.tmps).run P w = .ok u w ∧ VR μ S σ.heap (resAV vs) u := by
  obtain ⟨us, h1, h2⟩ := resAll_ok A R h
  refine ⟨resVal us, ?_, resAV_VR h2⟩
  have e : results fn a.tmps = (do
      let vs ← fn.results.mapM (resSem a.tmps)
      pure (if h : vs.size = 1 then vs[0] else .tuple vs)) := by
    unfold results
    congr 1
    all_goals (congr 1; try (funext r; cases r <;> rfl))
  rw [e, Array.mapM_eq_mapM_toList]
  simp only [Sem.run_bind, Sem.run_map, Result.andThen_ok, h1, Sem.run_pure]
  match us with
  | [] => rfl
  | [u] => rfl
  | u :: v :: us => simp [resVal]

omit [Glob] in
theorem nthAV_VR {μ : Mu} {S : Stable} {H : Heap} : ∀ {as : List AV} {vs : List Value}, VRs μ S H as vs → ∀ t, VR μ S H (nthAV as t) (vs.getD t undef)
  | [], vs, h, t => by simp only [VRs] at h; subst h; simp [nthAV, VR]
  | a :: as, vs, h, t => by
    simp only [VRs] at h
    obtain ⟨v, r, rfl, h1, h2⟩ := h
    cases t with
    | zero => simpa [nthAV] using h1
    | succ t => simpa [nthAV] using nthAV_VR h2 t

theorem exFun_bd {Hn : Hints} : ∀ n id k as H L v H' L', InlOK P (exFun P C Hn lf n) → exFun P C Hn lf (n + 1) id k as H L = some (v, H', L') → (∀ q, H q ≠ none → q ∈ L) → ∀ q, H' q ≠ none → q ∈ L' := by
  intro n id k as H L v H' L' hF h hB
  simp only [exFun] at h
  split at h
  · rename_i fn hfn
    split at h
    · rename_i c hc
      cases hle : Nat.ble as.length fn.ntmps with
      | false => rw [hle] at h; simp at h
      | true =>
        rw [hle] at h
        simp only [cond_true] at h
        unfold exEnd at h
        split at h
        · rename_i σ he
          split at h
          · cases h; exact exCode_bd hF c _ _ σ he hB
          · simp at h
        · rename_i σ he
          split at h
          · cases h; exact exCode_bd hF c _ _ σ he hB
          · simp at h
        · simp at h
    · simp at h
  · simp at h

theorem exFun_ok {Hn : Hints} (hC : TabsOK P C) : ∀ n, InlOK P (exFun P C Hn lf n)
  | 0 => fun id k as H L v H' L' h => by simp [exFun] at h
  | n + 1 => by
    intro id k as H L v H' L' h hBd
    refine ⟨exFun_bd n id k as H L v H' L' (exFun_ok hC n) h hBd, ?_⟩
    intro μ S B w0 w us R hv
    simp only [exFun] at h
    split at h
    · rename_i fn hfn
      split at h
      · rename_i c hc
        cases hle : Nat.ble as.length fn.ntmps with
        | false => rw [hle] at h; simp at h
        | true =>
          rw [hle] at h
          simp only [cond_true] at h
          have hle := Nat.le_of_ble_eq_true hle
          have hlen := VRs_length hv
          simp only [Array.length_toList] at hlen
          refine calls_of_wp hfn hc ?_
          have A0 : AR μ S ⟨fn.ntmps, nthAV as, H, L⟩ { tmps := us ++ Array.replicate (fn.ntmps - us.size) undef, defers := [] } := by
            refine ⟨rfl, by simp; omega, fun t ht => ?_⟩
            have := nthAV_VR hv t
            rw [List.getD_eq_getElem?_getD] at this
            rw [Array.getD_eq_getD_getElem?]
            by_cases hlt : t < us.size
            · rw [Array.getElem?_append_left hlt]; simpa using this
            · rw [Array.getElem?_append_right (by omega), Array.getElem?_replicate]
              have e1 : us.toList[t]? = none := by rw [List.getElem?_eq_none]; simp; omega
              rw [e1] at this
              have : t - us.size < fn.ntmps - us.size := by simp only at ht; omega
              rw [if_pos this]; assumption
          have hod : ∀ i, μ i ≠ none → i ∈ L := fun i hi => hBd i (fun h => by
            have := R.dom i
            rw [h] at this
            cases hm : μ i with
            | none => exact hi hm
            | some l => rw [hm] at this; simp at this)
          have fin : ∀ (e : Ex) (σ : St), exCode P C Hn (exFun P C Hn lf n) lf (Nat.succ id * 4294967296) L c ⟨fn.ntmps, nthAV as, H, L⟩ = some (e, σ) → e.to = .normal ∨ e.to = .ret →
              (∃ vs, resAll P σ fn.results.toList = some vs ∧ v = resAV vs ∧ H' = σ.heap) →
              c.wp P (bodyPost P fn fun e w' => ∃ u μ' S', e = .returned u ∧ VR μ' S' H' v u ∧ Rel μ' S' H' B w0 w' ∧ Carry B μ S H μ' S' H') { tmps := us ++ Array.replicate (fn.ntmps - us.size) undef, defers := [] } w := by
            rintro e σ he hex ⟨vs, hvs, rfl, rfl⟩
            refine exCode_ok (μo := μ) (So := S) (Ho := H) hC (exFun_ok hC n) hod c _ e σ _ w μ S _ he hBd A0 R Carry.refl fun a' w' μ' S' A' R' C' => ?_
            obtain ⟨u, k1, k2⟩ := results_ok A' R' hvs
            rcases hex with hex | hex <;> rw [hex] <;> exact ⟨A'.defers, u, k1, u, μ', S', rfl, k2, R', C'⟩
          unfold exEnd at h
          split at h
          · rename_i σ he
            split at h
            · rename_i vs hvs; cases h; exact fin .nrm σ he (.inl rfl) ⟨vs, hvs, rfl, rfl⟩
            · simp at h
          · rename_i σ he
            split at h
            · rename_i vs hvs; cases h; exact fin .ret σ he (.inr rfl) ⟨vs, hvs, rfl, rfl⟩
            · simp at h
          · simp at h
      · simp at h
    · simp at h
end
end Go.Sy
