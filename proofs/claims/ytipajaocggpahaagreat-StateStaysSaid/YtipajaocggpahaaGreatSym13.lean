/- Code and functions, and a contract out of a run. -/
import Derived.Test.YtipajaocggpahaaGreatSym12c
namespace Go.Sy
open Go Go.RowKit
set_option linter.unusedSimpArgs false
set_option linter.unusedVariables false

inductive Ex where
  | nrm
  | exit (id : Nat)
  | goto (l : Nat)
  | ret

def Jmp.ex : Jmp → Ex
  | .ret => .ret
  | .exit i => .exit i
  | .goto l => .goto l

def Ex.to : Ex → Exit
  | .nrm => .normal
  | .exit i => .exit i
  | .goto l => .goto l
  | .ret => .ret

def exLoop : Nat → (St → Option (Ex × St)) → St → Option (Ex × St)
  | 0, _, _ => none
  | n + 1, f, σ => match f σ with
    | some (.nrm, σ') => exLoop n f σ'
    | some (.exit i, σ') => some (.exit i, σ')
    | some (.goto i, σ') => some (.goto i, σ')
    | some (.ret, σ') => some (.ret, σ')
    | none => none

/-- where a region's new objects stand: 256 operations at most, sixteen objects each -/
def site (base id : Nat) : Nat := base + id * 4096

abbrev Hints := Nat → Nat → Option LoopH

def hintOf (Hn : Hints) (base : Nat) (x : Code) : Option LoopH :=
  match firstReg x with
  | some r => Hn base r
  | none => none

def exRound (od : List Nat) (h : Option LoopH) (f : St → Option (Ex × St)) (σ : St) : Option (Ex × St) :=
  match h with
  | none => f σ
  | some h => match head od h.top σ with
    | some σ' => f σ'
    | none => none

/-- what is left behind a loop -/
def exOut (od : List Nat) (h : Option LoopH) : Option (Ex × St) → Option (Ex × St)
  | some (e, σ) => match h with
    | none => some (e, σ)
    | some h => match e with
      | .exit i => match h.out with
        | some h' => match head od h' σ with
          | some σ' => some (.exit i, σ')
          | none => none
        | none => some (.exit i, σ)
      | .ret => match h.ret with
        | some h' => match head od h' σ with
          | some σ' => some (.ret, σ')
          | none => none
        | none => some (.ret, σ)
      | e => some (e, σ)
  | none => none

/-- the temporaries that a code looks at -/
def opsUse (ops : Array Oper) : List Nat := ops.toList.flatMap fun o => o.op.operands.toList.flatMap fun x => match x with
  | .tmp t => [t]
  | _ => []

def usesOf : Code → List Nat
  | .region _ ops _ => opsUse ops
  | .seq x y => usesOf x ++ usesOf y
  | .cond c x y => (match c with
    | .tmp t => [t]
    | _ => []) ++ (usesOf x ++ usesOf y)
  | .block _ x => usesOf x
  | .loop x => usesOf x
  | _ => []

/-- a function that can be called by its value -/
def callable (P : Program) (k : Nat) : Bool := match P.funcs[k]? with
  | some fn => match fn.body with
    | some _ => !(fn.name == "runtime.NumGoroutine")
    | none => false
  | none => false

/-- what a record keeps of the temporaries -/
def liveT (σ : St) (x : RCode) : List AV := (List.range' 0 σ.nt).map fun t => cond (mem (usesOf x.2.1 ++ usesOf x.2.2) t) (σ.tmps t) .junk

/-- the record is laid, and the function called -/
def rngIn (σ : St) (base fid r : Nat) (x : RCode) : Option (St × Nat) :=
  cond ((σ.heap (site base r)).isNone) (some (⟨σ.nt, σ.tmps, upd σ.heap (site base r) (some (.loop fid r .ready (liveT σ x))), σ.ids ++ [site base r]⟩, site base r)) none

/-- the function has returned: the pending jump -/
def rngOut (σ : St) (i : Nat) (H : Heap) (L : List Nat) : Option (Ex × St) :=
  match H i with
  | some (.loop k r .ready ts) => some (.nrm, ⟨σ.nt, σ.tmps, upd H i (some (.loop k r .over ts)), L⟩)
  | some (.loop k r (.done j) ts) => some (j.ex, ⟨σ.nt, σ.tmps, upd H i (some (.loop k r .over ts)), L⟩)
  | _ => none

def exRange (P : Program) (F : Inl) (base : Nat) (rf : Option Nat) (g : Operand) (body : Code) (σ : St) : Option (Ex × St) :=
  match rf, σ.val g, firstReg body with
  | some fid, .fn (.func k) first caps, some r => match rangeIn P fid r with
    | some x => match rngIn σ base fid r x with
      | some (σ1, i) => match callable P k, F (i + 1) (.fn k) (first ++ [.yld i] ++ caps) σ1.heap σ1.ids with
        | true, some (_, H, L) => rngOut σ i H L
        | _, _ => none
      | none => none
    | none => none
  | _, _, _ => none

/-- the number by which a loop by a label is left -/
def endN : Nat := 1000000007

/-- a goto goes on with the loop, the end leaves it -/
def flipX (l : Nat) : Ex → Option Ex
  | .nrm => some (.exit endN)
  | .goto i => cond (Nat.beq i l) (some .nrm) none
  | .exit i => cond (Nat.beq i endN) none (some (.exit i))
  | .ret => some .ret

def flipE (l : Nat) : Option (Ex × St) → Option (Ex × St)
  | some (e, σ) => match flipX l e with
    | some e' => some (e', σ)
    | none => none
  | none => none

def unX : Ex → Option Ex
  | .exit i => cond (Nat.beq i endN) (some .nrm) (some (.exit i))
  | .ret => some .ret
  | _ => none

def unflip : Option (Ex × St) → Option (Ex × St)
  | some (e, σ) => match unX e with
    | some e' => some (e', σ)
    | none => none
  | none => none

def noGoto : Option (Ex × St) → Option (Ex × St)
  | some (.goto _, _) => none
  | r => r

/-- sc: on the way of a scope, on which a label may stand -/
def exCode (P : Program) (C : Cons) (Hn : Hints) (F : Inl) (lf base : Nat) (od : List Nat) (rf : Option Nat) : Bool → Code → St → Option (Ex × St)
  | _, .skip, σ => some (.nrm, σ)
  | _, .region id ops draw, σ =>
    match cond draw (exAny P C ops (site base id) σ) (exOps P C F ops (site base id) (List.range ops.size) σ) with
    | some σ' => some (.nrm, σ')
    | none => none
  | false, .seq x y, σ => match exCode P C Hn F lf base od rf false x σ with
    | some (.nrm, σ') => exCode P C Hn F lf base od rf false y σ'
    | some (.exit i, σ') => some (.exit i, σ')
    | some (.goto i, σ') => some (.goto i, σ')
    | some (.ret, σ') => some (.ret, σ')
    | none => none
  | true, .seq x y, σ => match labOf x with
    | some l => unflip (exOut od (hintOf Hn base y) (exLoop lf (exRound od (hintOf Hn base y) fun σ => flipE l (exCode P C Hn F lf base od rf false y σ)) σ))
    | none => match exCode P C Hn F lf base od rf false x σ with
      | some (.nrm, σ') => exCode P C Hn F lf base od rf true y σ'
      | some (.exit i, σ') => some (.exit i, σ')
      | some (.ret, σ') => some (.ret, σ')
      | _ => none
  | _, .cond c x y, σ => match σ.val c with
    | .lit (.bool b) => cond b (exCode P C Hn F lf base od rf false x σ) (exCode P C Hn F lf base od rf false y σ)
    | _ => none
  | _, .block id x, σ => match exCode P C Hn F lf base od rf false x σ with
    | some (.exit i, σ') => cond (Nat.beq i id) (some (.nrm, σ')) (some (.exit i, σ'))
    | r => r
  | _, .loop x, σ => exOut od (hintOf Hn base x) (exLoop lf (exRound od (hintOf Hn base x) (exCode P C Hn F lf base od rf false x)) σ)
  | _, .exit id, σ => some (.exit id, σ)
  | _, .label _, σ => some (.nrm, σ)
  | _, .ret, σ => some (.ret, σ)
  | _, .rangeFunc g _ _ body, σ => exRange P F base rf g body σ
  | _, .scope x, σ => cond (spineOK x) (noGoto (exCode P C Hn F lf base od rf true x σ)) none
  | _, .goto l, σ => some (.goto l, σ)
  | _, _, _ => none

def resOf (P : Program) (σ : St) : ResultVar → Option AV
  | .tmp t => cond (ltN t σ.nt) (some (σ.tmps t)) none
  | .cell a t => match σ.val (.tmp a) with
    | .ptr i off => match σ.heap i with
      | some (.box _ cs) => cut P t cs off
      | _ => none
    | _ => none

def resAll (P : Program) (σ : St) : List ResultVar → Option (List AV)
  | [] => some []
  | r :: rs => match resOf P σ r, resAll P σ rs with
    | some v, some vs => some (v :: vs)
    | _, _ => none

def nthAV : List AV → Nat → AV
  | [], _ => .lit undef
  | a :: _, 0 => a
  | _ :: l, n + 1 => nthAV l n

def exEnd (P : Program) (rs : List ResultVar) : Option (Ex × St) → Option (AV × Heap × List Nat)
  | some (.nrm, σ) => match resAll P σ rs with
    | some vs => some (resAV vs, σ.heap, σ.ids)
    | none => none
  | some (.ret, σ) => match resAll P σ rs with
    | some vs => some (resAV vs, σ.heap, σ.ids)
    | none => none
  | _ => none

/-- a round: its record, its code, its first state -/
def rndIn (P : Program) (i : Nat) (as : List AV) (H : Heap) (L : List Nat) : Option (Nat × Nat × RCode × St) :=
  match H i with
  | some (.loop k r .ready ts) => match rangeIn P k r with
    | some x => cond (Nat.beq x.1.size as.length) (some (k, r, x, ⟨ts.length, nthAV (setPs ts x.1.toList as), H, L⟩)) none
    | none => none
  | _ => none

/-- the round begins -/
def rndBusy (i k r : Nat) (σ : St) : Option St :=
  match σ.heap i with
  | some (.loop k' r' .ready ts) => cond (Nat.beq k' k && Nat.beq r' r) (some ⟨σ.nt, σ.tmps, upd σ.heap i (some (.loop k r .busy ts)), σ.ids⟩) none
  | _ => none

def Ex.st : Ex → LSt
  | .nrm => .ready
  | .ret => .done .ret
  | .exit i => .done (.exit i)
  | .goto l => .done (.goto l)

def Ex.on : Ex → Bool
  | .nrm => true
  | _ => false

/-- the round ends -/
def rndOut (i k r : Nat) (e : Ex) (σ : St) : Option (AV × Heap × List Nat) :=
  match σ.heap i with
  | some (.loop k' r' .busy ts) => cond (Nat.beq k' k && Nat.beq r' r) (some (.lit (.bool e.on), upd σ.heap i (some (.loop k r e.st ts)), σ.ids)) none
  | _ => none

def exRnd (i k r : Nat) (asn body : St → Option (Ex × St)) (σ : St) : Option (AV × Heap × List Nat) :=
  match asn σ with
  | some (.nrm, σ1) => match rndBusy i k r σ1 with
    | some σ2 => match body σ2 with
      | some (e, σ3) => rndOut i k r e σ3
      | none => none
    | none => none
  | _ => none

def exFun (P : Program) (C : Cons) (Hn : Hints) (lf : Nat) : Nat → Inl
  | 0 => fun _ _ _ _ _ => none
  | n + 1 => fun base c as H L => match c with
    | .fn k => match P.funcs[k]? with
      | some fn => match fn.body with
        | some c => cond (Nat.ble as.length fn.ntmps) (exEnd P fn.results.toList (exCode P C Hn (exFun P C Hn lf n) lf (Nat.succ base * 4294967296) L (some k) false c ⟨fn.ntmps, nthAV as, H, L⟩)) none
        | none => none
      | none => none
    | .yld i => match rndIn P i as H L with
      | some (k, r, x, σ) => exRnd i k r (exCode P C Hn (exFun P C Hn lf n) lf (Nat.succ base * 4294967296) L none false x.2.1) (exCode P C Hn (exFun P C Hn lf n) lf (Nat.succ base * 4294967296) L none false x.2.2) σ
      | none => none

section
variable [Glob] {P : Program} {C : Cons} {F : Inl} {rd : Option Nat} {N : Stable} {B lf base : Nat} {w0 : World}

omit [Glob] in
theorem exLoop_bd {f : St → Option (Ex × St)} (hf : ∀ σ e σ', f σ = some (e, σ') → Bd σ → Bd σ') : ∀ (n : Nat) (σ : St) (e : Ex) (σ' : St), exLoop n f σ = some (e, σ') → Bd σ → Bd σ'
  | 0, σ, e, σ', h, _ => by simp [exLoop] at h
  | n + 1, σ, e, σ', h, hB => by
    simp only [exLoop] at h
    split at h
    · rename_i σ1 h1; exact exLoop_bd hf n σ1 e σ' h (hf _ _ _ h1 hB)
    · rename_i h1; cases h; exact hf _ _ _ h1 hB
    · rename_i h1; cases h; exact hf _ _ _ h1 hB
    · rename_i h1; cases h; exact hf _ _ _ h1 hB
    · simp at h

omit [Glob] in
theorem exOut_cases {od : List Nat} {h : Option LoopH} {r : Option (Ex × St)} {e : Ex} {σ' : St} (hr : exOut od h r = some (e, σ')) :
    r = some (e, σ') ∨ ∃ σ h', r = some (e, σ) ∧ head od h' σ = some σ' := by
  unfold exOut at hr
  split at hr
  · rename_i e0 σ
    split at hr
    · exact .inl hr
    · split at hr
      · split at hr
        · rename_i h' _
          split at hr
          · rename_i σ1 h1; cases hr; exact .inr ⟨σ, h', rfl, h1⟩
          · simp at hr
        · exact .inl hr
      · split at hr
        · rename_i h' _
          split at hr
          · rename_i σ1 h1; cases hr; exact .inr ⟨σ, h', rfl, h1⟩
          · simp at hr
        · exact .inl hr
      · exact .inl hr
  · simp at hr

omit [Glob] in
theorem rngOut_bd {σ σ' : St} {i : Nat} {H : Heap} {L : List Nat} {e : Ex} (h : rngOut σ i H L = some (e, σ')) (hb : ∀ q, H q ≠ none → q ∈ L) : Bd σ' := by
  have key : ∀ o, H i ≠ none → ∀ q, upd H i o q ≠ none → q ∈ L := by
    intro o hi q hq
    by_cases eq : q = i
    · subst eq; exact hb q hi
    · rw [upd_ne _ _ eq] at hq; exact hb q hq
  unfold rngOut at h
  split at h
  · rename_i hH; cases h; exact key _ (by rw [hH]; simp)
  · rename_i hH; cases h; exact key _ (by rw [hH]; simp)
  · simp at h

theorem exRange_bd {g : Operand} {body : Code} {rf : Option Nat} {σ σ' : St} {e : Ex} (hF : InlOK P F) (h : exRange P F base rf g body σ = some (e, σ')) (hB : Bd σ) : Bd σ' := by
  unfold exRange at h
  split at h
  · rename_i fid k first caps r hg hr
    split at h
    · rename_i x hx
      split at h
      · rename_i σ1 i hin
        split at h
        · rename_i v H L hc hcall
          obtain ⟨hi, e1⟩ := cond_some hin
          cases e1
          have := (hF _ _ _ _ _ _ _ _ hcall (fun q hq => by
            show q ∈ σ.ids ++ [site base r]
            by_cases eq : q = site base r
            · subst eq; simp
            · simp only at hq; rw [upd_ne _ _ eq] at hq; simp [hB q hq])).1
          exact rngOut_bd h this
        · simp at h
      · simp at h
    · simp at h
  · simp at h

theorem exCode_bd {Hn : Hints} {od : List Nat} {rf : Option Nat} (hF : InlOK P F) : ∀ (sc : Bool) (c : Code) (σ : St) (e : Ex) (σ' : St), exCode P C Hn F lf base od rf sc c σ = some (e, σ') → Bd σ → Bd σ'
  | sc, .skip, σ, e, σ', h, hB => by simp only [exCode] at h; cases h; exact hB
  | sc, .region id ops draw, σ, e, σ', h, hB => by
    simp only [exCode] at h
    split at h
    · rename_i σ1 h1
      cases h
      cases draw with
      | true => exact exAny_bd h1 hB
      | false => exact exOps_bd hF _ _ _ h1 hB
    · simp at h
  | false, .seq x y, σ, e, σ', h, hB => by
    simp only [exCode] at h
    split at h
    · rename_i σ1 h1; exact exCode_bd hF false y σ1 e σ' h (exCode_bd hF false x σ _ σ1 h1 hB)
    · rename_i h1; cases h; exact exCode_bd hF false x σ _ _ h1 hB
    · rename_i h1; cases h; exact exCode_bd hF false x σ _ _ h1 hB
    · rename_i h1; cases h; exact exCode_bd hF false x σ _ _ h1 hB
    · simp at h
  | true, .seq x y, σ, e, σ', h, hB => by
    simp only [exCode] at h
    split at h
    · rename_i l hl
      have fl : ∀ σ e σ', flipE l (exCode P C Hn F lf base od rf false y σ) = some (e, σ') → Bd σ → Bd σ' := by
        intro σ e σ' h hB
        unfold flipE at h
        split at h
        · rename_i e1 σ1 h1
          split at h
          · cases h; exact exCode_bd hF false y σ _ _ h1 hB
          · simp at h
        · simp at h
      unfold unflip at h
      split at h
      · rename_i e1 σ1 h1
        split at h
        · cases h
          rcases exOut_cases h1 with h | ⟨σ2, h', h, hh⟩
          · refine exLoop_bd (fun σ e σ' h hB => ?_) lf σ _ _ h hB
            unfold exRound at h
            split at h
            · exact fl σ e σ' h hB
            · split at h
              · rename_i σ1 h1; exact fl σ1 e σ' h (head_bd h1)
              · simp at h
          · exact head_bd hh
        · simp at h
      · simp at h
    · split at h
      · rename_i σ1 h1; exact exCode_bd hF true y σ1 e σ' h (exCode_bd hF false x σ _ σ1 h1 hB)
      · rename_i h1; cases h; exact exCode_bd hF false x σ _ _ h1 hB
      · rename_i h1; cases h; exact exCode_bd hF false x σ _ _ h1 hB
      · simp at h
  | sc, .cond c x y, σ, e, σ', h, hB => by
    simp only [exCode] at h
    split at h
    · rename_i b hb
      cases b with
      | true => exact exCode_bd hF false x σ e σ' h hB
      | false => exact exCode_bd hF false y σ e σ' h hB
    · simp at h
  | sc, .block id x, σ, e, σ', h, hB => by
    simp only [exCode] at h
    split at h
    · rename_i i σ1 h1
      have := exCode_bd hF false x σ _ σ1 h1 hB
      cases hb : Nat.beq i id <;> rw [hb] at h <;> cases h <;> exact this
    · exact exCode_bd hF false x σ e σ' h hB
  | sc, .loop x, σ, e, σ', h, hB => by
    simp only [exCode] at h
    rcases exOut_cases h with h | ⟨σ1, h', h, hh⟩
    · refine exLoop_bd (fun σ e σ' h hB => ?_) lf σ e σ' h hB
      unfold exRound at h
      split at h
      · exact exCode_bd hF false x σ e σ' h hB
      · split at h
        · rename_i σ1 h1; exact exCode_bd hF false x σ1 e σ' h (head_bd h1)
        · simp at h
    · exact head_bd hh
  | sc, .exit id, σ, e, σ', h, hB => by simp only [exCode] at h; cases h; exact hB
  | sc, .label l, σ, e, σ', h, hB => by simp only [exCode] at h; cases h; exact hB
  | sc, .ret, σ, e, σ', h, hB => by simp only [exCode] at h; cases h; exact hB
  | sc, .rangeFunc g ps asn body, σ, e, σ', h, hB => by simp only [exCode] at h; exact exRange_bd hF h hB
  | sc, .scope x, σ, e, σ', h, hB => by
    simp only [exCode] at h
    cases hs : spineOK x with
    | false => rw [hs] at h; simp at h
    | true =>
      rw [hs] at h
      simp only [cond_true] at h
      unfold noGoto at h
      split at h
      · simp at h
      · exact exCode_bd hF true x σ e σ' h hB
  | sc, .goto l, σ, e, σ', h, hB => by simp only [exCode] at h; cases h; exact hB
  | sc, .refuse _, σ, e, σ', h, hB => by simp [exCode] at h

section
variable {μo : Mu} {So : Stable} {Ho : Heap}

theorem exLoop_ok {f : St → Option (Ex × St)} {x : Code} (hf : ∀ σ e σ', f σ = some (e, σ') → Bd σ → Bd σ')
    (ih : ∀ (σ : St) (e : Ex) (σ' : St) (a : Act) (w : World) (μ : Mu) (S : Stable) (Q : Exit → Act → World → Prop), f σ = some (e, σ') → Bd σ → AR So μ S σ a → Rel μ S σ.heap B w0 w → Carry B μo So Ho μ S σ.heap →
      (∀ a' w' μ' S', AR So μ' S' σ' a' → Rel μ' S' σ'.heap B w0 w' → Carry B μo So Ho μ' S' σ'.heap → Q e.to a' w') → x.wpIn (WF rd) 0 P Q a w) :
    ∀ (n : Nat) (σ : St) (e : Ex) (σ' : St) (a : Act) (w : World) (μ : Mu) (S : Stable) (Q : Exit → Act → World → Prop), exLoop n f σ = some (e, σ') → Bd σ → AR So μ S σ a → Rel μ S σ.heap B w0 w → Carry B μo So Ho μ S σ.heap →
      (∀ a' w' μ' S', AR So μ' S' σ' a' → Rel μ' S' σ'.heap B w0 w' → Carry B μo So Ho μ' S' σ'.heap → Q e.to a' w') → Code.roundsIn (WF rd) 0 P x Q n a w := by
  intro n
  induction n with
  | zero => intro σ e σ' a w μ S Q h; simp [exLoop] at h
  | succ n ihn =>
    intro σ e σ' a w μ S Q h hB A R Co hK
    rw [roundsIn_succ]
    simp only [exLoop] at h
    split at h
    · rename_i σ1 h1
      refine ih σ .nrm σ1 a w μ S _ h1 hB A R Co fun a1 w1 μ1 S1 A1 R1 C1 => ?_
      exact ihn σ1 e σ' a1 w1 μ1 S1 Q h (hf _ _ _ h1 hB) A1 R1 C1 hK
    · rename_i i σ1 h1; cases h; exact ih σ (.exit i) _ a w μ S _ h1 hB A R Co hK
    · rename_i i σ1 h1; cases h; exact ih σ (.goto i) _ a w μ S _ h1 hB A R Co hK
    · rename_i σ1 h1; cases h; exact ih σ .ret _ a w μ S _ h1 hB A R Co hK
    · simp at h

/-- each range of the code is the one that is found by its key -/
def RngOK (P : Program) (rf : Option Nat) (c : Code) : Prop := ∀ fid, rf = some fid → ∀ x ∈ rangesOf c, ∀ r y, RCode.is x r = true → rangeIn P fid r = some y → y = x

omit [Glob] in
theorem RngOK.left {rf : Option Nat} {x y : Code} (h : RngOK P rf (.seq x y)) : RngOK P rf x := fun fid hf z hz => h fid hf z (by simp [rangesOf, hz])
omit [Glob] in
theorem RngOK.right {rf : Option Nat} {x y : Code} (h : RngOK P rf (.seq x y)) : RngOK P rf y := fun fid hf z hz => h fid hf z (by simp [rangesOf, hz])
omit [Glob] in
theorem RngOK.cleft {rf : Option Nat} {c : Operand} {x y : Code} (h : RngOK P rf (.cond c x y)) : RngOK P rf x := fun fid hf z hz => h fid hf z (by simp [rangesOf, hz])
omit [Glob] in
theorem RngOK.cright {rf : Option Nat} {c : Operand} {x y : Code} (h : RngOK P rf (.cond c x y)) : RngOK P rf y := fun fid hf z hz => h fid hf z (by simp [rangesOf, hz])
omit [Glob] in
theorem RngOK.block {rf : Option Nat} {id : Nat} {x : Code} (h : RngOK P rf (.block id x)) : RngOK P rf x := h
omit [Glob] in
theorem RngOK.scope {rf : Option Nat} {x : Code} (h : RngOK P rf (.scope x)) : RngOK P rf x := h
omit [Glob] in
theorem RngOK.loop {rf : Option Nat} {x : Code} (h : RngOK P rf (.loop x)) : RngOK P rf x := h
omit [Glob] in
theorem RngOK.none {c : Code} : RngOK P none c := fun _ h => by simp at h
omit [Glob] in
theorem RngOK.top {k : Nat} {fn : Func} {c : Code} (hfn : P.funcs[k]? = some fn) (hc : fn.body = some c) : RngOK P (some k) c := by
  intro fid hf x hx r y hr hy
  cases hf
  unfold rangeIn at hy
  rw [hfn] at hy
  simp only [hc] at hy
  exact lookR_mem hy hx hr

omit [Glob] in
theorem liveT_VRs {σ : St} {x : RCode} {tmps : Array Value} {μ : Mu} {S : Stable} {H : Heap} (hs : tmps.size = σ.nt) (h : ∀ t, t < σ.nt → VR μ S H (σ.tmps t) (tmps.getD t undef)) : VRs μ S H (liveT σ x) tmps.toList := by
  unfold liveT
  rw [show σ.nt = tmps.toList.length by simp [hs]]
  refine VRs_range _ 0 fun t ht => ?_
  have ht : t < σ.nt := by rw [← hs]; simpa using ht
  rw [Nat.zero_add]
  cases mem (usesOf x.2.1 ++ usesOf x.2.2) t with
  | false => simp only [cond_false, VR]
  | true =>
    simp only [cond_true]
    have := h t ht
    rw [Array.getD_eq_getD_getElem?] at this
    rw [List.getD_eq_getElem?_getD, Array.getElem?_toList]
    exact this

theorem rng_lay (hC : TabsOK P C) {σ : St} {a : Act} {w : World} {μ : Mu} {S : Stable} {fid r i : Nat} {ps : Array Tmp} {asn body : Code} (hx : rangeIn P fid r = some (ps, asn, body)) (hi0 : σ.heap i = none)
    (A : AR N μ S σ a) (R : Rel μ S σ.heap B w0 w) (fnid : FuncId) :
    ∃ μ1 S1, Rel μ1 S1 (upd σ.heap i (some (.loop fid r .ready (liveT σ (ps, asn, body))))) B w0
        ((w.alloc (.deferred (some []))).alloc (.loop { state := .ready, pending := none, fn := fnid, tmps := a.tmps, params := ps, assign := asn, body := body, defers := w.heap.size })) ∧
      Carry B μ S σ.heap μ1 S1 (upd σ.heap i (some (.loop fid r .ready (liveT σ (ps, asn, body))))) ∧
      VR μ1 S1 (upd σ.heap i (some (.loop fid r .ready (liveT σ (ps, asn, body))))) (.yld i) (.func (.yield (w.heap.size + 1)) #[] #[]) ∧ S1 w.heap.size = some (.deferred (some [])) := by
  obtain ⟨RD, CD⟩ := R.mark (.deferred (some []))
  have hm : μ i = none := by
    have := R.dom i
    rw [hi0] at this
    cases hm : μ i with
    | none => rfl
    | some _ => rw [hm] at this; simp at this
  have E0 : Ext μ (addS S w.heap.size (.deferred (some []))) σ.heap (upd μ i (some ⟨some (w.alloc (.deferred (some []))).heap.size, 0⟩)) (addS S w.heap.size (.deferred (some []))) (upd σ.heap i (some (.loop fid r .ready (liveT σ (ps, asn, body))))) := Ext.new hm
  obtain ⟨R1, E1⟩ := RD.new hi0 (.loop { state := .ready, pending := none, fn := fnid, tmps := a.tmps, params := ps, assign := asn, body := body, defers := w.heap.size })
    (.loop fid r .ready (liveT σ (ps, asn, body))) ⟨some (w.alloc (.deferred (some []))).heap.size, 0⟩ rfl ⟨_, fnid, .ready, none, a.tmps, ps, asn, body, w.heap.size, rfl, RD.size, st_new RD, by rw [hC.2.2]; exact hx, ⟨rfl, rfl⟩, alloc_heap_new _ _,
      liveT_VRs A.size fun t ht => VR_mono E0 _ _ (CD.vr _ _ (A.tmp t ht))⟩
  refine ⟨_, _, R1, CD.trans (Carry.of (B := B) E1), ?_, addS_same⟩
  simp only [VR]
  exact ⟨_, _, upd_same _ _ _, fun t e g xs h => by rw [upd_same] at h; simp at h, by simp⟩

omit [Glob] in
theorem Carry.vrs {μ μ' : Mu} {S S' : Stable} {H H' : Heap} (h : Carry B μ S H μ' S' H') {as : List AV} {us : Array Value} (hv : VRs μ S H as us.toList) : VRs μ' S' H' as us.toList := by
  have := h.vr (.tup as) (.tuple us) (by simp only [VR]; exact ⟨us, rfl, hv⟩)
  simp only [VR] at this
  obtain ⟨x, h1, h2⟩ := this
  cases h1
  exact h2

omit [Glob] in
theorem resolve_range {a : Act} {g : Operand} {k l : Nat} {x y : Array Value} {w : World} (h : a.eval g = .func (.func k) x y) :
    (resolve a.eval (rangeCall g l) 0).run P w = .ok { target := .fn (.func k) y, args := x ++ #[.func (.yield l) #[] #[]] } w := by
  show (Deferred.ofValue (a.eval g) _).run P w = _
  rw [h]
  simp [Deferred.ofValue, rangeCall, Act.eval]

theorem rng_end {σ σ' : St} {e : Ex} {a : Act} {w3 : World} {μ μ2 : Mu} {S S2 : Stable} {i b cp : Nat} {H2 : Heap} {L2 : List Nat} {Q : Exit → Act → World → Prop} (h : rngOut σ i H2 L2 = some (e, σ'))
    (hm2 : μ2 i = some ⟨some b, cp⟩) (R2 : Rel μ2 S2 H2 B w0 w3) (AD : ∀ {H3 : Heap} (E : Ext μ2 S2 H2 μ2 S2 H3), AR N μ2 S2 ⟨σ.nt, σ.tmps, H3, L2⟩ a) (CT : Carry B μ S σ.heap μ2 S2 H2)
    (hK : ∀ w' μ' S', AR N μ' S' σ' a → Rel μ' S' σ'.heap B w0 w' → Carry B μ S σ.heap μ' S' σ'.heap → Q e.to a w') (u : Value) : rangePost (WF none) 0 P b Q a (.returned u) w3 := by
  unfold rngOut at h
  split at h
  · rename_i k' r' ts hH
    cases h
    obtain ⟨L, hL, hr1, hst, hvs⟩ := R2.loop hH hm2
    obtain ⟨R4, E4⟩ := R2.setLoop (st' := .over) (L' := { L with state := .exhausted }) hH hm2 hL ⟨rfl, rfl, rfl, rfl⟩ trivial
    refine ⟨none, _, ?_, hK _ μ2 S2 (AD E4) R4 (CT.trans (Carry.of E4))⟩
    rw [← hst.2]
    exact run_endLoop hL (by rw [hst.1]; simp)
  · rename_i k' r' j ts hH
    cases h
    obtain ⟨L, hL, hr1, hst, hvs⟩ := R2.loop hH hm2
    obtain ⟨R4, E4⟩ := R2.setLoop (st' := .over) (L' := { L with state := .exhausted }) hH hm2 hL ⟨rfl, rfl, rfl, rfl⟩ trivial
    refine ⟨some j.code, _, by rw [← hst.2]; exact run_endLoop hL (by rw [hst.1]; simp), ?_⟩
    have fin := hK _ μ2 S2 (AD E4) R4 (CT.trans (Carry.of E4))
    cases j with
    | ret => exact wpIn_ret fin
    | exit i => exact wpIn_exit fin
    | goto l => exact wpIn_goto fin
  · simp at h

omit [Glob] in
theorem callable_ok {k : Nat} (hcb : callable P k = true) : ∃ fn c, P.funcs[k]? = some fn ∧ fn.body = some c ∧ (fn.name == "runtime.NumGoroutine") = false := by
  unfold callable at hcb
  split at hcb
  · rename_i fn hfn
    split at hcb
    · rename_i c hc; exact ⟨fn, c, hfn, hc, by simpa using hcb⟩
    · simp at hcb
  · simp at hcb

omit [Glob] in
theorem invoke_fn {k : Nat} (hcb : callable P k = true) (x y : Array Value) (w : World) : (invoke (.fn (.func k) y) x).run P w = .ok (.enter k (x ++ y)) w := by
  obtain ⟨fn, cb, hfn, hbody, hname⟩ := callable_ok hcb
  simp only [invoke, callFunc, Sem.run_bind, Sem.run_pure, Result.andThen_ok, run_program, hfn, hname, Bool.false_eq_true, if_false, hbody, Option.isNone_some]

theorem exRange_ok {g : Operand} {ps : Array Tmp} {asn body : Code} {rf : Option Nat} {σ σ' : St} {e : Ex} {a : Act} {w : World} {μ : Mu} {S : Stable} {Q : Exit → Act → World → Prop} (hrf : rf ≠ none → rd = none) (hC : TabsOK P C) (hF : InlOK P F)
    (hg : RngOK P rf (.rangeFunc g ps asn body)) (h : exRange P F base rf g body σ = some (e, σ')) (hB : Bd σ) (A : AR N μ S σ a) (R : Rel μ S σ.heap B w0 w) (hsub : ∀ b o, N b = some o → S b = some o)
    (hK : ∀ a' w' μ' S', AR N μ' S' σ' a' → Rel μ' S' σ'.heap B w0 w' → Carry B μ S σ.heap μ' S' σ'.heap → Q e.to a' w') : (Code.rangeFunc g ps asn body).wpIn (WF rd) 0 P Q a w := by
  unfold exRange at h
  split at h
  case h_2 => simp at h
  rename_i fid k first caps r hgv hfr
  split at h
  case h_2 => simp at h
  rename_i x hx
  have hxe : x = (ps, asn, body) := hg fid rfl (ps, asn, body) (by simp [rangesOf]) r x (by simp [RCode.is, hfr]) hx
  subst hxe
  split at h
  case h_2 => simp at h
  rename_i σ1 i hin
  obtain ⟨hi0, e1⟩ := cond_some hin
  cases e1
  split at h
  case h_2 => simp at h
  rename_i v H2 L2 hcb hcall
  have hrd : rd = none := hrf (by simp)
  subst hrd
  have hv := A.val g
  rw [hgv] at hv
  simp only [VR] at hv
  obtain ⟨x1, y1, hge, hf1, hf2⟩ := hv
  have hi0 : σ.heap (site base r) = none := by simpa using hi0
  refine wpIn_rangeFunc fun fnid _ => ?_
  obtain ⟨μ1, S1, R1, CT1, hyv, hSD⟩ := rng_lay hC hx hi0 A R fnid
  refine ⟨w.heap.size + 1, _, _, _, _, k, _, _, run_enterLoop_outer fnid a.tmps ps asn body, resolve_range hge, fun _ _ => trivial, invoke_fn hcb _ _ _, fun h => (by cases h), callsIn_WF.2 ?_⟩
  have hB1 : ∀ q, upd σ.heap (site base r) (some (.loop fid r .ready (liveT σ (ps, asn, body)))) q ≠ none → q ∈ σ.ids ++ [site base r] := by
    intro q hq
    by_cases eq : q = site base r
    · subst eq; simp
    · rw [upd_ne _ _ eq] at hq; simp [hB q hq]
  have hvs : VRs μ1 S1 (upd σ.heap (site base r) (some (.loop fid r .ready (liveT σ (ps, asn, body))))) (first ++ [.yld (site base r)] ++ caps) (x1 ++ #[Value.func (.yield (w.heap.size + 1)) #[] #[]] ++ y1).toList := by
    simp only [Array.toList_append]
    exact VRs_append (VRs_append (CT1.vrs hf1) (by simp only [VRs]; exact ⟨_, [], rfl, hyv, rfl⟩)) (CT1.vrs hf2)
  have hrun := (hF _ _ _ _ _ _ _ _ hcall hB1).2 μ1 S1 B w0 _ _ R1 hvs
  clear hB1 hcall hF
  show RunC P μ1 (.fn k) _ _ _
  refine RunC.mono hrun ?_
  rintro e' w3 ⟨u, μ2, S2, rfl, q1, R2, C2⟩
  have hm2 := C2.vr _ _ hyv
  simp only [VR] at hm2
  obtain ⟨b, cp, hm2, _, heq⟩ := hm2
  injection heq with heq; injection heq with heq
  subst heq
  have CT := CT1.trans C2
  refine rng_end h hm2 R2 (fun {H3} E => ?_) CT (fun w' μ' S' => hK _ w' μ' S') u
  obtain ⟨ms, hms, hnd, hmk⟩ := A.defers
  refine ⟨⟨w.heap.size :: ms, by rw [hms]; rfl, List.nodup_cons.2 ⟨fun hD => ?_, hnd⟩, fun D hD => ?_⟩, A.size, fun t ht => VR_mono E _ _ (CT.vr _ _ (A.tmp t ht))⟩
  · have := R.st_lt (hmk _ hD).2; omega
  · rcases List.mem_cons.1 hD with rfl | hD
    · refine ⟨?_, C2.sub _ _ hSD⟩
      cases hn : N w.heap.size with
      | none => rfl
      | some o => have := R.st_lt (hsub _ _ hn); omega
    · exact ⟨(hmk _ hD).1, C2.sub _ _ (CT1.sub _ _ (hmk _ hD).2)⟩

/-- what is asked along a scope's way -/
def spineJ (F : Fence) (P : Program) (lf : Nat) (c : Code) (Q : Exit → Act → World → Prop) : Exit → Act → World → Prop :=
  match spineLab c with
  | some (l, r) => jumpQ l (scopeR F 0 P l r Q lf) Q
  | none => jumpQ 0 (scopeR F 0 P 0 .skip Q 0) Q

omit [Glob] in
theorem spineJ_of {F : Fence} {c : Code} {Q : Exit → Act → World → Prop} (e : Ex) (hne : ∀ l, e ≠ .goto l) (a : Act) (w : World) (h : Q e.to a w) : spineJ F P lf c Q e.to a w := by
  unfold spineJ
  cases spineLab c with
  | some q =>
    cases e with
    | goto l => exact absurd rfl (hne l)
    | _ => exact h
  | none =>
    cases e with
    | goto l => exact absurd rfl (hne l)
    | _ => exact h

def Code.isSeq : Code → Bool
  | .seq _ _ => true
  | _ => false

omit [Glob] in
theorem sc_same {Hn : Hints} {od : List Nat} {rf : Option Nat} {c : Code} {σ : St} (h : Code.isSeq c = false) : exCode P C Hn F lf base od rf true c σ = exCode P C Hn F lf base od rf false c σ := by
  cases c <;> first | rfl | (simp [Code.isSeq] at h)

omit [Glob] in
theorem flip_bd {l : Nat} {f : St → Option (Ex × St)} (hf : ∀ σ e σ', f σ = some (e, σ') → Bd σ → Bd σ') {σ : St} {e : Ex} {σ' : St} (h : flipE l (f σ) = some (e, σ')) (hB : Bd σ) : Bd σ' := by
  unfold flipE at h
  split at h
  · rename_i e1 σ1 h1
    split at h
    · cases h; exact hf _ _ _ h1 hB
    · simp at h
  · simp at h

/-- rounds by a label -/
theorem labLoop_ok {f : St → Option (Ex × St)} {y : Code} {l : Nat} (hf : ∀ σ e σ', f σ = some (e, σ') → Bd σ → Bd σ')
    (ih : ∀ (σ : St) (e : Ex) (σ' : St) (a : Act) (w : World) (μ : Mu) (S : Stable) (Q : Exit → Act → World → Prop), f σ = some (e, σ') → Bd σ → AR So μ S σ a → Rel μ S σ.heap B w0 w → Carry B μo So Ho μ S σ.heap →
      (∀ e1, flipX l e1 = some e → ∀ a' w' μ' S', AR So μ' S' σ' a' → Rel μ' S' σ'.heap B w0 w' → Carry B μo So Ho μ' S' σ'.heap → Q e1.to a' w') → y.wpIn (WF rd) 0 P Q a w) {Q : Exit → Act → World → Prop} :
    ∀ (n : Nat) (σ : St) (e : Ex) (σ' : St) (a : Act) (w : World) (μ : Mu) (S : Stable), exLoop n f σ = some (e, σ') → Bd σ → AR So μ S σ a → Rel μ S σ.heap B w0 w → Carry B μo So Ho μ S σ.heap →
      (∀ e3, unX e = some e3 → ∀ a' w' μ' S', AR So μ' S' σ' a' → Rel μ' S' σ'.heap B w0 w' → Carry B μo So Ho μ' S' σ'.heap → Q e3.to a' w') → y.wpIn (WF rd) 0 P (jumpQ l (scopeR (WF rd) 0 P l (.seq .skip y) Q n) Q) a w := by
  intro n
  induction n with
  | zero => intro σ e σ' a w μ S h; simp [exLoop] at h
  | succ n ihn =>
    intro σ e σ' a w μ S h hB A R Co hK
    simp only [exLoop] at h
    -- how a round's end is told
    have last : ∀ {e0 : Ex} {σ0 : St}, f σ = some (e0, σ0) → e0 = e → σ0 = σ' → e0 ≠ .nrm → y.wpIn (WF rd) 0 P (jumpQ l (scopeR (WF rd) 0 P l (.seq .skip y) Q (n + 1)) Q) a w := by
      intro e0 σ0 h1 he hσ hn
      subst he hσ
      refine ih σ _ _ a w μ S _ h1 hB A R Co fun e1 h1 a1 w1 μ1 S1 A1 R1 C1 => ?_
      cases e1 with
      | nrm =>
        simp only [flipX, Option.some.injEq] at h1
        subst h1
        exact hK .nrm (by simp [unX]) a1 w1 μ1 S1 A1 R1 C1
      | goto i =>
        simp only [flipX] at h1
        obtain ⟨_, h1⟩ := cond_some h1
        exact absurd h1.symm hn
      | exit i =>
        simp only [flipX] at h1
        obtain ⟨hi, h1⟩ := cond_no h1
        cases h1
        exact hK (.exit i) (by simp only [unX, hi, cond_false]) a1 w1 μ1 S1 A1 R1 C1
      | ret =>
        simp only [flipX, Option.some.injEq] at h1
        subst h1
        exact hK .ret rfl a1 w1 μ1 S1 A1 R1 C1
    split at h
    · rename_i σ1 h1
      refine ih σ .nrm σ1 a w μ S _ h1 hB A R Co fun e1 h2 a1 w1 μ1 S1 A1 R1 C1 => ?_
      cases e1 with
      | goto i =>
        simp only [flipX] at h2
        obtain ⟨hi, _⟩ := cond_some h2
        refine ⟨Nat.eq_of_beq_eq_true hi, ?_⟩
        show (Code.seq .skip y).wpIn (WF rd) 0 P _ a1 w1
        refine wpIn_seq (wpIn_skip ?_)
        exact ihn σ1 e σ' a1 w1 μ1 S1 h (hf _ _ _ h1 hB) A1 R1 C1 hK
      | nrm => simp [flipX] at h2
      | exit i =>
        simp only [flipX] at h2
        obtain ⟨_, h2⟩ := cond_no h2
        simp at h2
      | ret => simp [flipX] at h2
    · rename_i i σ1 h1; cases h; exact last h1 rfl rfl (by simp)
    · rename_i i σ1 h1; cases h; exact last h1 rfl rfl (by simp)
    · rename_i σ1 h1; cases h; exact last h1 rfl rfl (by simp)
    · simp at h

set_option maxHeartbeats 4000000 in
mutual
theorem exCode_ok {Hn : Hints} {od : List Nat} {rf : Option Nat} (hrf : rf ≠ none → rd = none) (hC : TabsOK P C) (hF : InlOK P F) (hod : ∀ i, μo i ≠ none → i ∈ od) :
    ∀ (c : Code), RngOK P rf c → ∀ (σ : St) (e : Ex) (σ' : St) (a : Act) (w : World) (μ : Mu) (S : Stable) (Q : Exit → Act → World → Prop),
    exCode P C Hn F lf base od rf false c σ = some (e, σ') → Bd σ → AR So μ S σ a → Rel μ S σ.heap B w0 w → Carry B μo So Ho μ S σ.heap →
    (∀ a' w' μ' S', AR So μ' S' σ' a' → Rel μ' S' σ'.heap B w0 w' → Carry B μo So Ho μ' S' σ'.heap → Q e.to a' w') → c.wpIn (WF rd) 0 P Q a w
  | .skip, hg, σ, e, σ', a, w, μ, S, Q, h, hB, A, R, Co, hK => by
    simp only [exCode] at h; cases h; exact wpIn_skip (hK a w μ S A R Co)
  | .region id ops draw, hg, σ, e, σ', a, w, μ, S, Q, h, hB, A, R, Co, hK => by
    simp only [exCode] at h
    split at h
    · rename_i σ1 h1
      cases h
      cases draw with
      | true => exact exAny_ok hC h1 A R fun a' w' μ' S' A' R' C' => hK a' w' μ' S' A' R' (Co.trans C')
      | false => exact wpIn_region (exOps_ok hC hF _ _ _ a w μ S h1 hB A R fun a' w' μ' S' A' R' C' => hK a' w' μ' S' A' R' (Co.trans C'))
    · simp at h
  | .seq x y, hg, σ, e, σ', a, w, μ, S, Q, h, hB, A, R, Co, hK => by
    simp only [exCode] at h
    refine wpIn_seq ?_
    split at h
    · rename_i σ1 h1
      refine exCode_ok hrf hC hF hod x hg.left σ .nrm σ1 a w μ S _ h1 hB A R Co fun a1 w1 μ1 S1 A1 R1 C1 => ?_
      exact exCode_ok hrf hC hF hod y hg.right σ1 e σ' a1 w1 μ1 S1 Q h (exCode_bd hF false x σ _ σ1 h1 hB) A1 R1 C1 hK
    · rename_i i σ1 h1; cases h; exact exCode_ok hrf hC hF hod x hg.left σ (.exit i) _ a w μ S _ h1 hB A R Co hK
    · rename_i i σ1 h1; cases h; exact exCode_ok hrf hC hF hod x hg.left σ (.goto i) _ a w μ S _ h1 hB A R Co hK
    · rename_i σ1 h1; cases h; exact exCode_ok hrf hC hF hod x hg.left σ .ret _ a w μ S _ h1 hB A R Co hK
    · simp at h
  | .cond c x y, hg, σ, e, σ', a, w, μ, S, Q, h, hB, A, R, Co, hK => by
    simp only [exCode] at h
    split at h
    · rename_i b hb
      have hv := A.val c
      rw [hb] at hv
      simp only [VR] at hv
      refine wpIn_cond hv ?_
      cases b with
      | true => exact exCode_ok hrf hC hF hod x hg.cleft σ e σ' a w μ S Q h hB A R Co hK
      | false => exact exCode_ok hrf hC hF hod y hg.cright σ e σ' a w μ S Q h hB A R Co hK
    · simp at h
  | .block id x, hg, σ, e, σ', a, w, μ, S, Q, h, hB, A, R, Co, hK => by
    simp only [exCode] at h
    refine wpIn_block ?_
    split at h
    · rename_i i σ1 h1
      refine exCode_ok hrf hC hF hod x hg.block σ (.exit i) σ1 a w μ S _ h1 hB A R Co fun a1 w1 μ1 S1 A1 R1 C1 => ?_
      simp only [Ex.to, Exit.inBlock]
      cases hb : Nat.beq i id with
      | true =>
        rw [hb] at h; simp only [cond_true, Option.some.injEq, Prod.mk.injEq] at h
        obtain ⟨rfl, rfl⟩ := h
        rw [if_pos (Nat.eq_of_beq_eq_true hb)]
        exact hK a1 w1 μ1 S1 A1 R1 C1
      | false =>
        rw [hb] at h; simp only [cond_false, Option.some.injEq, Prod.mk.injEq] at h
        obtain ⟨rfl, rfl⟩ := h
        rw [if_neg (fun e => by subst e; simp at hb)]
        exact hK a1 w1 μ1 S1 A1 R1 C1
    · rename_i r hne
      refine exCode_ok hrf hC hF hod x hg.block σ e σ' a w μ S _ h hB A R Co fun a1 w1 μ1 S1 A1 R1 C1 => ?_
      have := hK a1 w1 μ1 S1 A1 R1 C1
      cases e with
      | exit i => exact absurd h (hne i σ')
      | _ => exact this
  | .loop x, hg, σ, e, σ', a, w, μ, S, Q, h, hB, A, R, Co, hK => by
    simp only [exCode] at h
    have main : ∀ (σ2 : St), exLoop lf (exRound od (hintOf Hn base x) (exCode P C Hn F lf base od rf false x)) σ = some (e, σ2) →
        (∀ a' w' μ' S', AR So μ' S' σ2 a' → Rel μ' S' σ2.heap B w0 w' → Carry B μo So Ho μ' S' σ2.heap → Q e.to a' w') → (Code.loop x).wpIn (WF rd) 0 P Q a w := by
      intro σ2 h hK
      refine wpIn_loop_rounds lf (exLoop_ok (μo := μo) (So := So) (Ho := Ho) (fun σ e σ' h hB => ?_) (fun σ e σ' a w μ S Q h hB A R Co hK => ?_) lf σ e σ2 a w μ S Q h hB A R Co hK)
      · unfold exRound at h
        split at h
        · exact exCode_bd hF false x σ e σ' h hB
        · split at h
          · rename_i σ1 h1; exact exCode_bd hF false x σ1 e σ' h (head_bd h1)
          · simp at h
      · unfold exRound at h
        split at h
        · exact exCode_ok hrf hC hF hod x hg.loop σ e σ' a w μ S Q h hB A R Co hK
        · split at h
          · rename_i σ1 h1
            obtain ⟨μ1, A1, R1, C1, B1⟩ := head_ok h1 A R hod Co
            exact exCode_ok hrf hC hF hod x hg.loop σ1 e σ' a w μ1 S Q h B1 A1 R1 C1 hK
          · simp at h
    rcases exOut_cases h with h | ⟨σ2, h', h, hh⟩
    · exact main σ' h hK
    · refine main σ2 h fun a' w' μ' S' A' R' C' => ?_
      obtain ⟨μ1, A1, R1, C1, B1⟩ := head_ok hh A' R' hod C'
      exact hK a' w' μ1 S' A1 R1 C1
  | .exit id, hg, σ, e, σ', a, w, μ, S, Q, h, hB, A, R, Co, hK => by
    simp only [exCode] at h; cases h; exact wpIn_exit (hK a w μ S A R Co)
  | .label l, hg, σ, e, σ', a, w, μ, S, Q, h, hB, A, R, Co, hK => by
    simp only [exCode] at h; cases h; exact wpIn_label (hK a w μ S A R Co)
  | .ret, hg, σ, e, σ', a, w, μ, S, Q, h, hB, A, R, Co, hK => by
    simp only [exCode] at h; cases h; exact wpIn_ret (hK a w μ S A R Co)
  | .rangeFunc g ps asn body, hg, σ, e, σ', a, w, μ, S, Q, h, hB, A, R, Co, hK => by
    simp only [exCode] at h
    exact exRange_ok hrf hC hF hg h hB A R Co.sub fun a' w' μ' S' A' R' C' => hK a' w' μ' S' A' R' (Co.trans C')
  | .scope x, hg, σ, e, σ', a, w, μ, S, Q, h, hB, A, R, Co, hK => by
    simp only [exCode] at h
    cases hs : spineOK x with
    | false => rw [hs] at h; simp at h
    | true =>
    rw [hs] at h
    simp only [cond_true] at h
    unfold noGoto at h
    split at h
    · simp at h
    · rename_i hne
      have := exSpine_ok hrf hC hF hod x hg.scope σ e σ' a w μ S Q h (fun l he => by subst he; exact hne _ _ h) hB A R Co hK
      unfold spineJ at this
      split at this
      · rename_i l r hl
        exact wpIn_scope_rounds lf (fun _ => spine_find hs hl) this
      · exact wpIn_scope_rounds (l := 0) (r := .skip) 0 (fun h => absurd h (by omega)) this
  | .goto l, hg, σ, e, σ', a, w, μ, S, Q, h, hB, A, R, Co, hK => by
    simp only [exCode] at h; cases h; exact wpIn_goto (hK a w μ S A R Co)
  | .refuse _, hg, σ, e, σ', a, w, μ, S, Q, h, hB, A, R, Co, hK => by simp [exCode] at h
theorem exSpine_ok {Hn : Hints} {od : List Nat} {rf : Option Nat} (hrf : rf ≠ none → rd = none) (hC : TabsOK P C) (hF : InlOK P F) (hod : ∀ i, μo i ≠ none → i ∈ od) :
    ∀ (c : Code), RngOK P rf c → ∀ (σ : St) (e : Ex) (σ' : St) (a : Act) (w : World) (μ : Mu) (S : Stable) (Q : Exit → Act → World → Prop),
    exCode P C Hn F lf base od rf true c σ = some (e, σ') → (∀ l, e ≠ .goto l) → Bd σ → AR So μ S σ a → Rel μ S σ.heap B w0 w → Carry B μo So Ho μ S σ.heap →
    (∀ a' w' μ' S', AR So μ' S' σ' a' → Rel μ' S' σ'.heap B w0 w' → Carry B μo So Ho μ' S' σ'.heap → Q e.to a' w') → c.wpIn (WF rd) 0 P (spineJ (WF rd) P lf c Q) a w
  | .seq x y, hg, σ, e, σ', a, w, μ, S, Q, h, hne, hB, A, R, Co, hK => by
    simp only [exCode] at h
    cases hl : labOf x with
    | some l =>
      rw [hl] at h
      have hx := labOf_eq hl
      subst hx
      have hJ : spineJ (WF rd) P lf (.seq (.label l) y) Q = jumpQ l (scopeR (WF rd) 0 P l (.seq .skip y) Q lf) Q := rfl
      rw [hJ]
      refine wpIn_seq (wpIn_label ?_)
      simp only at h
      show y.wpIn (WF rd) 0 P _ a w
      have main : ∀ (σ2 : St) (e2 : Ex), exLoop lf (exRound od (hintOf Hn base y) fun σ => flipE l (exCode P C Hn F lf base od rf false y σ)) σ = some (e2, σ2) →
          (∀ e3, unX e2 = some e3 → ∀ a' w' μ' S', AR So μ' S' σ2 a' → Rel μ' S' σ2.heap B w0 w' → Carry B μo So Ho μ' S' σ2.heap → Q e3.to a' w') → y.wpIn (WF rd) 0 P (jumpQ l (scopeR (WF rd) 0 P l (.seq .skip y) Q lf) Q) a w := by
        intro σ2 e2 h hK
        refine labLoop_ok (μo := μo) (So := So) (Ho := Ho) (f := exRound od (hintOf Hn base y) fun σ => flipE l (exCode P C Hn F lf base od rf false y σ)) (fun σ e σ' h hB => ?_) (fun σ e σ' a w μ S Q h hB A R Co hK => ?_) lf σ e2 σ2 a w μ S h hB A R Co hK
        · unfold exRound at h
          split at h
          · exact flip_bd (fun σ e σ' => exCode_bd hF false y σ e σ') h hB
          · split at h
            · rename_i σ1 h1; exact flip_bd (fun σ e σ' => exCode_bd hF false y σ e σ') h (head_bd h1)
            · simp at h
        · have go : ∀ (σ : St) (μ : Mu), flipE l (exCode P C Hn F lf base od rf false y σ) = some (e, σ') → Bd σ → AR So μ S σ a → Rel μ S σ.heap B w0 w → Carry B μo So Ho μ S σ.heap → y.wpIn (WF rd) 0 P Q a w := by
            intro σ μ h hB A R Co
            unfold flipE at h
            split at h
            · rename_i e1 σ1 h1
              split at h
              · rename_i e4 h4
                cases h
                exact exCode_ok hrf hC hF hod y hg.right σ e1 _ a w μ S Q h1 hB A R Co fun a' w' μ' S' A' R' C' => hK e1 h4 a' w' μ' S' A' R' C'
              · simp at h
            · simp at h
          unfold exRound at h
          split at h
          · exact go σ μ h hB A R Co
          · split at h
            · rename_i σ1 h1
              obtain ⟨μ1, A1, R1, C1, B1⟩ := head_ok h1 A R hod Co
              exact go σ1 μ1 h B1 A1 R1 C1
            · simp at h
      unfold unflip at h
      split at h
      · rename_i e1 σ1 h1
        split at h
        · rename_i e2 h2
          cases h
          rcases exOut_cases h1 with h | ⟨σ2, h', h, hh⟩
          · exact main _ _ h fun e3 h3 => by rw [h2] at h3; cases h3; exact hK
          · refine main σ2 _ h fun e3 h3 a' w' μ' S' A' R' C' => ?_
            rw [h2] at h3; cases h3
            obtain ⟨μ1, A1, R1, C1, B1⟩ := head_ok hh A' R' hod C'
            exact hK a' w' μ1 S' A1 R1 C1
        · simp at h
      · simp at h
    | none =>
      rw [hl] at h
      simp only at h
      have hJ : spineJ (WF rd) P lf (.seq x y) Q = spineJ (WF rd) P lf y Q := by unfold spineJ; simp only [spineLab, hl]
      rw [hJ]
      have hQ : ∀ e : Ex, (∀ l, e ≠ .goto l) → ∀ a w, Q e.to a w → spineJ (WF rd) P lf y Q e.to a w := spineJ_of
      refine wpIn_seq ?_
      split at h
      · rename_i σ1 h1
        refine exCode_ok hrf hC hF hod x hg.left σ .nrm σ1 a w μ S _ h1 hB A R Co fun a1 w1 μ1 S1 A1 R1 C1 => ?_
        exact exSpine_ok hrf hC hF hod y hg.right σ1 e σ' a1 w1 μ1 S1 Q h hne (exCode_bd hF false x σ _ σ1 h1 hB) A1 R1 C1 hK
      · rename_i i σ1 h1; cases h; exact exCode_ok hrf hC hF hod x hg.left σ (.exit i) _ a w μ S _ h1 hB A R Co fun a' w' μ' S' A' R' C' => hQ (.exit i) hne _ _ (hK a' w' μ' S' A' R' C')
      · rename_i σ1 h1; cases h; exact exCode_ok hrf hC hF hod x hg.left σ .ret _ a w μ S _ h1 hB A R Co fun a' w' μ' S' A' R' C' => hQ .ret hne _ _ (hK a' w' μ' S' A' R' C')
      · simp at h
  | .skip, hg, σ, e, σ', a, w, μ, S, Q, h, hne, hB, A, R, Co, hK => exCode_ok hrf hC hF hod (.skip) hg σ e σ' a w μ S _ (by rw [← sc_same (by rfl)]; exact h) hB A R Co fun a' w' μ' S' A' R' C' => spineJ_of e hne _ _ (hK a' w' μ' S' A' R' C')
  | .region i o d, hg, σ, e, σ', a, w, μ, S, Q, h, hne, hB, A, R, Co, hK => exCode_ok hrf hC hF hod (.region i o d) hg σ e σ' a w μ S _ (by rw [← sc_same (by rfl)]; exact h) hB A R Co fun a' w' μ' S' A' R' C' => spineJ_of e hne _ _ (hK a' w' μ' S' A' R' C')
  | .cond i x y, hg, σ, e, σ', a, w, μ, S, Q, h, hne, hB, A, R, Co, hK => exCode_ok hrf hC hF hod (.cond i x y) hg σ e σ' a w μ S _ (by rw [← sc_same (by rfl)]; exact h) hB A R Co fun a' w' μ' S' A' R' C' => spineJ_of e hne _ _ (hK a' w' μ' S' A' R' C')
  | .block i x, hg, σ, e, σ', a, w, μ, S, Q, h, hne, hB, A, R, Co, hK => exCode_ok hrf hC hF hod (.block i x) hg σ e σ' a w μ S _ (by rw [← sc_same (by rfl)]; exact h) hB A R Co fun a' w' μ' S' A' R' C' => spineJ_of e hne _ _ (hK a' w' μ' S' A' R' C')
  | .loop x, hg, σ, e, σ', a, w, μ, S, Q, h, hne, hB, A, R, Co, hK => exCode_ok hrf hC hF hod (.loop x) hg σ e σ' a w μ S _ (by rw [← sc_same (by rfl)]; exact h) hB A R Co fun a' w' μ' S' A' R' C' => spineJ_of e hne _ _ (hK a' w' μ' S' A' R' C')
  | .exit i, hg, σ, e, σ', a, w, μ, S, Q, h, hne, hB, A, R, Co, hK => exCode_ok hrf hC hF hod (.exit i) hg σ e σ' a w μ S _ (by rw [← sc_same (by rfl)]; exact h) hB A R Co fun a' w' μ' S' A' R' C' => spineJ_of e hne _ _ (hK a' w' μ' S' A' R' C')
  | .label i, hg, σ, e, σ', a, w, μ, S, Q, h, hne, hB, A, R, Co, hK => exCode_ok hrf hC hF hod (.label i) hg σ e σ' a w μ S _ (by rw [← sc_same (by rfl)]; exact h) hB A R Co fun a' w' μ' S' A' R' C' => spineJ_of e hne _ _ (hK a' w' μ' S' A' R' C')
  | .ret, hg, σ, e, σ', a, w, μ, S, Q, h, hne, hB, A, R, Co, hK => exCode_ok hrf hC hF hod (.ret) hg σ e σ' a w μ S _ (by rw [← sc_same (by rfl)]; exact h) hB A R Co fun a' w' μ' S' A' R' C' => spineJ_of e hne _ _ (hK a' w' μ' S' A' R' C')
  | .rangeFunc g p x y, hg, σ, e, σ', a, w, μ, S, Q, h, hne, hB, A, R, Co, hK => exCode_ok hrf hC hF hod (.rangeFunc g p x y) hg σ e σ' a w μ S _ (by rw [← sc_same (by rfl)]; exact h) hB A R Co fun a' w' μ' S' A' R' C' => spineJ_of e hne _ _ (hK a' w' μ' S' A' R' C')
  | .scope x, hg, σ, e, σ', a, w, μ, S, Q, h, hne, hB, A, R, Co, hK => exCode_ok hrf hC hF hod (.scope x) hg σ e σ' a w μ S _ (by rw [← sc_same (by rfl)]; exact h) hB A R Co fun a' w' μ' S' A' R' C' => spineJ_of e hne _ _ (hK a' w' μ' S' A' R' C')
  | .goto i, hg, σ, e, σ', a, w, μ, S, Q, h, hne, hB, A, R, Co, hK => exCode_ok hrf hC hF hod (.goto i) hg σ e σ' a w μ S _ (by rw [← sc_same (by rfl)]; exact h) hB A R Co fun a' w' μ' S' A' R' C' => spineJ_of e hne _ _ (hK a' w' μ' S' A' R' C')
  | .refuse i, hg, σ, e, σ', a, w, μ, S, Q, h, hne, hB, A, R, Co, hK => exCode_ok hrf hC hF hod (.refuse i) hg σ e σ' a w μ S _ (by rw [← sc_same (by rfl)]; exact h) hB A R Co fun a' w' μ' S' A' R' C' => spineJ_of e hne _ _ (hK a' w' μ' S' A' R' C')
end
end

def resSem (tmps : Array Value) : ResultVar → Sem Value
  | .tmp t => pure (tmps.getD t undef)
  | .cell x t => do loadVar t (← asAddr (tmps.getD x undef))

theorem resOf_ok {σ : St} {a : Act} {w : World} {μ : Mu} {S : Stable} (A : AR N μ S σ a) (R : Rel μ S σ.heap B w0 w) {r : ResultVar} {v : AV} (h : resOf P σ r = some v) :
    ∃ u, (resSem a.tmps r).run P w = .ok u w ∧ VR μ S σ.heap v u := by
  cases r with
  | tmp t =>
    obtain ⟨h1, rfl⟩ := cond_some h
    exact ⟨_, rfl, A.tmp t (of_ltN h1)⟩
  | cell x t =>
    simp only [resOf] at h
    split at h
    · rename_i i off hx
      split at h
      · rename_i t' cs hH
        have hv := A.val (.tmp x)
        rw [hx] at hv
        simp only [VR] at hv
        obtain ⟨b, c, hm, _, e⟩ := hv
        obtain ⟨vs, hb, hvs⟩ := box_cells R hH hm
        obtain ⟨u, hu, hv⟩ := cut_loadVar (P := P) (w := w) (ad := ⟨b, 0, none⟩) hvs (fun j u hj => by rw [plain_add, Nat.zero_add, cell_of hb]; simpa using hj) h
        rw [plain_add, Nat.zero_add] at hu
        have e' : a.tmps.getD x undef = .pointer (some ⟨b, off, none⟩) := e
        refine ⟨u, ?_, hv⟩
        simp only [resSem, e', asAddr, Sem.run_bind, Sem.run_pure, Result.andThen_ok, hu]
      · simp at h
    · simp at h

theorem resAll_ok {σ : St} {a : Act} {w : World} {μ : Mu} {S : Stable} (A : AR N μ S σ a) (R : Rel μ S σ.heap B w0 w) : ∀ {rs : List ResultVar} {vs : List AV}, resAll P σ rs = some vs →
    ∃ us, (rs.mapM (resSem a.tmps)).run P w = .ok us w ∧ VRs μ S σ.heap vs us
  | [], vs, h => by
    simp only [resAll, Option.some.injEq] at h; subst h
    exact ⟨[], by simp, by simp [VRs]⟩
  | r :: rs, vs, h => by
    simp only [resAll] at h
    split at h
    · rename_i v vs' h1 h2
      cases h
      obtain ⟨u, k1, k2⟩ := resOf_ok A R h1
      obtain ⟨us, q1, q2⟩ := resAll_ok A R h2
      refine ⟨u :: us, ?_, by simp only [VRs]; exact ⟨u, us, rfl, k2, q2⟩⟩
      rw [List.mapM_cons]
      simp only [Sem.run_bind, k1, q1, Result.andThen_ok, Sem.run_pure]
    · simp at h

theorem results_ok {fn : Func} {σ : St} {a : Act} {w : World} {μ : Mu} {S : Stable} (A : AR N μ S σ a) (R : Rel μ S σ.heap B w0 w) {vs : List AV} (h : resAll P σ fn.results.toList = some vs) :
    ∃ u, (results fn a.tmps).run P w = .ok u w ∧ VR μ S σ.heap (resAV vs) u := by
  obtain ⟨us, h1, h2⟩ := resAll_ok A R h
  refine ⟨resVal us, ?_, resAV_VR h2⟩
  have e : results fn a.tmps = (do
      let vs ← fn.results.mapM (resSem a.tmps)
      pure (if h : vs.size = 1 then vs[0] else .tuple vs)) := by
    unfold results
    congr 1
    all_goals (congr 1; try (funext r; cases r <;> rfl))
  rw [e, Array.mapM_eq_mapM_toList]
  simp only [Sem.run_bind, Sem.run_map, Result.andThen_ok, h1, Sem.run_pure]
  match us with
  | [] => rfl
  | [u] => rfl
  | u :: v :: us => simp [resVal]

omit [Glob] in
theorem nthAV_VR {μ : Mu} {S : Stable} {H : Heap} : ∀ {as : List AV} {vs : List Value}, VRs μ S H as vs → ∀ t, VR μ S H (nthAV as t) (vs.getD t undef)
  | [], vs, h, t => by simp only [VRs] at h; subst h; simp [nthAV, VR]
  | a :: as, vs, h, t => by
    simp only [VRs] at h
    obtain ⟨v, r, rfl, h1, h2⟩ := h
    cases t with
    | zero => simpa [nthAV] using h1
    | succ t => simpa [nthAV] using nthAV_VR h2 t

omit [Glob] in
theorem exRnd_bd {i k r : Nat} {f g : St → Option (Ex × St)} {σ : St} {v : AV} {H' : Heap} {L' : List Nat} (hf : ∀ σ e σ', f σ = some (e, σ') → Bd σ → Bd σ') (hg : ∀ σ e σ', g σ = some (e, σ') → Bd σ → Bd σ')
    (h : exRnd i k r f g σ = some (v, H', L')) (hB : Bd σ) : ∀ q, H' q ≠ none → q ∈ L' := by
  unfold exRnd at h
  split at h
  · rename_i σ1 h1
    split at h
    · rename_i σ2 h2
      split at h
      · rename_i e σ3 h3
        have B1 := hf _ _ _ h1 hB
        have B2 : Bd σ2 := by
          unfold rndBusy at h2
          split at h2
          · rename_i hH
            obtain ⟨_, e2⟩ := cond_some h2
            cases e2
            intro q hq
            by_cases eq : q = i
            · subst eq; exact B1 q (by rw [hH]; simp)
            · simp only at hq; rw [upd_ne _ _ eq] at hq; exact B1 q hq
          · simp at h2
        have B3 := hg _ _ _ h3 B2
        unfold rndOut at h
        split at h
        · rename_i hH
          obtain ⟨_, e2⟩ := cond_some h
          cases e2
          intro q hq
          by_cases eq : q = i
          · subst eq; exact B3 q (by rw [hH]; simp)
          · rw [upd_ne _ _ eq] at hq; exact B3 q hq
        · simp at h
      · simp at h
    · simp at h
  · simp at h

theorem exFun_bd {Hn : Hints} : ∀ n id k as H L v H' L', InlOK P (exFun P C Hn lf n) → exFun P C Hn lf (n + 1) id k as H L = some (v, H', L') → (∀ q, H q ≠ none → q ∈ L) → ∀ q, H' q ≠ none → q ∈ L' := by
  intro n id k as H L v H' L' hF h hB
  cases k with
  | fn k =>
    simp only [exFun] at h
    split at h
    · rename_i fn hfn
      split at h
      · rename_i c hc
        cases hle : Nat.ble as.length fn.ntmps with
        | false => rw [hle] at h; simp at h
        | true =>
          rw [hle] at h
          simp only [cond_true] at h
          unfold exEnd at h
          split at h
          · rename_i σ he
            split at h
            · cases h; exact exCode_bd hF false c _ _ σ he hB
            · simp at h
          · rename_i σ he
            split at h
            · cases h; exact exCode_bd hF false c _ _ σ he hB
            · simp at h
          · simp at h
      · simp at h
    · simp at h
  | yld i =>
    simp only [exFun] at h
    split at h
    · rename_i k r x σ hin
      have hB0 : Bd σ := by
        unfold rndIn at hin
        split at hin
        · split at hin
          · obtain ⟨_, e1⟩ := cond_some hin
            cases e1
            exact hB
          · simp at hin
        · simp at hin
      exact exRnd_bd (fun σ e σ' h hB => exCode_bd hF false _ σ e σ' h hB) (fun σ e σ' h hB => exCode_bd hF false _ σ e σ' h hB) h hB0
    · simp at h

theorem Rel.ids {μ : Mu} {S : Stable} {H : Heap} {w : World} {L : List Nat} (R : Rel μ S H B w0 w) (hBd : ∀ q, H q ≠ none → q ∈ L) : ∀ i, μ i ≠ none → i ∈ L := fun i hi => hBd i (fun h => by
  have := R.dom i
  rw [h] at this
  cases hm : μ i with
  | none => exact hi hm
  | some l => rw [hm] at this; simp at this)

theorem exFun_fn {Hn : Hints} (hC : TabsOK P C) {n : Nat} (ih : InlOK P (exFun P C Hn lf n)) {id k : Nat} {as : List AV} {H H' : Heap} {L L' : List Nat} {v : AV} (h : exFun P C Hn lf (n + 1) id (.fn k) as H L = some (v, H', L')) (hBd : ∀ q, H q ≠ none → q ∈ L)
    {μ : Mu} {S : Stable} {B : Nat} {w0 w : World} {us : Array Value} (R : Rel μ S H B w0 w) (hv : VRs μ S H as us.toList) :
    Calls P k us w fun e w' => ∃ u μ' S', e = .returned u ∧ VR μ' S' H' v u ∧ Rel μ' S' H' B w0 w' ∧ Carry B μ S H μ' S' H' := by
  simp only [exFun] at h
  split at h
  case h_2 => simp at h
  rename_i fn hfn
  split at h
  case h_2 => simp at h
  rename_i c hc
  cases hle : Nat.ble as.length fn.ntmps with
  | false => rw [hle] at h; simp at h
  | true =>
    rw [hle] at h
    simp only [cond_true] at h
    have hle := Nat.le_of_ble_eq_true hle
    have hlen := VRs_length hv
    simp only [Array.length_toList] at hlen
    refine (callsIn_WF (r := none) (n := 0)).1 (callsIn_of_wp_marks hfn hc trivial ?_ rfl)
    have A0 : AR S μ S ⟨fn.ntmps, nthAV as, H, L⟩ { tmps := us ++ Array.replicate (fn.ntmps - us.size) undef, defers := [] } := by
      refine ⟨⟨[], rfl, List.nodup_nil, by simp⟩, by simp; omega, fun t ht => ?_⟩
      have := nthAV_VR hv t
      rw [List.getD_eq_getElem?_getD] at this
      rw [Array.getD_eq_getD_getElem?]
      by_cases hlt : t < us.size
      · rw [Array.getElem?_append_left hlt]; simpa using this
      · rw [Array.getElem?_append_right (by omega), Array.getElem?_replicate]
        have e1 : us.toList[t]? = none := by rw [List.getElem?_eq_none]; simp; omega
        rw [e1] at this
        have : t - us.size < fn.ntmps - us.size := by simp only at ht; omega
        rw [if_pos this]; assumption
    have hod := R.ids hBd
    have fin : ∀ (e : Ex) (σ : St), exCode P C Hn (exFun P C Hn lf n) lf (Nat.succ id * 4294967296) L (some k) false c ⟨fn.ntmps, nthAV as, H, L⟩ = some (e, σ) → e.to = .normal ∨ e.to = .ret →
        (∃ vs, resAll P σ fn.results.toList = some vs ∧ v = resAV vs ∧ H' = σ.heap) →
        c.wpIn (WF none) 0 P (bodyPostM (WF none) 0 P fn fun e w' => ∃ u μ' S', e = .returned u ∧ VR μ' S' H' v u ∧ Rel μ' S' H' B w0 w' ∧ Carry B μ S H μ' S' H') { tmps := us ++ Array.replicate (fn.ntmps - us.size) undef, defers := [] } w := by
      rintro e σ he hex ⟨vs, hvs, rfl, rfl⟩
      refine exCode_ok (μo := μ) (So := S) (Ho := H) (fun _ => rfl) hC ih hod c (.top hfn hc) _ e σ _ w μ S _ he hBd A0 R Carry.refl fun a' w' μ' S' A' R' C' => ?_
      have main : LeavesInM (WF none) 0 P fn a'.tmps (fun e w' => ∃ u μ' S', e = .returned u ∧ VR μ' S' σ.heap (resAV vs) u ∧ Rel μ' S' σ.heap B w0 w' ∧ Carry B μ S H μ' S' σ.heap) a'.defers .returning w' := by
        obtain ⟨ms, hms, hmk⟩ := A'.defers
        rw [hms]
        refine leaves_marks R.pre ms S' w' R' hmk C'.sub (fun D hD => ?_) fun S2 w2 R2 hc2 hs2 hn2 => ?_
        · rcases C'.st D (by rw [(hmk.2 D hD).2]; simp) with h | h
          · exact absurd (hmk.2 D hD).1 h
          · exact h
        · have A2 : AR S μ' S2 σ { tmps := a'.tmps, defers := [] } := ⟨⟨[], rfl, List.nodup_nil, by simp⟩, A'.size, fun t ht => VR_cells hc2 _ _ (A'.tmp t ht)⟩
          obtain ⟨u, k1, k2⟩ := results_ok A2 R2 hvs
          exact ⟨u, k1, u, μ', S2, rfl, k2, R2, fun a v h => VR_cells hc2 _ _ (C'.vr a v h), fun b hb => C'.st b (hn2 b hb), hs2⟩
      rcases hex with hex | hex <;> rw [hex] <;> exact main
    unfold exEnd at h
    split at h
    · rename_i σ he
      split at h
      · rename_i vs hvs; cases h; exact fin .nrm σ he (.inl rfl) ⟨vs, hvs, rfl, rfl⟩
      · simp at h
    · rename_i σ he
      split at h
      · rename_i vs hvs; cases h; exact fin .ret σ he (.inr rfl) ⟨vs, hvs, rfl, rfl⟩
      · simp at h
    · simp at h

theorem exFun_yld {Hn : Hints} (hC : TabsOK P C) {n : Nat} (ih : InlOK P (exFun P C Hn lf n)) {id i : Nat} {as : List AV} {H H' : Heap} {L L' : List Nat} {v : AV} (h : exFun P C Hn lf (n + 1) id (.yld i) as H L = some (v, H', L')) (hBd : ∀ q, H q ≠ none → q ∈ L)
    {μ : Mu} {S : Stable} {B : Nat} {w0 w : World} {us : Array Value} (R : Rel μ S H B w0 w) (hv : VRs μ S H as us.toList) :
    RunC P μ (.yld i) us w fun e w' => ∃ u μ' S', e = .returned u ∧ VR μ' S' H' v u ∧ Rel μ' S' H' B w0 w' ∧ Carry B μ S H μ' S' H' := by
  simp only [exFun] at h
  split at h
  case h_2 => simp at h
  rename_i k r x σ hin
  intro b cp hm
  unfold rndIn at hin
  split at hin
  case h_2 => simp at hin
  rename_i k r ts hH
  split at hin
  case h_2 => simp at hin
  rename_i x hx
  obtain ⟨hps, e1⟩ := cond_some hin
  cases e1
  obtain ⟨Lp, hL, hrng, hst, hvs⟩ := R.loop hH hm
  rw [hC.2.2, hx, Option.some.injEq] at hrng
  have hlen := VRs_length hv
  simp only [Array.length_toList] at hlen
  have hps := Nat.eq_of_beq_eq_true hps
  have hsz : us.size = Lp.params.size := by rw [← hlen, ← hps, hrng]
  have hyv : VR μ S H (.yld i) (.func (.yield b) #[] #[]) := by
    simp only [VR]
    exact ⟨b, cp, hm, fun t e g xs h => by rw [hH] at h; simp at h, rfl⟩
  have getμ : ∀ {μ' : Mu} {S' : Stable} {H' : Heap}, Carry B μ S H μ' S' H' → ∃ c, μ' i = some ⟨some b, c⟩ := by
    intro μ' S' H' hc
    have := hc.vr _ _ hyv
    simp only [VR] at this
    obtain ⟨b', c', h1, _, h2⟩ := this
    injection h2 with h2; injection h2 with h2
    subst h2
    exact ⟨c', h1⟩
  refine ⟨Lp.fn, _, Lp.assign, Lp.body, run_yield hL hsz, roundIn_of_wpIn trivial ?_⟩
  have hT : VRs μ S H (setPs ts x.1.toList as) ((Lp.params.zip us).foldl (fun tmps (t, a) => tmps.setIfInBounds t a) Lp.tmps).toList := by
    have := setPs_VRs (ps := x.1.toList) hvs hv
    rw [← Array.foldl_toList, Array.toList_zip, ← show x.1 = Lp.params by rw [hrng]]
    exact this
  have hsl : ∀ (ts : List AV) (ps : List Tmp) (as : List AV), (setPs ts ps as).length = ts.length := by
    intro ts ps
    induction ps generalizing ts with
    | nil => intro as; cases as <;> rfl
    | cons p ps ihp =>
      intro as
      cases as with
      | nil => rfl
      | cons a as => simp only [setPs]; rw [ihp]; simp
  have A0 : AR S μ S ⟨ts.length, nthAV (setPs ts x.1.toList as), H, L⟩ { tmps := (Lp.params.zip us).foldl (fun tmps (t, a) => tmps.setIfInBounds t a) Lp.tmps, defers := [] } := by
    refine ⟨⟨[], rfl, List.nodup_nil, by simp⟩, ?_, fun t ht => ?_⟩
    · have := VRs_length hT
      rw [hsl] at this
      simpa using this.symm
    · have := nthAV_VR hT t
      rw [List.getD_eq_getElem?_getD, Array.getElem?_toList] at this
      rw [Array.getD_eq_getD_getElem?]
      exact this
  have hod := R.ids hBd
  unfold exRnd at h
  split at h
  case h_2 => simp at h
  rename_i σ1 h1
  split at h
  case h_2 => simp at h
  rename_i σ2 h2
  split at h
  case h_2 => simp at h
  rename_i e σ3 h3
  have ea : x.2.1 = Lp.assign := by rw [hrng]
  have eb : x.2.2 = Lp.body := by rw [hrng]
  rw [← ea, ← eb]
  have hB0 : Bd ⟨ts.length, nthAV (setPs ts x.1.toList as), H, L⟩ := hBd
  have hB1 := exCode_bd ih false _ _ _ _ h1 hB0
  refine exCode_ok (rd := some b) (μo := μ) (So := S) (Ho := H) (fun h => absurd rfl h) hC ih hod x.2.1 .none _ .nrm σ1 _ w μ S _ h1 hBd A0 R Carry.refl fun a1 w1 μ1 S1 A1 R1 C1 => ?_
  unfold rndBusy at h2
  split at h2
  case h_2 => simp at h2
  rename_i k' r' ts1 hH1
  obtain ⟨hkr, e2⟩ := cond_some h2
  cases e2
  simp only [Bool.and_eq_true] at hkr
  have ek := Nat.eq_of_beq_eq_true hkr.1
  have er := Nat.eq_of_beq_eq_true hkr.2
  subst ek er
  obtain ⟨c1, hm1⟩ := getμ C1
  obtain ⟨L1, hL1, hr1, hst1, hv1⟩ := R1.loop hH1 hm1
  obtain ⟨R2, E2⟩ := R1.setLoop (st' := .busy) (L' := { L1 with state := .busy }) hH1 hm1 hL1 ⟨rfl, rfl, rfl, rfl⟩ rfl
  refine ⟨_, run_beginRound hL1 hst1.1, ?_⟩
  have hB2 : Bd ⟨σ1.nt, σ1.tmps, upd σ1.heap i (some (.loop k' r' .busy ts1)), σ1.ids⟩ := by
    intro q hq
    by_cases eq : q = i
    · subst eq; exact hB1 q (by rw [hH1]; simp)
    · simp only at hq; rw [upd_ne _ _ eq] at hq; exact hB1 q hq
  refine exCode_ok (rd := some b) (μo := μ) (So := S) (Ho := H) (fun h => absurd rfl h) hC ih hod x.2.2 .none _ e σ3 a1 _ μ1 S1 _ h3 hB2 ⟨A1.defers, A1.size, fun t ht => VR_mono E2 _ _ (A1.tmp t ht)⟩ R2 (C1.trans (Carry.of E2)) fun a3 w3 μ3 S3 A3 R3 C3 => ?_
  unfold rndOut at h
  split at h
  case h_2 => simp at h
  rename_i k2 r2 ts3 hH3
  obtain ⟨hkr, e3⟩ := cond_some h
  cases e3
  obtain ⟨c3, hm3⟩ := getμ C3
  simp only [Bool.and_eq_true] at hkr
  have ek := Nat.eq_of_beq_eq_true hkr.1
  have er := Nat.eq_of_beq_eq_true hkr.2
  subst ek er
  obtain ⟨L3, hL3, hr3, hst3, hv3⟩ := R3.loop hH3 hm3
  have fin : ∀ (j : Option Code) (st : LSt) (c : Bool), j.isNone = c → st.Is (if j.isNone then .ready else .done) j → st = e.st → c = e.on → ∃ v' w', (Instr.endRound b j).run P w3 = .ok v' w' ∧
      ∃ u μ' S', Ending.returned v' = .returned u ∧ VR μ' S' (upd σ3.heap i (some (.loop k2 r2 e.st ts3))) (.lit (.bool e.on)) u ∧ Rel μ' S' (upd σ3.heap i (some (.loop k2 r2 e.st ts3))) B w0 w' ∧ Carry B μ S H μ' S' (upd σ3.heap i (some (.loop k2 r2 e.st ts3))) := by
    intro j st c hj his he hc
    subst he
    subst hc
    obtain ⟨R4, E4⟩ := R3.setLoop (st' := e.st) (L' := { L3 with state := if j.isNone then .ready else .done, pending := j }) hH3 hm3 hL3 ⟨rfl, rfl, rfl, rfl⟩ his
    refine ⟨_, _, run_endRound j hL3, .bool e.on, μ3, S3, ?_, ?_, R4, C3.trans (Carry.of E4)⟩
    · rw [hj]
    · simp only [VR]
  cases e with
  | nrm => exact fin none .ready true rfl ⟨rfl, rfl⟩ rfl rfl
  | ret => exact fin (some .ret) (.done .ret) false rfl ⟨rfl, rfl⟩ rfl rfl
  | exit q => exact fin (some (.exit q)) (.done (.exit q)) false rfl ⟨rfl, rfl⟩ rfl rfl
  | goto q => exact fin (some (.goto q)) (.done (.goto q)) false rfl ⟨rfl, rfl⟩ rfl rfl

theorem exFun_ok {Hn : Hints} (hC : TabsOK P C) : ∀ n, InlOK P (exFun P C Hn lf n)
  | 0 => fun id k as H L v H' L' h => by simp [exFun] at h
  | n + 1 => by
    intro id k as H L v H' L' h hBd
    refine ⟨exFun_bd n id k as H L v H' L' (exFun_ok hC n) h hBd, ?_⟩
    intro μ S B w0 w us R hv
    cases k with
    | fn k => exact exFun_fn hC (exFun_ok hC n) h hBd R hv
    | yld i => exact exFun_yld hC (exFun_ok hC n) h hBd R hv
end
end Go.Sy
