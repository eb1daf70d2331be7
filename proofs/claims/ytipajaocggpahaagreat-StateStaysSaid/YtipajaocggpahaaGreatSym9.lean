/- Operations with guards, and several in order. -/
import Derived.Test.YtipajaocggpahaaGreatSym8b
import Derived.OrdersIn
import Derived.LoopNIn
import Derived.RangeFuncIn
namespace Go.Sy
open Go Go.RowKit
set_option linter.unusedSimpArgs false
set_option linter.unusedVariables false

def St.put (σ : St) (dst : Option Tmp) (v : AV) : Option St :=
  match dst with
  | none => some σ
  | some d => cond (ltN d σ.nt) (some ⟨σ.nt, upd σ.tmps d v, σ.heap, σ.ids⟩) none

def St.with (σ : St) (H : Heap) : St := ⟨σ.nt, σ.tmps, H, σ.ids⟩

def St.addIds (σ : St) (l : List Nat) : St := ⟨σ.nt, σ.tmps, σ.heap, σ.ids ++ l⟩

/-- every object is among those that may be there -/
def Bd (σ : St) : Prop := ∀ q, σ.heap q ≠ none → q ∈ σ.ids

/-- the contracts that are known: of functions, and of such that turn a row -/
structure Tabs where
  con : FuncId → Option Con
  upd : FuncId → Option UCon

abbrev Cons := Tabs

/-- the number of the first region, by which a loop, or a range's body, is known -/
def firstReg : Code → Option Nat
  | .region id _ _ => some id
  | .seq x y => match firstReg x with
    | some i => some i
    | none => firstReg y
  | .cond _ x y => match firstReg x with
    | some i => some i
    | none => firstReg y
  | .block _ x => firstReg x
  | .loop x => firstReg x
  | .scope x => firstReg x
  | _ => none

abbrev RCode := Array Tmp × Code × Code

def rangesOf : Code → List RCode
  | .seq x y => rangesOf x ++ rangesOf y
  | .cond _ x y => rangesOf x ++ rangesOf y
  | .block _ x => rangesOf x
  | .loop x => rangesOf x
  | .scope x => rangesOf x
  | .rangeFunc _ ps asn body => [(ps, asn, body)]
  | _ => []

def RCode.is (x : RCode) (r : Nat) : Bool := match firstReg x.2.2 with
  | some q => Nat.beq q r
  | none => false

def lookR (r : Nat) : List RCode → Option RCode
  | [] => none
  | x :: l => cond (RCode.is x r) (cond (l.any fun y => RCode.is y r) none (some x)) (lookR r l)

theorem lookR_mem {r : Nat} : ∀ {l : List RCode} {x y : RCode}, lookR r l = some y → x ∈ l → RCode.is x r = true → y = x
  | [], x, y, h, hx, _ => by simp at hx
  | z :: l, x, y, h, hx, hr => by
    simp only [lookR] at h
    rcases List.mem_cons.1 hx with rfl | hx
    · rw [hr] at h
      simp only [cond_true] at h
      cases hb : (l.any fun y => RCode.is y r) with
      | true => rw [hb] at h; simp at h
      | false => rw [hb] at h; simpa using h.symm
    · cases hz : RCode.is z r with
      | true =>
        rw [hz] at h
        have : (l.any fun y => RCode.is y r) = true := List.any_eq_true.2 ⟨x, hx, hr⟩
        rw [this] at h; simp at h
      | false => rw [hz] at h; exact lookR_mem h hx hr

/-- a range over a function, by the function and its body's first region -/
def rangeIn (P : Program) (k r : Nat) : Option RCode :=
  match P.funcs[k]? with
  | some fn => match fn.body with
    | some c => lookR r (rangesOf c)
    | none => none
  | none => none

def TabsOK [Glob] (P : Program) (C : Cons) : Prop :=
  (∀ k c, C.con k = some c → c.OK P k) ∧ (∀ k u, C.upd k = some u → u.OK P k) ∧ ∀ k r, Glob.rng k r = rangeIn P k r

/-- the contract of a function that turns a row, where it is called by its name -/
def updOf (C : Cons) (o : Oper) (k : FuncId) : Option UCon :=
  match o.op with
  | .call c => match c.callee with
    | .value (.func k') => cond (Nat.beq k' k) (C.upd k) none
    | _ => none
  | _ => none

def isUpd (C : Cons) (o : Oper) : Bool :=
  match o.op with
  | .call c => match c.callee with
    | .value (.func k) => (C.upd k).isSome
    | _ => false
  | _ => false

theorem updOf_isUpd {C : Cons} {o : Oper} {k : FuncId} {u : UCon} (h : updOf C o k = some u) : isUpd C o = true ∧ C.upd k = some u := by
  unfold updOf at h
  unfold isUpd
  split at h
  · rename_i c hc
    split at h
    · rename_i k' hk
      obtain ⟨h1, h2⟩ := (show Nat.beq k' k = true ∧ C.upd k = some u by
        cases hb : Nat.beq k' k with
        | true => rw [hb] at h; exact ⟨rfl, h⟩
        | false => rw [hb] at h; simp at h)
      have := Nat.eq_of_beq_eq_true h1
      subst this
      exact ⟨by rw [h2]; rfl, h2⟩
    · simp at h
  · simp at h
def conOfC (C : Cons) : Callee → Option Con
  | .fn k => C.con k
  | .yld _ => none

def updOfC (C : Cons) (o : Oper) : Callee → Option UCon
  | .fn k => updOf C o k
  | .yld _ => none

theorem updOfC_isUpd {C : Cons} {o : Oper} {k : Callee} {u : UCon} (h : updOfC C o k = some u) : isUpd C o = true := by
  cases k with
  | fn k => exact (updOf_isUpd h).1
  | yld i => simp [updOfC] at h

abbrev Inl := Nat → Callee → List AV → Heap → List Nat → Option (AV × Heap × List Nat)

/-- what is set, whether it must be new, what is handed back -/
structure Eff where
  sets : List (Nat × HObj)
  new : Bool
  v : AV

def inSite (id : Nat) : List (Nat × HObj) → Bool
  | [] => true
  | (i, _) :: l => Nat.ble id i && ltN i (id + 16) && inSite id l

/-- operations that never look at memory -/
def isR (P : Program) (o : Oper) : Bool :=
  match o.op with
  | .move _ => false
  | .assign _ => false
  | .pick _ _ _ => false
  | .alloc _ => false
  | .box _ _ => false
  | .field _ _ _ => false
  | .binOp _ _ _ _ _ => false
  | .unOp _ _ _ => false
  | .convert s _ _ => match P.underlying s with
    | some (.slice _) => true
    | _ => false
  | .extract _ _ => false
  | .index _ _ _ => false
  | .makeFunc _ _ _ => false
  | _ => true

def conEff (c : Con) (Hh : Heap) (id : Nat) (as : List AV) : Option Eff :=
  match decArgs (readHeap c Hh) c.ps as with
  | some x => match c.f x with
    | some y => some ⟨objRs c.rs y id, true, resAV (encRs c.rs y id)⟩
    | none => none
  | none => none

def exEff (P : Program) (C : Cons) (Hh : Heap) (id : Nat) (o : Oper) (ρ : Operand → AV) : Option Eff :=
  match sem P Hh id o ρ with
  | some (.val c v) => cond c (some ⟨[], false, v⟩) none
  | some (.new c i ob v) => cond c (some ⟨[(i, ob)], true, v⟩) none
  | some (.wr c i ob v) => cond c (some ⟨[(i, ob)], false, v⟩) none
  | some (.nxt c i ob v u) => cond c (some ⟨[(i, ob)], false, v⟩) (some ⟨[], false, u⟩)
  | some (.call k as) => match updOfC C o k with
    | some u => match updOut u Hh as with
      | some (i, ob, v) => some ⟨[(i, ob)], false, v⟩
      | none => none
    | none => match isR P o, conOfC C k with
      | true, some con => conEff con Hh id as
      | _, _ => none
  | none => none

def St.eff (σ : St) (id : Nat) (dst : Option Tmp) (e : Eff) : Option St :=
  cond (e.new && !(freshAll σ.heap e.sets && inSite id e.sets)) none ((σ.with (setAll σ.heap e.sets)).put dst e.v)

def exInl (P : Program) (C : Cons) (F : Inl) (Hh : Heap) (id : Nat) (o : Oper) (ρ : Operand → AV) (H : Heap) (L : List Nat) : Option (AV × Heap × List Nat) :=
  match sem P Hh id o ρ with
  | some (.call k as) => match conOfC C k with
    | some _ => none
    | none => F id k as H L
  | _ => none

def want (ops : Array Oper) (σ : St) (o : Oper) : Option Bool :=
  match o.guard with
  | none => some true
  | some (j, b) => match ops[j]? with
    | some g => match g.dst with
      | some d => match σ.val (.tmp d) with
        | .lit (.bool c) => some (c == b)
        | .lit (.tuple _) => some false
        | _ => none
      | none => some false
    | none => some false

def exOp (P : Program) (C : Cons) (F : Inl) (ops : Array Oper) (hide : Heap → Heap) (id i : Nat) (σ : St) : Option St :=
  match ops[i]? with
  | none => some σ
  | some o => match want ops σ o with
    | some true => match exEff P C (hide σ.heap) id o σ.val with
      | some e => σ.eff id o.dst e
      | none => match exInl P C F (hide σ.heap) id o σ.val σ.heap σ.ids with
        | some (v, H', L') => (⟨σ.nt, σ.tmps, H', L'⟩ : St).put o.dst v
        | none => none
    | some false => σ.put o.dst (.lit undef)
    | none => none

/-- the numbers of the objects that an operation lays -/
def opNew (P : Program) (C : Cons) (ops : Array Oper) (Hh : Heap) (id i : Nat) (σ : St) : List Nat :=
  match ops[i]? with
  | none => []
  | some o => match want ops σ o with
    | some true => match exEff P C Hh id o σ.val with
      | some e => cond e.new (e.sets.map (·.1)) []
      | none => []
    | _ => []

def noInl : Inl := fun _ _ _ _ _ => none

/-- what a call, or a round, comes to -/
def RunC (P : Program) (μ : Mu) (c : Callee) (us : Array Value) (w : World) (R : Ending → World → Prop) : Prop :=
  match c with
  | .fn k => Calls P k us w R
  | .yld i => ∀ b cp, μ i = some ⟨some b, cp⟩ → ∃ f tmps asn body, (Instr.yield b us).run P w = .ok (.round b f tmps asn body) w ∧ RoundIn Fence.wide 0 P b f tmps asn body w R

theorem RunC.mono {P : Program} {μ : Mu} {c : Callee} {us : Array Value} {w : World} {R R' : Ending → World → Prop} (h : RunC P μ c us w R) (hR : ∀ e w', R e w' → R' e w') : RunC P μ c us w R' := by
  cases c with
  | fn k => exact Calls.mono h hR
  | yld i =>
    intro b cp hm
    obtain ⟨f, tmps, asn, body, h1, h2, h3⟩ := h b cp hm
    refine ⟨f, tmps, asn, body, h1, h2, fun c cs hr => ?_⟩
    obtain ⟨e, w', q1, q2⟩ := h3 c cs hr
    exact ⟨e, w', hR e w' q1, q2⟩

abbrev WF (r : Option Nat) : Fence := { Fence.wide with round := r }

theorem callsIn_WF {r : Option Nat} {n : Nat} {P : Program} {f : FuncId} {args : Array Value} {w : World} {R : Ending → World → Prop} : CallsIn (WF r) n P f args w R ↔ Calls P f args w R := callsIn_wide

theorem semAt_of {P : Program} {Hh : Heap} {id : Nat} {o : Oper} {ρa : Operand → AV} {out : Out} {r : Option Nat} {ρ : Operand → Value} (h : sem P Hh id o ρa = some out) : o.semAt r ρ = execOp ρ o := by
  refine Oper.semAt_eq r ρ o fun c hc => ?_
  unfold sem at h
  rw [hc] at h
  simp at h

/-- a call, or a round, as the kit's walk asks for it -/
theorem upon_goes {r : Option Nat} {P : Program} {o : Oper} {a : Act} {next : Act → World → Prop} {Q : Exit → Act → World → Prop} {μ : Mu} {k : Callee} {us : Array Value} {w : World} {res : Result Next}
    (h : Goes P μ w k us res) (hc : RunC P μ k us w fun e w' => ∃ v, e = .returned v ∧ next (a.put o.dst v) w') : o.uponIn (WF r) 0 P a next Q res := by
  cases k with
  | fn k =>
    simp only [Goes] at h
    subst h
    rw [Oper.uponIn_enter]
    refine ⟨fun h => (by cases h), callsIn_WF.2 (Calls.mono hc ?_)⟩
    rintro e w' ⟨v, rfl, h⟩
    exact h
  | yld i =>
    obtain ⟨b, c, hm, rfl⟩ := h
    obtain ⟨f, tmps, asn, body, h1, h2, h3⟩ := hc b c hm
    rw [h1, Oper.uponIn_round]
    refine ⟨fun h => (by cases h), h2, fun c cs hr => ?_⟩
    obtain ⟨e, w', ⟨v, rfl, q1⟩, q2⟩ := h3 c cs hr
    exact ⟨.returned v, w', q1, q2⟩

def InlOK [Glob] (P : Program) (F : Inl) : Prop :=
  ∀ id k as H L v H' L', F id k as H L = some (v, H', L') → (∀ q, H q ≠ none → q ∈ L) → (∀ q, H' q ≠ none → q ∈ L') ∧ ∀ (μ : Mu) (S : Stable) (B : Nat) (w0 w : World) (us : Array Value), Rel μ S H B w0 w → VRs μ S H as us.toList →
    RunC P μ k us w fun e w' => ∃ u μ' S', e = .returned u ∧ VR μ' S' H' v u ∧ Rel μ' S' H' B w0 w' ∧ Carry B μ S H μ' S' H'

section
variable [Glob] {P : Program} {C : Cons} {F : Inl} {r : Option Nat} {N : Stable} {w w0 : World} {μ μ' : Mu} {S S' : Stable} {B : Nat} {σ σ' : St} {a : Act} {H' : Heap} {L' : List Nat} {Q : Exit → Act → World → Prop} {K : Act → World → Prop}

omit [Glob] in
theorem AR.put {B : Nat} (A : AR N μ S σ a) (hc : Carry B μ S σ.heap μ' S' H') {v : AV} {u : Value} (hv : VR μ' S' H' v u) {dst : Option Tmp} (h : (⟨σ.nt, σ.tmps, H', L'⟩ : St).put dst v = some σ') :
    AR N μ' S' σ' (a.put dst u) ∧ σ'.heap = H' := by
  have mk_defers : ∃ ms : List Nat, a.defers = ms.map (fun D => ⟨.collected D, #[]⟩) ∧ Mark S' N ms := by
    obtain ⟨ms, h1, h2, h3⟩ := A.defers
    exact ⟨ms, h1, h2, fun D hD => ⟨(h3 D hD).1, hc.sub _ _ (h3 D hD).2⟩⟩
  cases dst with
  | none =>
    simp only [St.put, Option.some.injEq] at h; subst h
    exact ⟨⟨mk_defers, A.size, fun t ht => hc.vr _ _ (A.tmp t ht)⟩, rfl⟩
  | some d =>
    obtain ⟨hd, rfl⟩ := cond_some h
    have hd := of_ltN hd
    refine ⟨⟨mk_defers, by simp only [Act.put, Array.size_setIfInBounds]; exact A.size, fun t ht => ?_⟩, rfl⟩
    simp only at hd ht ⊢
    by_cases e : t = d
    · subst e
      rw [upd_same]
      simp only [Act.put]
      have : t < a.tmps.size := by rw [A.size]; exact hd
      simpa [Array.getD_eq_getD_getElem?, this] using hv
    · rw [upd_ne _ _ e]
      simp only [Act.put]
      have := hc.vr _ _ (A.tmp t ht)
      rw [Array.getD_eq_getD_getElem?] at this ⊢
      rw [Array.getElem?_setIfInBounds_ne (Ne.symm e)]; exact this

omit [Glob] in
theorem want_ok (A : AR N μ S σ a) {ops : Array Oper} {o : Oper} {b : Bool} (h : want ops σ o = some b) : Region.wanted o (yielded ops a.tmps) = b := by
  unfold want at h
  unfold Region.wanted
  split at h
  · rename_i hg; rw [hg]; simpa using h
  · rename_i j bb hg
    rw [hg]
    simp only [yielded]
    split at h
    · rename_i g hj
      rw [hj]
      simp only [Option.bind_some]
      split at h
      · rename_i d hd
        rw [hd]
        simp only [Option.bind_some]
        have hv : ∀ {x : AV}, σ.val (.tmp d) = x → x ≠ .junk → ∃ u, a.tmps[d]? = some u ∧ VR μ S σ.heap x u := by
          intro x hx hx2
          simp only [St.val] at hx
          cases hl : ltN d σ.nt with
          | false => rw [hl] at hx; exact absurd hx.symm hx2
          | true =>
            rw [hl] at hx
            have := A.tmp d (of_ltN hl)
            simp only [cond_true] at hx
            rw [hx] at this
            have hs : d < a.tmps.size := by rw [A.size]; exact of_ltN hl
            refine ⟨a.tmps[d], by simp [hs], ?_⟩
            simpa [Array.getD_eq_getD_getElem?, hs] using this
        split at h
        · rename_i c hx
          obtain ⟨u, h1, h2⟩ := hv hx (by simp)
          simp only [VR] at h2; subst h2
          rw [h1]
          simp only [Option.some.injEq] at h
          rw [← h]; cases c <;> cases bb <;> rfl
        · rename_i vs hx
          obtain ⟨u, h1, h2⟩ := hv hx (by simp)
          simp only [VR] at h2; subst h2
          rw [h1]
          simp only [Option.some.injEq] at h
          rw [← h]; rfl
        · simp at h
      · rename_i hd
        rw [hd]
        simp only [Option.some.injEq] at h
        rw [← h]; rfl
    · rename_i hj
      rw [hj]
      simp only [Option.some.injEq] at h
      rw [← h]; rfl

theorem exOp_ok (hC : TabsOK P C) (hF : InlOK P F) {ops : Array Oper} {hide : Heap → Heap} (hs : ∀ H i o, hide H i = some o → H i = some o) {id i : Nat}
    (h : exOp P C F ops hide id i σ = some σ') (hBd : Bd σ ∨ F = noInl) (A : AR N μ S σ a) (R : Rel μ S σ.heap B w0 w)
    (hK : ∀ a' w' μ' S', AR N μ' S' σ' a' → Rel μ' S' σ'.heap B w0 w' → Carry B μ S σ.heap μ' S' σ'.heap → K a' w') : wpOpIn (WF r) 0 P ops Q i K a w := by
  unfold exOp at h
  unfold wpOpIn
  split at h
  · rename_i ho
    rw [ho]; cases h
    exact hK a w μ S A R Carry.refl
  · rename_i o ho
    rw [ho]
    split at h
    · rename_i hw
      simp only [want_ok A hw, if_true]
      unfold Oper.wpIn
      refine ⟨fun _ _ => trivial, ?_⟩
      have sub := hs σ.heap
      split at h
      · rename_i e he
        unfold exEff at he
        split at he
        · rename_i c v hsem
          obtain ⟨hc, rfl⟩ := cond_some he
          obtain ⟨n, u, w', μ', k1, k2, k3, k4, k5⟩ := sem_ok sub R (fun x => A.val x) hsem hc rfl
          rw [semAt_of hsem, k1]
          have h' : (σ.with σ.heap).put o.dst v = some σ' := h
          obtain ⟨A', e'⟩ := A.put (Carry.of (B := B) k4) k5 h'
          have fin := hK _ w' μ' S A' (by rw [e']; exact k3) (by rw [e']; exact Carry.of k4)
          rcases k2 with rfl | ⟨rfl, rfl⟩ <;> exact fin
        · rename_i c i' ob v hsem
          obtain ⟨hc, rfl⟩ := cond_some he
          have h2 : (freshAll σ.heap [(i', ob)] && inSite id [(i', ob)]) = true ∧ (σ.with (setAll σ.heap [(i', ob)])).put o.dst v = some σ' := by
            unfold St.eff at h
            cases hb : (freshAll σ.heap [(i', ob)] && inSite id [(i', ob)]) with
            | false => rw [hb] at h; simp at h
            | true => rw [hb] at h; exact ⟨rfl, h⟩
          obtain ⟨h2, h'⟩ := h2
          have hfr : (Out.new c i' ob v).fresh σ.heap = true := by
            simp only [Bool.and_eq_true, freshAll] at h2
            exact h2.1.1
          obtain ⟨n, u, w', μ', k1, k2, k3, k4, k5⟩ := sem_ok sub R (fun x => A.val x) hsem hc hfr
          rw [semAt_of hsem, k1]
          obtain ⟨A', e'⟩ := A.put (Carry.of (B := B) k4) k5 h'
          have fin := hK _ w' μ' S A' (by rw [e']; exact k3) (by rw [e']; exact Carry.of k4)
          rcases k2 with rfl | ⟨rfl, rfl⟩ <;> exact fin
        · rename_i c i' ob v hsem
          obtain ⟨hc, rfl⟩ := cond_some he
          obtain ⟨n, u, w', μ', k1, k2, k3, k4, k5⟩ := sem_ok sub R (fun x => A.val x) hsem hc rfl
          rw [semAt_of hsem, k1]
          have h' : (σ.with (setAll σ.heap [(i', ob)])).put o.dst v = some σ' := h
          obtain ⟨A', e'⟩ := A.put (Carry.of (B := B) k4) k5 h'
          have fin := hK _ w' μ' S A' (by rw [e']; exact k3) (by rw [e']; exact Carry.of k4)
          rcases k2 with rfl | ⟨rfl, rfl⟩ <;> exact fin
        · rename_i c i' ob v u' hsem
          obtain ⟨n, u, w', μ', k1, k2, k3, k4, k5⟩ := sem_ok sub R (fun x => A.val x) hsem rfl rfl
          rw [semAt_of hsem, k1]
          cases c with
          | true =>
            simp only [cond_true, Option.some.injEq] at he; subst he
            have h' : (σ.with (setAll σ.heap [(i', ob)])).put o.dst v = some σ' := h
            obtain ⟨A', e'⟩ := A.put (Carry.of (B := B) k4) k5 h'
            have fin := hK _ w' μ' S A' (by rw [e']; exact k3) (by rw [e']; exact Carry.of k4)
            rcases k2 with rfl | ⟨rfl, rfl⟩ <;> exact fin
          | false =>
            simp only [cond_false, Option.some.injEq] at he; subst he
            have h' : (σ.with σ.heap).put o.dst u' = some σ' := h
            obtain ⟨A', e'⟩ := A.put (Carry.of (B := B) k4) k5 h'
            have fin := hK _ w' μ' S A' (by rw [e']; exact k3) (by rw [e']; exact Carry.of k4)
            rcases k2 with rfl | ⟨rfl, rfl⟩ <;> exact fin
        · rename_i k as hsem
          split at he
          · rename_i u hupd
            split at he
            · rename_i i' ob v hout
              cases he
              obtain ⟨us, k1, k2⟩ := sem_call (w := w) (fun x => A.val x) hsem
              rw [semAt_of hsem]
              cases k with
              | yld _ => simp [updOfC] at hupd
              | fn k =>
              refine upon_goes k1 (RunC.mono (c := .fn k) (call_upd (hC.2.1 _ _ (updOf_isUpd hupd).2) sub R k2 hout) ?_)
              rintro e w' ⟨v, μ', rfl, q1, q2, q3⟩
              refine ⟨_, rfl, ?_⟩
              have h' : (σ.with (upd σ.heap i' (some ob))).put o.dst _ = some σ' := h
              obtain ⟨A', e'⟩ := A.put q3 q1 h'
              exact hK _ w' μ' S A' (by rw [e']; exact q2) (by rw [e']; exact q3)
            · simp at he
          split at he
          · rename_i con _ hcon
            unfold conEff at he
            split at he
            · rename_i x hx
              split at he
              · rename_i y hy
                cases he
                have h2 : (freshAll σ.heap (objRs con.rs y id) && inSite id (objRs con.rs y id)) = true ∧ (σ.with (setAll σ.heap (objRs con.rs y id))).put o.dst (resAV (encRs con.rs y id)) = some σ' := by
                  unfold St.eff at h
                  cases hb : (freshAll σ.heap (objRs con.rs y id) && inSite id (objRs con.rs y id)) with
                  | false => rw [hb] at h; simp at h
                  | true => rw [hb] at h; exact ⟨rfl, h⟩
                obtain ⟨h2, h'⟩ := h2
                simp only [Bool.and_eq_true] at h2
                obtain ⟨us, k1, k2⟩ := sem_call (w := w) (fun x => A.val x) hsem
                rw [semAt_of hsem]
                cases k with
                | yld _ => simp [conOfC] at hcon
                | fn k =>
                refine upon_goes k1 (RunC.mono (c := .fn k) (call_con (hC.1 _ _ hcon) sub R k2 hx hy h2.1) ?_)
                rintro e w' ⟨v, μ', S', rfl, q1, q2, q3⟩
                refine ⟨_, rfl, ?_⟩
                obtain ⟨A', e'⟩ := A.put q3 q1 h'
                exact hK _ w' μ' S' A' (by rw [e']; exact q2) (by rw [e']; exact q3)
              · simp at he
            · simp at he
          · simp at he
        · simp at he
      · split at h
        · rename_i v H' L' hi
          unfold exInl at hi
          split at hi
          · rename_i k as hsem
            split at hi
            · simp at hi
            · obtain ⟨us, k1, k2⟩ := sem_call (w := w) (fun x => A.val x) hsem
              rw [semAt_of hsem]
              have hBd : Bd σ := by
                rcases hBd with h | h
                · exact h
                · subst h; simp [noInl] at hi
              refine upon_goes k1 (((hF _ _ _ _ _ _ _ _ hi hBd).2 μ S B w0 w us R k2).mono ?_)
              rintro e w' ⟨u, μ', S', rfl, q1, q2, q3⟩
              refine ⟨_, rfl, ?_⟩
              obtain ⟨A', e'⟩ := A.put q3 q1 h
              exact hK _ w' μ' S' A' (by rw [e']; exact q2) (by rw [e']; exact q3)
          · simp at hi
        · simp at h
    · rename_i hw
      simp only [want_ok A hw, Bool.false_eq_true, if_false]
      have h' : (σ.with σ.heap).put o.dst (.lit undef) = some σ' := h
      obtain ⟨A', e'⟩ := A.put (Carry.refl (B := B) (H := σ.heap)) (v := .lit undef) (u := undef) (by simp only [VR]) h'
      exact ⟨fun _ _ => trivial, hK _ w μ S A' (by rw [e']; exact R) (by rw [e']; exact Carry.refl)⟩
    · simp at h

omit [Glob] in
theorem setAll_or : ∀ (l : List (Nat × HObj)) (H : Heap) (q : Nat), setAll H l q ≠ none → q ∈ l.map (·.1) ∨ H q ≠ none
  | [], H, q, h => .inr h
  | (i, o) :: l, H, q, h => by
    rcases setAll_or l _ q h with h | h
    · exact .inl (by simp only [List.map_cons, List.mem_cons]; exact .inr h)
    · by_cases e : q = i
      · subst e; exact .inl (by simp)
      · rw [upd_ne _ _ e] at h; exact .inr h

/-- what is overwritten was there -/
def wrOld (Hh : Heap) (e : Eff) : Prop := e.new = false → ∀ q ∈ e.sets.map (·.1), Hh q ≠ none

omit [Glob] in
theorem put_keeps {σ σ' : St} {dst : Option Tmp} {v : AV} (h : σ.put dst v = some σ') : σ'.heap = σ.heap ∧ σ'.ids = σ.ids := by
  cases dst with
  | none => simp only [St.put, Option.some.injEq] at h; subst h; exact ⟨rfl, rfl⟩
  | some d => obtain ⟨_, rfl⟩ := cond_some h; exact ⟨rfl, rfl⟩

omit [Glob] in
theorem eff_keeps {σ σ' : St} {id : Nat} {dst : Option Tmp} {e : Eff} (h : σ.eff id dst e = some σ') : σ'.heap = setAll σ.heap e.sets ∧ σ'.ids = σ.ids := by
  unfold St.eff at h
  cases hb : (e.new && !(freshAll σ.heap e.sets && inSite id e.sets)) with
  | true => rw [hb] at h; simp at h
  | false => rw [hb] at h; exact put_keeps h
end
end Go.Sy
